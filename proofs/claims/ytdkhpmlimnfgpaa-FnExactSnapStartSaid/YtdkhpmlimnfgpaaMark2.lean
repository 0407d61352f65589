/- mark.. of a heap, a painted heap, a snapshot, an aged heap: as a law's walk wants them. Conditions: lengths and numbers within bounds. -/
import Derived.Test.YtdkhpmlimnfgpaaChecked
import Derived.Test.YtdkhpmlimnfgpaaSzP
import Derived.Test.YtdkhpmlimnfgpaaMark
namespace Go.Proofs.Ytdkhpmlimnfgpaa
open Go.RowKit
set_option maxRecDepth 100000
set_option linter.unusedSimpArgs false
set_option linter.unusedVariables false
theorem OHs.sizes {w : World} {A A' : Option Addr} {c c' : Nat} {os : List OCell} {h : HeapM} (ho : OHs w A c A' c' os h.roots) (hm : os.map (·.c) = h.cells) (hs : SmallH h) :
    os.length = h.cells.length ∧ os.length ≤ 1048576 ∧ (∀ o ∈ os, o.c.refs.length ≤ 1048576) ∧ h.roots.length ≤ 1048576 := by
  have hl : os.length = h.cells.length := by rw [← hm, List.length_map]
  refine ⟨hl, by have := hs.cells; omega, fun o ho => hs.refs o.c (by rw [← hm]; exact List.mem_map_of_mem ho), hs.roots⟩
theorem markH_rhs {w : World} {A A' : Option Addr} {c c' : Nat} {os os' : List OCell} {h : HeapM} {k : Int} (hm : os.map (·.c) = h.cells) (ho : OHs w A c A' c' os' (markI h.roots.length (k + (sizeCs (os.map (·.c)) : Int)))) (hm' : os'.map (·.c) = markCs (os.map (·.c)) k) :
    RHs w A A' (markH h k) := by
  rw [hm] at ho hm'
  exact OHs.rhs (h := markH h k) ho hm'
/-- The same as OH, OPt, OTw, with an upper bound too. -/
def OHB (lo hi : Nat) (w : World) (v : Value) (h : HeapM) : Prop :=
  ∃ A c A' c' os, v = .agg #[.slice A h.cells.length c, .slice A' h.roots.length c'] ∧ os.map (·.c) = h.cells ∧ OHs w A c A' c' os h.roots ∧ ∀ g ∈ hblks A os A', lo ≤ g ∧ g < hi
def OPB (lo hi : Nat) (w : World) (v : Value) (p : PaintM) : Prop := ∃ A c A' c' os A2 c2, v = .agg #[.slice A p.store.cells.length c, .slice A' p.store.roots.length c', .slice A2 p.colours.length c2, .bool p.active] ∧
  os.map (·.c) = p.store.cells ∧ OHs w A c A' c' os p.store.roots ∧ OF 3 fi w A2 c2 p.colours ∧ (hblks A os A' ++ blk A2).Nodup ∧ (∀ g ∈ hblks A os A' ++ blk A2, lo ≤ g ∧ g < hi) ∧ p.colours.length ≤ 9223372036854775807
def OTB (lo hi : Nat) (w : World) (v : Value) (p : TwoM) : Prop := ∃ A c A' c' os A2 c2 A3 c3, v = .agg #[.slice A p.store.cells.length c, .slice A' p.store.roots.length c', .slice A2 p.x.length c2, .slice A3 p.y.length c3] ∧
  os.map (·.c) = p.store.cells ∧ OHs w A c A' c' os p.store.roots ∧ OF 4 fb w A2 c2 p.x ∧ OF 4 fb w A3 c3 p.y ∧ (hblks A os A' ++ blk A2 ++ blk A3).Nodup ∧ (∀ g ∈ hblks A os A' ++ blk A2 ++ blk A3, lo ≤ g ∧ g < hi) ∧
  p.x.length ≤ 9223372036854775807 ∧ p.y.length ≤ 9223372036854775807
section
variable {lo hi : Nat} {w w' : World} {v : Value}
theorem OH.toB {h : HeapM} (hh : OH lo w v h) : OHB lo w.heap.size w v h := by
  obtain ⟨A, c, A', c', os, rfl, h1, h2, h3⟩ := hh
  exact ⟨A, c, A', c', os, rfl, h1, h2, fun g hg => ⟨h3 g hg, h2.lt g hg⟩⟩
theorem OPt.toB {p : PaintM} (hh : OPt lo w v p) : OPB lo w.heap.size w v p := by
  obtain ⟨A, c, A', c', os, A2, c2, rfl, h1, h2, h3, h4, h5, h6⟩ := hh
  exact ⟨A, c, A', c', os, A2, c2, rfl, h1, h2, h3, h4, fun g hg => ⟨h5 g hg, (List.mem_append.1 hg).elim (h2.lt g) (h3.lt g)⟩, h6⟩
theorem OTw.toB {p : TwoM} (hh : OTw lo w v p) : OTB lo w.heap.size w v p := by
  obtain ⟨A, c, A', c', os, A2, c2, A3, c3, rfl, h1, h2, h3, h3', h4, h5, h6, h7⟩ := hh
  exact ⟨A, c, A', c', os, A2, c2, A3, c3, rfl, h1, h2, h3, h3', h4, fun g hg => ⟨h5 g hg, (List.mem_append.1 hg).elim (fun hg => (List.mem_append.1 hg).elim (h2.lt g) (h3.lt g)) (h3'.lt g)⟩, h6, h7⟩
/-- What leaves all blocks of lo .. hi - 1 as they were keeps it. -/
theorem OHB.keep {h : HeapM} (hh : OHB lo hi w v h) (hk : ∀ g, lo ≤ g → g < hi → g < w.heap.size → w'.heap[g]? = w.heap[g]?) : OHB lo hi w' v h := by
  obtain ⟨A, c, A', c', os, rfl, h1, h2, h3⟩ := hh
  exact ⟨A, c, A', c', os, rfl, h1, h2.keep fun g hg => hk g (h3 g hg).1 (h3 g hg).2 (h2.lt g hg), h3⟩
theorem OPB.keep {p : PaintM} (hh : OPB lo hi w v p) (hk : ∀ g, lo ≤ g → g < hi → g < w.heap.size → w'.heap[g]? = w.heap[g]?) : OPB lo hi w' v p := by
  obtain ⟨A, c, A', c', os, A2, c2, rfl, h1, h2, h3, h4, h5, h6⟩ := hh
  exact ⟨A, c, A', c', os, A2, c2, rfl, h1, h2.keep fun g hg => hk g (h5 g (List.mem_append.2 (.inl hg))).1 (h5 g (List.mem_append.2 (.inl hg))).2 (h2.lt g hg), h3.keep fun g hg => hk g (h5 g (List.mem_append.2 (.inr hg))).1 (h5 g (List.mem_append.2 (.inr hg))).2 (h3.lt g hg), h4, h5, h6⟩
theorem OTB.keep {p : TwoM} (hh : OTB lo hi w v p) (hk : ∀ g, lo ≤ g → g < hi → g < w.heap.size → w'.heap[g]? = w.heap[g]?) : OTB lo hi w' v p := by
  obtain ⟨A, c, A', c', os, A2, c2, A3, c3, rfl, h1, h2, h3, h3', h4, h5, h6, h7⟩ := hh
  have m1 : ∀ g ∈ hblks A os A', g ∈ hblks A os A' ++ blk A2 ++ blk A3 := fun g hg => List.mem_append.2 (.inl (List.mem_append.2 (.inl hg)))
  have m2 : ∀ g ∈ blk A2, g ∈ hblks A os A' ++ blk A2 ++ blk A3 := fun g hg => List.mem_append.2 (.inl (List.mem_append.2 (.inr hg)))
  have m3 : ∀ g ∈ blk A3, g ∈ hblks A os A' ++ blk A2 ++ blk A3 := fun g hg => List.mem_append.2 (.inr hg)
  exact ⟨A, c, A', c', os, A2, c2, A3, c3, rfl, h1, h2.keep fun g hg => hk g (h5 g (m1 g hg)).1 (h5 g (m1 g hg)).2 (h2.lt g hg), h3.keep fun g hg => hk g (h5 g (m2 g hg)).1 (h5 g (m2 g hg)).2 (h3.lt g hg), h3'.keep fun g hg => hk g (h5 g (m3 g hg)).1 (h5 g (m3 g hg)).2 (h3'.lt g hg), h4, h5, h6, h7⟩
theorem OHB.below {h : HeapM} (hh : OHB lo hi w v h) (hb : Below w.heap.size w w') : OHB lo hi w' v h := hh.keep fun g _ _ hg => hb.block g hg
theorem OPB.below {p : PaintM} (hh : OPB lo hi w v p) (hb : Below w.heap.size w w') : OPB lo hi w' v p := hh.keep fun g _ _ hg => hb.block g hg
theorem OTB.below {p : TwoM} (hh : OTB lo hi w v p) (hb : Below w.heap.size w w') : OTB lo hi w' v p := hh.keep fun g _ _ hg => hb.block g hg
theorem OHB.span {l k : Nat} {h : HeapM} (hh : OHB lo hi w v h) (hb : Span l k w w') (hk : k ≤ lo ∨ hi ≤ l) : OHB lo hi w' v h := hh.keep fun g h1 h2 hg => hb.block g hg (by omega)
theorem OPB.span {l k : Nat} {p : PaintM} (hh : OPB lo hi w v p) (hb : Span l k w w') (hk : k ≤ lo ∨ hi ≤ l) : OPB lo hi w' v p := hh.keep fun g h1 h2 hg => hb.block g hg (by omega)
theorem OTB.span {l k : Nat} {p : TwoM} (hh : OTB lo hi w v p) (hb : Span l k w w') (hk : k ≤ lo ∨ hi ≤ l) : OTB lo hi w' v p := hh.keep fun g h1 h2 hg => hb.block g hg (by omega)
theorem OHB.rd {h : HeapM} (hh : OHB lo hi w v h) : RH w v h := by
  obtain ⟨A, c, A', c', os, rfl, h1, h2, h3⟩ := hh
  exact (h2.rhs h1).rh _ _
theorem OPB.rd {p : PaintM} (hh : OPB lo hi w v p) : RPt w v p := by
  obtain ⟨A, c, A', c', os, A2, c2, rfl, h1, h2, h3, h4, h5, h6⟩ := hh
  exact ⟨A, c, A', c', A2, c2, rfl, h2.rhs h1, h3.rf, h6⟩
theorem OTB.rd {p : TwoM} (hh : OTB lo hi w v p) : RTw w v p := by
  obtain ⟨A, c, A', c', os, A2, c2, A3, c3, rfl, h1, h2, h3, h3', h4, h5, h6, h7⟩ := hh
  exact ⟨A, c, A', c', A2, c2, A3, c3, rfl, h2.rhs h1, h3.rf, h6, h3'.rf, h7⟩
end
/-- A struct in memory: the cells of block b, in order. -/
def Box (w : World) (b : Nat) (vs : List Value) : Prop := ∀ i x, vs[i]? = some x → w.cell? ⟨b, i, none⟩ = some x
theorem Box.below {w w' : World} {b : Nat} {vs : List Value} (h : Box w b vs) (hb : Below w.heap.size w w') : Box w' b vs := fun i x hx => cell_below (h i x hx) hb
theorem Box.span {lo hi : Nat} {w w' : World} {b : Nat} {vs : List Value} (h : Box w b vs) (hb : Span lo hi w w') (hk : b < lo ∨ hi ≤ b) : Box w' b vs := fun i x hx => hb.cell (h i x hx) hk
theorem Box.new (w : World) (vs : List Value) (T : TypeId) : Box (w.alloc (.cells vs.toArray T)) w.heap.size vs := fun i x hx => by
  rw [cell_of_row _ _ i vs.toArray T (0, 0) (heap_alloc_new _ _)]
  simpa using hx
theorem markH_lens (h : HeapM) (k : Int) : (markH h k).cells.length = h.cells.length ∧ (markH h k).roots.length = h.roots.length := ⟨markCs_len _ _, markI_len _ _⟩
theorem markHeap_law (lo hi : Nat) (w : World) (v : Value) (h : HeapM) (k : Int) (ho : OHB lo hi w v h) (hs : SmallH h) (hk0 : 0 ≤ k) (hk1 : k ≤ 1125899906842) :
    Calls Try.prog 21 #[v, .int .i64 k] w fun e w' => e = .returned (.int .i64 (k + (sizeH h : Int))) ∧ RH w' v (markH h k) ∧ Span lo hi w w' := by
  obtain ⟨A, c, A', c', os, rfl, hm, hO, hlo⟩ := ho
  obtain ⟨hl, hl1, hr, hl2⟩ := hO.sizes hm hs
  rw [← hl]
  refine (markHeap_any A A' os h.roots c c' k w hO hl1 hr hl2 hk0 hk1).mono ?_
  rintro e w' ⟨rfl, os', hO', hm', hb, hOn⟩
  refine ⟨ret_int (by rw [hm]; simp [sizeH]; omega), ?_, hOn.span hlo⟩
  have h1 := (markH_rhs hm hO' hm').rh c c'
  rw [(markH_lens h k).1, (markH_lens h k).2, ← hl] at h1
  exact h1
set_option maxHeartbeats 400000 in
theorem markPaint_law (lo hi : Nat) (w : World) (v : Value) (p : PaintM) (k : Int) (ho : OPB lo hi w v p) (hs : SmallH p.store) (hs2 : p.colours.length ≤ 1048576) (hk0 : 0 ≤ k) (hk1 : k ≤ 1125899906842) :
    Calls Try.prog 29 #[v, .int .i64 k] w fun e w' => e = .returned (.int .i64 (k + (sizeP p : Int))) ∧ RPt w' v (markP p k) ∧ Span lo hi w w' := by
  obtain ⟨A, c, A', c', os, A2, c2, rfl, hm, hO, h2, hnd, hlo, h3⟩ := ho
  obtain ⟨hl, hl1, hr, hl2⟩ := hO.sizes hm hs
  rw [← hl]
  have hlt := hO.lt
  have hlt2 := h2.lt
  have hn1 : w.heap.size ∉ hblks A os A' := fun hc => by have := hlt _ hc; omega
  have hap : ∀ g ∈ blk A2, g ∉ hblks A os A' := fun g hg hc => by
    rw [List.nodup_append] at hnd
    exact hnd.2.2 g hc g hg rfl
  have hsz2 : sizeCs (os.map (·.c)) ≤ 1099513724928 := by
    refine Nat.le_trans (sizeCs_bound (os.map (·.c)) 1048576 (by simpa using hr)) ?_
    rw [List.length_map]
    omega
  have HL := Lib.hid hl
  have HM := Lib.hid hm
  have HAP := Lib.hid hap
  have hOw := hO.below (w' := w.alloc (.cells #[.slice A os.length c, .slice A' p.store.roots.length c', .slice A2 p.colours.length c2, .bool p.active] 44)) (by repeat (first | ((with_reducible refine Below.setc ?_ ?_ _); focus (first | omega | (simp; done) | (simp; omega))) | ((with_reducible refine Below.allocc ?_ ?_ _); focus (first | omega | (simp; done) | (simp; omega))) | (with_reducible refine Below.drew ?_) | (with_reducible refine Below.drewn ?_) | (with_reducible assumption) | (with_reducible exact Below.refl _ _) | ((with_reducible refine Below.stepp (by with_reducible assumption) ?_ ?_); focus (first | omega | (simp; done) | (simp; omega)))))
  have h2w := h2.below (w' := w.alloc (.cells #[.slice A os.length c, .slice A' p.store.roots.length c', .slice A2 p.colours.length c2, .bool p.active] 44)) (by repeat (first | ((with_reducible refine Below.setc ?_ ?_ _); focus (first | omega | (simp; done) | (simp; omega))) | ((with_reducible refine Below.allocc ?_ ?_ _); focus (first | omega | (simp; done) | (simp; omega))) | (with_reducible refine Below.drew ?_) | (with_reducible refine Below.drewn ?_) | (with_reducible assumption) | (with_reducible exact Below.refl _ _) | ((with_reducible refine Below.stepp (by with_reducible assumption) ?_ ?_); focus (first | omega | (simp; done) | (simp; omega)))))
  clear hl hm hap
  go_enter Try.func29, Try.ntmps29
  go_wp2_with (go_at_call 21; refine (markHeap_any _ _ os p.store.roots _ _ _ _ hOw hl1 hr hl2 hk0 hk1).mono ?_; rintro e w1 ⟨rfl, os', hO1, hm1, hb1, hOn1⟩; have y1 := hOn1.cell (p := ⟨w.heap.size, 2, none⟩) (v := .slice A2 p.colours.length c2) (by simp [go_sem]) hn1; have hF1 := h2w.only hOn1 HAP.out; have HM1 := Lib.hid hm1; have HB1 := Lib.hid hb1; clear hm1 hb1)
  refine (markIntS_any _ p.colours _ _ _ hF1 (by omega) (by omega) (by omega)).mono ?_
  rintro e w2 ⟨rfl, hF2, hO2⟩
  go_wp2
  go_ret
  have e1 : hblks A os' A' = hblks A os A' := by simp only [hblks, HB1.out]
  have hO1' := hO1.only hO2 (fun g hg hc => HAP.out g hc (by rw [← e1]; exact hg))
  have ha : Only (hblks A os A' ++ blk A2) w (w.alloc (.cells #[.slice A os.length c, .slice A' p.store.roots.length c', .slice A2 p.colours.length c2, .bool p.active] 44)) := (Only.refl _ _).alloc _
  refine ⟨ret_int ?_, ?_, ((ha.trans (hOn1.mono fun g hg => List.mem_append.2 (.inl hg))).trans (hO2.mono fun g hg => List.mem_append.2 (.inr hg))).span hlo⟩
  · rw [HM.out]; simp [sizeP, sizeH]; omega
  · have h1 := markH_rhs HM.out hO1' HM1.out
    refine ⟨A, c, A', c', A2, c2, ?_, h1, ?_, ?_⟩
    · simp only [markP]
      rw [(markH_lens _ _).1, (markH_lens _ _).2, markI_len, ← HL.out]
    · have hx := hF2.rf
      rw [HM.out] at hx
      simp only [markP, sizeH]
      rw [show k + ((sizeCs p.store.cells + p.store.roots.length : Nat) : Int) = k + (sizeCs p.store.cells : Int) + (p.store.roots.length : Int) by omega]
      exact hx
    · simp only [markP, markI_len]
      exact h3
set_option maxHeartbeats 400000 in
theorem markSnap_law (lo hi : Nat) (w : World) (v : Value) (p : TwoM) (k : Int) (ho : OTB lo hi w v p) (hs : SmallH p.store) (hs2 : p.x.length ≤ 1048576) (hs3 : p.y.length ≤ 1048576) (hk0 : 0 ≤ k) (hk1 : k ≤ 1125899906842) :
    Calls Try.prog 22 #[v, .int .i64 k] w fun e w' => e = .returned (.int .i64 (k + (sizeT p : Int))) ∧ RTw w' v (markT p k) ∧ Span lo hi w w' := by
  obtain ⟨A, c, A', c', os, A2, c2, A3, c3, rfl, hm, hO, h2, h3, hnd, hlo, h4, h5⟩ := ho
  obtain ⟨hl, hl1, hr, hl2⟩ := hO.sizes hm hs
  rw [← hl]
  have hlt := hO.lt
  have hlt2 := h2.lt
  have hlt3 := h3.lt
  have hn1 : w.heap.size ∉ hblks A os A' := fun hc => by have := hlt _ hc; omega
  have hn2 : w.heap.size ∉ blk A2 := fun hc => by have := hlt2 _ hc; omega
  simp only [List.nodup_append] at hnd
  have hap : ∀ g ∈ blk A2, g ∉ hblks A os A' := fun g hg hc => hnd.1.2.2 g hc g hg rfl
  have hap2 : ∀ g ∈ blk A3, g ∉ hblks A os A' := fun g hg hc => hnd.2.2 g (List.mem_append.2 (.inl hc)) g hg rfl
  have hap3 : ∀ g ∈ blk A3, g ∉ blk A2 := fun g hg hc => hnd.2.2 g (List.mem_append.2 (.inr hc)) g hg rfl
  have hsz2 : sizeCs (os.map (·.c)) ≤ 1099513724928 := by
    refine Nat.le_trans (sizeCs_bound (os.map (·.c)) 1048576 (by simpa using hr)) ?_
    rw [List.length_map]
    omega
  have HL := Lib.hid hl
  have HM := Lib.hid hm
  have HAP := Lib.hid hap
  have HAP2 := Lib.hid hap2
  have HAP3 := Lib.hid hap3
  have hOw := hO.below (w' := (w.alloc (.cells #[.slice A os.length c, .slice A' p.store.roots.length c', .slice A2 p.x.length c2, .slice A3 p.y.length c3] 32))) (by repeat (first | ((with_reducible refine Below.setc ?_ ?_ _); focus (first | omega | (simp; done) | (simp; omega))) | ((with_reducible refine Below.allocc ?_ ?_ _); focus (first | omega | (simp; done) | (simp; omega))) | (with_reducible refine Below.drew ?_) | (with_reducible refine Below.drewn ?_) | (with_reducible assumption) | (with_reducible exact Below.refl _ _) | ((with_reducible refine Below.stepp (by with_reducible assumption) ?_ ?_); focus (first | omega | (simp; done) | (simp; omega)))))
  have h2w := h2.below (w' := (w.alloc (.cells #[.slice A os.length c, .slice A' p.store.roots.length c', .slice A2 p.x.length c2, .slice A3 p.y.length c3] 32))) (by repeat (first | ((with_reducible refine Below.setc ?_ ?_ _); focus (first | omega | (simp; done) | (simp; omega))) | ((with_reducible refine Below.allocc ?_ ?_ _); focus (first | omega | (simp; done) | (simp; omega))) | (with_reducible refine Below.drew ?_) | (with_reducible refine Below.drewn ?_) | (with_reducible assumption) | (with_reducible exact Below.refl _ _) | ((with_reducible refine Below.stepp (by with_reducible assumption) ?_ ?_); focus (first | omega | (simp; done) | (simp; omega)))))
  have h3w := h3.below (w' := (w.alloc (.cells #[.slice A os.length c, .slice A' p.store.roots.length c', .slice A2 p.x.length c2, .slice A3 p.y.length c3] 32))) (by repeat (first | ((with_reducible refine Below.setc ?_ ?_ _); focus (first | omega | (simp; done) | (simp; omega))) | ((with_reducible refine Below.allocc ?_ ?_ _); focus (first | omega | (simp; done) | (simp; omega))) | (with_reducible refine Below.drew ?_) | (with_reducible refine Below.drewn ?_) | (with_reducible assumption) | (with_reducible exact Below.refl _ _) | ((with_reducible refine Below.stepp (by with_reducible assumption) ?_ ?_); focus (first | omega | (simp; done) | (simp; omega)))))
  clear hl hm hap hap2 hap3 hnd
  go_enter Try.func22, Try.ntmps22
  go_wp2_with (go_at_call 21; refine (markHeap_any _ _ os p.store.roots _ _ _ _ hOw hl1 hr hl2 hk0 hk1).mono ?_; rintro e w1 ⟨rfl, os', hO1, hm1, hb1, hOn1⟩; have y1 := hOn1.cell (p := ⟨w.heap.size, 2, none⟩) (v := .slice A2 p.x.length c2) (by simp [go_sem]) hn1; have y2 := hOn1.cell (p := ⟨w.heap.size, 3, none⟩) (v := .slice A3 p.y.length c3) (by simp [go_sem]) hn1; have hF1 := h2w.only hOn1 HAP.out; have hG1 := h3w.only hOn1 HAP2.out; have HM1 := Lib.hid hm1; have HB1 := Lib.hid hb1; clear hm1 hb1)
  refine (markBoolS_any _ p.x _ _ _ hF1 (by omega) (by omega) (by omega)).mono ?_
  rintro e w2 ⟨rfl, hF2, hO2⟩
  have y3 := hO2.cell y2 hn2
  have hG2 := hG1.only hO2 HAP3.out
  go_wp2_with fail
  refine (markBoolS_any _ p.y _ _ _ hG2 (by omega) (by omega) (by omega)).mono ?_
  rintro e w3 ⟨rfl, hG3, hO3⟩
  go_wp2
  go_ret
  have e1 : hblks A os' A' = hblks A os A' := by simp only [hblks, HB1.out]
  have hO1' := (hO1.only hO2 (fun g hg hc => HAP.out g hc (by rw [← e1]; exact hg))).only hO3 (fun g hg hc => HAP2.out g hc (by rw [← e1]; exact hg))
  have hF3 := hF2.only hO3 (fun g hg hc => HAP3.out g hc hg)
  have ha : Only (hblks A os A' ++ blk A2 ++ blk A3) w (w.alloc (.cells #[.slice A os.length c, .slice A' p.store.roots.length c', .slice A2 p.x.length c2, .slice A3 p.y.length c3] 32)) := (Only.refl _ _).alloc _
  refine ⟨ret_int ?_, ?_, (((ha.trans (hOn1.mono fun g hg => List.mem_append.2 (.inl (List.mem_append.2 (.inl hg))))).trans (hO2.mono fun g hg => List.mem_append.2 (.inl (List.mem_append.2 (.inr hg))))).trans (hO3.mono fun g hg => List.mem_append.2 (.inr hg))).span hlo⟩
  · rw [HM.out]; simp [sizeT, sizeH]; omega
  · have h1 := markH_rhs HM.out hO1' HM1.out
    refine ⟨A, c, A', c', A2, c2, A3, c3, ?_, h1, ?_, ?_, ?_, ?_⟩
    · simp only [markT]
      rw [(markH_lens _ _).1, (markH_lens _ _).2, markB_len, markB_len, ← HL.out]
    · have hx := hF3.rf
      rw [HM.out] at hx
      simp only [markT, sizeH]
      rw [show k + ((sizeCs p.store.cells + p.store.roots.length : Nat) : Int) = k + (sizeCs p.store.cells : Int) + (p.store.roots.length : Int) by omega]
      exact hx
    · simp only [markT, markB_len]
      exact h4
    · have hx := hG3.rf
      rw [HM.out] at hx
      simp only [markT, sizeH]
      rw [show k + ((sizeCs p.store.cells + p.store.roots.length : Nat) : Int) = k + (sizeCs p.store.cells : Int) + (p.store.roots.length : Int) by omega]
      exact hx
    · simp only [markT, markB_len]
      exact h5
end Go.Proofs.Ytdkhpmlimnfgpaa
