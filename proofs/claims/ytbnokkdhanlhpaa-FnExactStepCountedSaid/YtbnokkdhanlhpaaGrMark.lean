/- Texts of one family, one behind the other: Mark, Mark2, Mark3, Held. -/
import Derived.Test.YtbnokkdhanlhpaaChecked
import Derived.Test.YtbnokkdhanlhpaaGrOwn
import Derived.Test.YtbnokkdhanlhpaaGrData
import Derived.Test.YtbnokkdhanlhpaaGrSz
import Derived.Test.YtbnokkdhanlhpaaGrTo
/- mark..: all numbers and flags of a value of the call's own are overwritten; nothing else is. Conditions: lengths and numbers within bounds. -/
namespace Go.Proofs.Ytbnokkdhanlhpaa
open Go.RowKit
set_option maxRecDepth 100000
set_option linter.unusedSimpArgs false
set_option linter.unusedVariables false
theorem mark_step {α : Type} {n j : Nat} {ms xs ys : List α} {m : α} (hm : ms[j]? = some m) (hx : xs.length = n) (hj : j < n) (hy : ys = ms.take j ++ xs.drop j) : ys.set j m = ms.take (j + 1) ++ xs.drop (j + 1) := by
  have hml := (List.getElem?_eq_some_iff.1 hm).1
  subst hy
  rw [List.set_append_right _ _ (by simp; omega), List.length_take, Nat.min_eq_left (by omega), Nat.sub_self, take_snoc_of hm, List.append_assoc]
  congr 1
  rw [List.drop_eq_getElem_cons (by omega)]
  rfl
theorem mark_at {α : Type} {j : Nat} {ms xs ys : List α} {x : α} (hx : xs[j]? = some x) (hm : j ≤ ms.length) (hy : ys = ms.take j ++ xs.drop j) : ys[j]? = some x := by
  subst hy
  rw [List.getElem?_append_right (by simp; omega)]
  simp [Nat.min_eq_left hm, hx]
theorem mark_done {α : Type} {ms xs ys : List α} (hl : ms.length = xs.length) (hy : ys = ms.take xs.length ++ xs.drop xs.length) : ys = ms := by
  rw [hy, ← hl, List.take_length, hl, List.drop_length, List.append_nil]
set_option maxHeartbeats 400000 in
theorem markIntS_any (A : Option Addr) (xs : List Int) (c : Nat) (k : Int) (w : World) (ho : OF 3 fi w A c xs) (hl : xs.length ≤ 1125899906842624) (hk0 : 0 ≤ k) (hk1 : k ≤ 1125899906842624) :
    Calls Try.prog 79 #[.slice A xs.length c, .int .i64 k] w fun e w' => e = .returned (.int .i64 (k + (xs.length : Int))) ∧ OF 3 fi w' A c (markI xs.length k) ∧ Only (blk A) w w' := by
  go_enter Try.func79, Try.ntmps79
  go_wp2
  go_loopw [1, 5] (fun q i wr => ∃ (j : Nat) (ys : List Int), j ≤ xs.length ∧ q = .int .i64 (k + (j : Int)) ∧ i = .int .i64 j ∧ Hid (ys = (markI xs.length k).take j ++ xs.drop j) ∧ OF 3 fi wr A c ys ∧ Only (blk A) w wr) (fun _ i _ => xs.length - (intOf i).toNat)
  case atStart => exact ⟨0, xs, by omega, by simp, rfl, by simp [Hid], ho, Only.refl _ _⟩
  case round =>
    obtain ⟨j, ys, hj, rfl, rfl, HY, hO, hOn⟩ := hrel
    by_cases hlt : j < xs.length
    · obtain ⟨g, rfl, hg⟩ := ho.some_ hlt
      have hy := mark_at (List.getElem?_eq_getElem hlt) (by rw [markI_len]; omega) HY.out
      have c1 : wr.cell? ⟨g, j, none⟩ = some (fi xs[j]) := hO.cell hy
      have f1 := hO.frozen j
      have HS := Lib.hid (mark_step (markI_at k hlt) rfl hlt HY.out)
      clear hy
      go_wp2
      go_roundw
      case rel => exact ⟨j + 1, _, by omega, by go_num, by go_num, HS.out, hO.set_ j _, hOn.setCell (.inl (by simp [blk])) _⟩
      case measure => simp [intOf]; omega
    · have hke : j = xs.length := by omega
      have HK := Lib.hid hke
      clear hke
      go_wp2
      go_ret
      refine ⟨ret_int (by rw [HK.out]), ?_, hOn⟩
      have e := HY.out
      rw [HK.out] at e
      rw [mark_done (markI_len _ _) e] at hO
      exact hO
set_option maxHeartbeats 400000 in
theorem markCellS_any (A : Option Addr) (os : List OCell) (c : Nat) (k : Int) (w : World) (ho : OC w A c os) (hnd : (blks os).Nodup) (hl : os.length ≤ 1048576) (hr : ∀ o ∈ os, o.c.refs.length ≤ 1048576) (hk0 : 0 ≤ k) (hk1 : k ≤ 1125899906842) :
    Calls Try.prog 106 #[.slice A os.length c, .int .i64 k] w fun e w' => e = .returned (.int .i64 (k + (sizeCs (os.map (·.c)) : Int))) ∧ ∃ os', OC w' A c os' ∧ os'.map (·.c) = markCs (os.map (·.c)) k ∧ blks os' = blks os ∧ Only (blk A ++ blks os) w w' := by
  have hsz := sizeCs_bound (os.map (·.c)) 1048576 (by simpa using hr)
  have hsz2 : sizeCs (os.map (·.c)) ≤ 1099513724928 := by
    refine Nat.le_trans hsz ?_
    rw [List.length_map]
    omega
  clear hsz
  go_enter Try.func106, Try.ntmps106
  go_wp2
  go_loopw [1, 5] (fun q i wr => ∃ (j : Nat) (ps : List OCell), j ≤ os.length ∧ q = .int .i64 (k + (sizeCs ((os.map (·.c)).take j) : Int)) ∧ i = .int .i64 j ∧ Hid (ps.map (·.c) = (markCs (os.map (·.c)) k).take j ++ (os.map (·.c)).drop j) ∧ OC wr A c ps ∧ Hid (blks ps = blks os) ∧ Only (blk A ++ blks os) w wr) (fun _ i _ => os.length - (intOf i).toNat)
  case atStart => exact ⟨0, os, by omega, by simp [sizeCs], rfl, by simp [Hid], ho, rfl, Only.refl _ _⟩
  case round =>
    obtain ⟨j, ps, hj, rfl, rfl, HY, hO, HB, hOn⟩ := hrel
    have hpl : ps.length = os.length := by
      have := congrArg List.length HY.out
      simp [markCs_len] at this
      omega
    by_cases hlt : j < os.length
    · obtain ⟨g, rfl, hg⟩ := ho.some_ hlt
      have hgw : g < wr.heap.size := Nat.lt_of_lt_of_le hg hOn.size
      have hp := List.getElem?_eq_getElem (l := ps) (i := j) (by omega)
      generalize ps[j] = p at hp
      have hdx : (os.map (·.c))[j]? = some os[j].c := by rw [List.getElem?_map, List.getElem?_eq_getElem hlt]; rfl
      have hpc : p.c = os[j].c := by
        have h1 := mark_at hdx (by rw [markCs_len, List.length_map]; omega) HY.out
        rw [List.getElem?_map, hp] at h1
        injection h1
      have hrl := hr os[j] (List.getElem_mem hlt)
      have hs := sizeCs_snoc hdx
      have hle := sizeCs_le (os.map (·.c)) j
      have hms := markCs_at (os.map (·.c)) k j _ hdx
      obtain ⟨g', hg', c0, c1, c2, _⟩ := hO.at_ hp
      injection hg' with hg'
      injection hg' with hg'
      subst hg'
      have f0 := hO.frozen (j * 3)
      have f1 := hO.frozen (j * 3 + 1)
      have HO2 := Lib.hid (hO.set2 j p (mk3 (k + (sizeCs ((os.map (·.c)).take j) : Int))) (k + (sizeCs ((os.map (·.c)).take j) : Int) + 1) hp)
      have hprl : p.c.refs.length = os[j].c.refs.length := by rw [hpc]
      have hp2 : (ps.set j ⟨⟨mk3 (k + (sizeCs ((os.map (·.c)).take j) : Int)), k + (sizeCs ((os.map (·.c)).take j) : Int) + 1, p.c.refs⟩, p.A, p.cap⟩)[j]? = some ⟨⟨mk3 (k + (sizeCs ((os.map (·.c)).take j) : Int)), k + (sizeCs ((os.map (·.c)).take j) : Int) + 1, p.c.refs⟩, p.A, p.cap⟩ := by
        rw [List.getElem?_set, if_pos rfl, if_pos (by omega)]
      have hnd2 : (blks (ps.set j ⟨⟨mk3 (k + (sizeCs ((os.map (·.c)).take j) : Int)), k + (sizeCs ((os.map (·.c)).take j) : Int) + 1, p.c.refs⟩, p.A, p.cap⟩)).Nodup := by
        rw [blks_set hp (by rfl), HB.out]; exact hnd
      have HP := Lib.hid hp
      have HP2 := Lib.hid hp2
      have HPC := Lib.hid hpc
      have HPL := Lib.hid hpl
      have HPR := Lib.hid hprl
      have HS := Lib.hid hs
      have HM := Lib.hid hms
      have hpr2 : p.c.refs.length ≤ 1048576 := by omega
      have hO2r := (HO2.out.2 _ (List.mem_of_getElem? hp2)).1
      clear hp hp2 hpc hpl hprl hs hms hdx
      go_wp2_with (go_at_call 79; refine (markIntS_any _ p.c.refs _ _ _ hO2r (by omega) (by omega) (by omega)).mono ?_; rintro e w' ⟨rfl, hR, hOn2⟩)
      go_roundw
      case rel =>
        have hx := HO2.out.refs_ hnd2 j _ HP2.out (markI_len _ _) hOn2 hR
        refine ⟨j + 1, _, by omega, by rw [HS.out, ← HPR.out]; go_num, by go_num, ?_, hx, ?_, ?_⟩
        · unfold Hid
          rw [List.set_set, List.map_set]
          refine mark_step ?_ (List.length_map ..) hlt HY.out
          dsimp only
          rw [HM.out, HPR.out]
          congr 3
          omega
        · unfold Hid
          rw [blks_set HP2.out (by rfl), blks_set HP.out (by rfl), HB.out]
        · refine ((hOn.setCell (.inl (by simp [blk])) _).setCell (.inl (by simp [blk])) _).trans (hOn2.mono fun b hb => ?_)
          rw [← HB.out]
          exact List.mem_append.2 (.inr (mem_blks (List.mem_of_getElem? HP.out) hb))
      case measure => simp [intOf]; omega
    · have hke : j = os.length := by omega
      have HK := Lib.hid hke
      clear hke hpl
      go_wp2
      go_ret
      have hlm : (os.map (·.c)).length = os.length := List.length_map ..
      refine ⟨ret_int (by rw [HK.out, ← hlm, List.take_length]), ps, hO, ?_, HB.out, hOn⟩
      have e := HY.out
      rw [HK.out, ← hlm] at e
      exact mark_done (markCs_len _ _) e
theorem mk_nd {A A' : Option Addr} {os : List OCell} (h : (blk A ++ blks os ++ blk A').Nodup) : (blks os).Nodup ∧ (∀ g ∈ blk A ++ blks os, g ∉ blk A') := by
  simp only [List.nodup_append, List.mem_append] at h ⊢
  exact ⟨h.1.2.1, fun g hg hg' => h.2.2 g hg g hg' rfl⟩
set_option maxHeartbeats 400000 in
theorem markHeap_any (A A' : Option Addr) (os : List OCell) (rs : List Int) (c c' : Nat) (k : Int) (w : World) (ho : OHs w A c A' c' os rs) (hl : os.length ≤ 1048576) (hr : ∀ o ∈ os, o.c.refs.length ≤ 1048576) (hl2 : rs.length ≤ 1048576) (hk0 : 0 ≤ k) (hk1 : k ≤ 1125899906842) :
    Calls Try.prog 78 #[.agg #[.slice A os.length c, .slice A' rs.length c'], .int .i64 k] w fun e w' => e = .returned (.int .i64 (k + (sizeCs (os.map (·.c)) : Int) + (rs.length : Int))) ∧
      ∃ os', OHs w' A c A' c' os' (markI rs.length (k + (sizeCs (os.map (·.c)) : Int))) ∧ os'.map (·.c) = markCs (os.map (·.c)) k ∧ blks os' = blks os ∧ Only (hblks A os A') w w' := by
  have hsz2 : sizeCs (os.map (·.c)) ≤ 1099513724928 := by
    refine Nat.le_trans (sizeCs_bound (os.map (·.c)) 1048576 (by simpa using hr)) ?_
    rw [List.length_map]
    omega
  have hlt := ho.lt
  have hlt1 : ∀ g ∈ blk A ++ blks os, g ≠ w.heap.size := fun g hg => by have := hlt g (List.mem_append.2 (.inl hg)); omega
  have hlt2 : ∀ g ∈ blk A', g ≠ w.heap.size := fun g hg => by have := hlt g (List.mem_append.2 (.inr hg)); omega
  have hni : w.heap.size ∉ blk A ++ blks os := fun h => hlt1 _ h rfl
  have hnd := mk_nd ho.nodup
  have HA := Lib.hid hnd.2
  have hnd1 := hnd.1
  have hC := ho.cells.below (w' := w.alloc (.cells #[.slice A os.length c, .slice A' rs.length c'] 26)) blw_
  have hF := ho.roots.below (w' := w.alloc (.cells #[.slice A os.length c, .slice A' rs.length c'] 26)) blw_
  have HO := Lib.hid ho
  clear ho hlt hlt1 hlt2 hnd
  go_enter Try.func78, Try.ntmps78
  go_wp2_with (go_at_call 106; refine (markCellS_any _ os _ _ _ hC hnd1 hl hr hk0 hk1).mono ?_; rintro e w1 ⟨rfl, os', hC1, hm1, hb1, hO1⟩; have y1 := hO1.cell (p := ⟨w.heap.size, 1, none⟩) (v := .slice A' rs.length c') (by simp [go_sem]) hni; have hF1 := hF.only hO1 (fun g hg hc => HA.out g hc hg); have HM1 := Lib.hid hm1; have HB1 := Lib.hid hb1; clear hm1 hb1)
  refine (markIntS_any _ rs _ _ _ hF1 (by omega) (by omega) (by omega)).mono ?_
  rintro e w2 ⟨rfl, hF2, hO2⟩
  go_wp2
  go_ret
  have hC2 : OC w2 A c os' := hC1.keep fun g hg => by
    rw [HB1.out] at hg
    exact hO2.block g (hC1.lt g (by rw [HB1.out]; exact hg)) (HA.out g hg)
  have hol : os'.length = os.length := by have := congrArg List.length HM1.out; simpa [markCs_len] using this
  refine ⟨rfl, os', ⟨hC2, hF2, by rw [HB1.out]; exact HO.out.nodup, by omega, by rw [markI_len]; omega⟩, HM1.out, HB1.out, ?_⟩
  have ha : Only (hblks A os A') w (w.alloc (.cells #[.slice A os.length c, .slice A' rs.length c'] 26)) := (Only.refl _ _).alloc _
  exact (ha.trans (hO1.mono fun g hg => List.mem_append.2 (.inl hg))).trans (hO2.mono fun g hg => List.mem_append.2 (.inr hg))
end Go.Proofs.Ytbnokkdhanlhpaa

/- mark.. of a heap, a painted heap, a snapshot, an aged heap: as a law's walk wants them. Conditions: lengths and numbers within bounds. -/
namespace Go.Proofs.Ytbnokkdhanlhpaa
open Go.RowKit
set_option maxRecDepth 100000
set_option linter.unusedSimpArgs false
set_option linter.unusedVariables false
theorem OHs.sizes {w : World} {A A' : Option Addr} {c c' : Nat} {os : List OCell} {h : HeapM} (ho : OHs w A c A' c' os h.roots) (hm : os.map (·.c) = h.cells) (hs : SmallH h) :
    os.length = h.cells.length ∧ os.length ≤ 1048576 ∧ (∀ o ∈ os, o.c.refs.length ≤ 1048576) ∧ h.roots.length ≤ 1048576 := by
  have hl : os.length = h.cells.length := by rw [← hm, List.length_map]
  refine ⟨hl, by have := hs.cells; omega, fun o ho => hs.refs o.c (by rw [← hm]; exact List.mem_map_of_mem ho), hs.roots⟩
theorem markH_rhs {w : World} {A A' : Option Addr} {c c' : Nat} {os os' : List OCell} {h : HeapM} {k : Int} (hm : os.map (·.c) = h.cells) (ho : OHs w A c A' c' os' (markI h.roots.length (k + (sizeCs (os.map (·.c)) : Int)))) (hm' : os'.map (·.c) = markCs (os.map (·.c)) k) :
    RHs w A A' (markH h k) := by
  rw [hm] at ho hm'
  exact OHs.rhs (h := markH h k) ho hm'
/-- The same as OH, OPt, OTw, with an upper bound too. -/
def OHB (lo hi : Nat) (w : World) (v : Value) (h : HeapM) : Prop :=
  ∃ A c A' c' os, v = .agg #[.slice A h.cells.length c, .slice A' h.roots.length c'] ∧ os.map (·.c) = h.cells ∧ OHs w A c A' c' os h.roots ∧ ∀ g ∈ hblks A os A', lo ≤ g ∧ g < hi
def OPB (lo hi : Nat) (w : World) (v : Value) (p : PaintM) : Prop := ∃ A c A' c' os A2 c2, v = .agg #[.slice A p.store.cells.length c, .slice A' p.store.roots.length c', .slice A2 p.colours.length c2, .bool p.active] ∧
  os.map (·.c) = p.store.cells ∧ OHs w A c A' c' os p.store.roots ∧ OF 3 fi w A2 c2 p.colours ∧ (hblks A os A' ++ blk A2).Nodup ∧ (∀ g ∈ hblks A os A' ++ blk A2, lo ≤ g ∧ g < hi) ∧ p.colours.length ≤ 9223372036854775807
def OTB (lo hi : Nat) (w : World) (v : Value) (p : TwoM) : Prop := ∃ A c A' c' os A2 c2 A3 c3, v = .agg #[.slice A p.store.cells.length c, .slice A' p.store.roots.length c', .slice A2 p.x.length c2, .slice A3 p.y.length c3] ∧
  os.map (·.c) = p.store.cells ∧ OHs w A c A' c' os p.store.roots ∧ OF 4 fb w A2 c2 p.x ∧ OF 4 fb w A3 c3 p.y ∧ (hblks A os A' ++ blk A2 ++ blk A3).Nodup ∧ (∀ g ∈ hblks A os A' ++ blk A2 ++ blk A3, lo ≤ g ∧ g < hi) ∧
  p.x.length ≤ 9223372036854775807 ∧ p.y.length ≤ 9223372036854775807
section
variable {lo hi : Nat} {w w' : World} {v : Value}
theorem OH.toB {h : HeapM} (hh : OH lo w v h) : OHB lo w.heap.size w v h := by
  obtain ⟨A, c, A', c', os, rfl, h1, h2, h3⟩ := hh
  exact ⟨A, c, A', c', os, rfl, h1, h2, fun g hg => ⟨h3 g hg, h2.lt g hg⟩⟩
theorem OPt.toB {p : PaintM} (hh : OPt lo w v p) : OPB lo w.heap.size w v p := by
  obtain ⟨A, c, A', c', os, A2, c2, rfl, h1, h2, h3, h4, h5, h6⟩ := hh
  exact ⟨A, c, A', c', os, A2, c2, rfl, h1, h2, h3, h4, fun g hg => ⟨h5 g hg, (List.mem_append.1 hg).elim (h2.lt g) (h3.lt g)⟩, h6⟩
theorem OTw.toB {p : TwoM} (hh : OTw lo w v p) : OTB lo w.heap.size w v p := by
  obtain ⟨A, c, A', c', os, A2, c2, A3, c3, rfl, h1, h2, h3, h3', h4, h5, h6, h7⟩ := hh
  exact ⟨A, c, A', c', os, A2, c2, A3, c3, rfl, h1, h2, h3, h3', h4, fun g hg => ⟨h5 g hg, (List.mem_append.1 hg).elim (fun hg => (List.mem_append.1 hg).elim (h2.lt g) (h3.lt g)) (h3'.lt g)⟩, h6, h7⟩
/-- What leaves all blocks of lo .. hi - 1 as they were keeps it. -/
theorem OHB.keep {h : HeapM} (hh : OHB lo hi w v h) (hk : ∀ g, lo ≤ g → g < hi → g < w.heap.size → w'.heap[g]? = w.heap[g]?) : OHB lo hi w' v h := by
  obtain ⟨A, c, A', c', os, rfl, h1, h2, h3⟩ := hh
  exact ⟨A, c, A', c', os, rfl, h1, h2.keep fun g hg => hk g (h3 g hg).1 (h3 g hg).2 (h2.lt g hg), h3⟩
theorem OPB.keep {p : PaintM} (hh : OPB lo hi w v p) (hk : ∀ g, lo ≤ g → g < hi → g < w.heap.size → w'.heap[g]? = w.heap[g]?) : OPB lo hi w' v p := by
  obtain ⟨A, c, A', c', os, A2, c2, rfl, h1, h2, h3, h4, h5, h6⟩ := hh
  exact ⟨A, c, A', c', os, A2, c2, rfl, h1, h2.keep fun g hg => hk g (h5 g (List.mem_append.2 (.inl hg))).1 (h5 g (List.mem_append.2 (.inl hg))).2 (h2.lt g hg), h3.keep fun g hg => hk g (h5 g (List.mem_append.2 (.inr hg))).1 (h5 g (List.mem_append.2 (.inr hg))).2 (h3.lt g hg), h4, h5, h6⟩
theorem OTB.keep {p : TwoM} (hh : OTB lo hi w v p) (hk : ∀ g, lo ≤ g → g < hi → g < w.heap.size → w'.heap[g]? = w.heap[g]?) : OTB lo hi w' v p := by
  obtain ⟨A, c, A', c', os, A2, c2, A3, c3, rfl, h1, h2, h3, h3', h4, h5, h6, h7⟩ := hh
  have m1 : ∀ g ∈ hblks A os A', g ∈ hblks A os A' ++ blk A2 ++ blk A3 := fun g hg => List.mem_append.2 (.inl (List.mem_append.2 (.inl hg)))
  have m2 : ∀ g ∈ blk A2, g ∈ hblks A os A' ++ blk A2 ++ blk A3 := fun g hg => List.mem_append.2 (.inl (List.mem_append.2 (.inr hg)))
  have m3 : ∀ g ∈ blk A3, g ∈ hblks A os A' ++ blk A2 ++ blk A3 := fun g hg => List.mem_append.2 (.inr hg)
  exact ⟨A, c, A', c', os, A2, c2, A3, c3, rfl, h1, h2.keep fun g hg => hk g (h5 g (m1 g hg)).1 (h5 g (m1 g hg)).2 (h2.lt g hg), h3.keep fun g hg => hk g (h5 g (m2 g hg)).1 (h5 g (m2 g hg)).2 (h3.lt g hg), h3'.keep fun g hg => hk g (h5 g (m3 g hg)).1 (h5 g (m3 g hg)).2 (h3'.lt g hg), h4, h5, h6, h7⟩
theorem OHB.below {h : HeapM} (hh : OHB lo hi w v h) (hb : Below w.heap.size w w') : OHB lo hi w' v h := hh.keep fun g _ _ hg => hb.block g hg
theorem OPB.below {p : PaintM} (hh : OPB lo hi w v p) (hb : Below w.heap.size w w') : OPB lo hi w' v p := hh.keep fun g _ _ hg => hb.block g hg
theorem OTB.below {p : TwoM} (hh : OTB lo hi w v p) (hb : Below w.heap.size w w') : OTB lo hi w' v p := hh.keep fun g _ _ hg => hb.block g hg
theorem OHB.span {l k : Nat} {h : HeapM} (hh : OHB lo hi w v h) (hb : Span l k w w') (hk : k ≤ lo ∨ hi ≤ l) : OHB lo hi w' v h := hh.keep fun g h1 h2 hg => hb.block g hg (by omega)
theorem OPB.span {l k : Nat} {p : PaintM} (hh : OPB lo hi w v p) (hb : Span l k w w') (hk : k ≤ lo ∨ hi ≤ l) : OPB lo hi w' v p := hh.keep fun g h1 h2 hg => hb.block g hg (by omega)
theorem OTB.span {l k : Nat} {p : TwoM} (hh : OTB lo hi w v p) (hb : Span l k w w') (hk : k ≤ lo ∨ hi ≤ l) : OTB lo hi w' v p := hh.keep fun g h1 h2 hg => hb.block g hg (by omega)
theorem OHB.rd {h : HeapM} (hh : OHB lo hi w v h) : RH w v h := by
  obtain ⟨A, c, A', c', os, rfl, h1, h2, h3⟩ := hh
  exact (h2.rhs h1).rh _ _
theorem OPB.rd {p : PaintM} (hh : OPB lo hi w v p) : RPt w v p := by
  obtain ⟨A, c, A', c', os, A2, c2, rfl, h1, h2, h3, h4, h5, h6⟩ := hh
  exact ⟨A, c, A', c', A2, c2, rfl, h2.rhs h1, h3.rf, h6⟩
theorem OTB.rd {p : TwoM} (hh : OTB lo hi w v p) : RTw w v p := by
  obtain ⟨A, c, A', c', os, A2, c2, A3, c3, rfl, h1, h2, h3, h3', h4, h5, h6, h7⟩ := hh
  exact ⟨A, c, A', c', A2, c2, A3, c3, rfl, h2.rhs h1, h3.rf, h6, h3'.rf, h7⟩
end
/-- A struct in memory: the cells of block b, in order. -/
def Box (w : World) (b : Nat) (vs : List Value) : Prop := ∀ i x, vs[i]? = some x → w.cell? ⟨b, i, none⟩ = some x
theorem Box.below {w w' : World} {b : Nat} {vs : List Value} (h : Box w b vs) (hb : Below w.heap.size w w') : Box w' b vs := fun i x hx => cell_below (h i x hx) hb
theorem Box.span {lo hi : Nat} {w w' : World} {b : Nat} {vs : List Value} (h : Box w b vs) (hb : Span lo hi w w') (hk : b < lo ∨ hi ≤ b) : Box w' b vs := fun i x hx => hb.cell (h i x hx) hk
theorem Box.new (w : World) (vs : List Value) (T : TypeId) : Box (w.alloc (.cells vs.toArray T)) w.heap.size vs := fun i x hx => by
  rw [cell_of_row _ _ i vs.toArray T (0, 0) (heap_alloc_new _ _)]
  simpa using hx
theorem markH_lens (h : HeapM) (k : Int) : (markH h k).cells.length = h.cells.length ∧ (markH h k).roots.length = h.roots.length := ⟨markCs_len _ _, markI_len _ _⟩
theorem markHeap_law (lo hi : Nat) (w : World) (v : Value) (h : HeapM) (k : Int) (ho : OHB lo hi w v h) (hs : SmallH h) (hk0 : 0 ≤ k) (hk1 : k ≤ 1125899906842) :
    Calls Try.prog 78 #[v, .int .i64 k] w fun e w' => e = .returned (.int .i64 (k + (sizeH h : Int))) ∧ RH w' v (markH h k) ∧ Span lo hi w w' := by
  obtain ⟨A, c, A', c', os, rfl, hm, hO, hlo⟩ := ho
  obtain ⟨hl, hl1, hr, hl2⟩ := hO.sizes hm hs
  rw [← hl]
  refine (markHeap_any A A' os h.roots c c' k w hO hl1 hr hl2 hk0 hk1).mono ?_
  rintro e w' ⟨rfl, os', hO', hm', hb, hOn⟩
  refine ⟨ret_int (by rw [hm]; simp [sizeH]; omega), ?_, hOn.span hlo⟩
  have h1 := (markH_rhs hm hO' hm').rh c c'
  rw [(markH_lens h k).1, (markH_lens h k).2, ← hl] at h1
  exact h1
end Go.Proofs.Ytbnokkdhanlhpaa

/- What the walks of the exact laws want besides: lists of the call's own that survive marks elsewhere; boxes; bounds of sizes. -/
namespace Go.Proofs.Ytbnokkdhanlhpaa
open Go.RowKit
theorem fact_then {P Q : Prop} (h : P) (k : P → Q) : Q := k h
theorem Box.of2 {w : World} {b : Nat} {x0 x1 : Value} (h0 : w.cell? ⟨b, 0, none⟩ = some x0) (h1 : w.cell? ⟨b, 1, none⟩ = some x1) : Box w b [x0, x1] := fun i x hx => by
  match i, hx with
  | 0, hx => simp at hx; subst hx; exact h0
  | 1, hx => simp at hx; subst hx; exact h1
  | i + 2, hx => simp at hx
theorem Box.of3 {w : World} {b : Nat} {x0 x1 x2 : Value} (h0 : w.cell? ⟨b, 0, none⟩ = some x0) (h1 : w.cell? ⟨b, 1, none⟩ = some x1) (h2 : w.cell? ⟨b, 2, none⟩ = some x2) : Box w b [x0, x1, x2] := fun i x hx => by
  match i, hx with
  | 0, hx => simp at hx; subst hx; exact h0
  | 1, hx => simp at hx; subst hx; exact h1
  | 2, hx => simp at hx; subst hx; exact h2
  | i + 3, hx => simp at hx
theorem Box.of4 {w : World} {b : Nat} {x0 x1 x2 x3 : Value} (h0 : w.cell? ⟨b, 0, none⟩ = some x0) (h1 : w.cell? ⟨b, 1, none⟩ = some x1) (h2 : w.cell? ⟨b, 2, none⟩ = some x2) (h3 : w.cell? ⟨b, 3, none⟩ = some x3) : Box w b [x0, x1, x2, x3] := fun i x hx => by
  match i, hx with
  | 0, hx => simp at hx; subst hx; exact h0
  | 1, hx => simp at hx; subst hx; exact h1
  | 2, hx => simp at hx; subst hx; exact h2
  | 3, hx => simp at hx; subst hx; exact h3
  | i + 4, hx => simp at hx
/-- A list of instructions, of numbers, in block g of the call's own. -/
def OOB (g : Nat) (w : World) (l : List CmdM) : Prop := OO w (some ⟨g, 0, none⟩) l.length l
def OIB (g : Nat) (w : World) (l : List Int) : Prop := OF 3 fi w (some ⟨g, 0, none⟩) l.length l
section
variable {g : Nat} {w w' : World}
theorem OOB.below {l : List CmdM} (h : OOB g w l) (hb : Below w.heap.size w w') : OOB g w' l := OO.below h hb
theorem OIB.below {l : List Int} (h : OIB g w l) (hb : Below w.heap.size w w') : OIB g w' l := OF.below h hb
theorem OOB.span {l : List CmdM} {lo hi : Nat} (h : OOB g w l) (hb : Span lo hi w w') (hk : g < lo ∨ hi ≤ g) : OOB g w' l := OO.keep h fun g' hg' => by rw [mem_blk_some hg']; exact hb.block g (by have := OO.lt h g (by simp [blk]); exact this) hk
theorem OIB.span {l : List Int} {lo hi : Nat} (h : OIB g w l) (hb : Span lo hi w w') (hk : g < lo ∨ hi ≤ g) : OIB g w' l := OF.keep h fun g' hg' => by rw [mem_blk_some hg']; exact hb.block g (by have := OF.lt h g (by simp [blk]); exact this) hk
theorem OOB.ro {l : List CmdM} (h : OOB g w l) : RO w (some ⟨g, 0, none⟩) l := OO.ro h
theorem OIB.rf {l : List Int} (h : OIB g w l) : RF fi w (some ⟨g, 0, none⟩) l := OF.rf h
end
theorem markCommandS_law (g : Nat) (l : List CmdM) (k : Int) (w : World) (ho : OOB g w l) (hl : l.length ≤ 1048576) (hk0 : 0 ≤ k) (hk1 : k ≤ 1125899906842624) :
    Calls Try.prog 33 #[.slice (some ⟨g, 0, none⟩) l.length l.length, .int .i64 k] w fun e w' => e = .returned (.int .i64 (k + 4 * (l.length : Int))) ∧ Span g (g + 1) w w' :=
  (markCommandS_any _ l _ k w ho hl hk0 hk1).mono fun e w' ⟨h1, h2⟩ => ⟨h1, h2.span fun g' hg' => by rw [mem_blk_some hg']; omega⟩
theorem markIntS_law (g : Nat) (l : List Int) (k : Int) (w : World) (ho : OIB g w l) (hl : l.length ≤ 1048576) (hk0 : 0 ≤ k) (hk1 : k ≤ 1125899906842624) :
    Calls Try.prog 79 #[.slice (some ⟨g, 0, none⟩) l.length l.length, .int .i64 k] w fun e w' => e = .returned (.int .i64 (k + (l.length : Int))) ∧ Span g (g + 1) w w' :=
  (markIntS_any _ l _ k w ho (by omega) hk0 hk1).mono fun e w' ⟨h1, _, h2⟩ => ⟨h1, h2.span fun g' hg' => by rw [mem_blk_some hg']; omega⟩
theorem sizeH_bound {h : HeapM} (hs : SmallH h) : sizeH h ≤ 1099514773504 := by
  have h1 := sizeCs_bound h.cells 1048576 hs.refs
  have h2 := hs.cells
  have h3 := hs.roots
  have h4 : h.cells.length * (1048576 + 2) ≤ 1048576 * (1048576 + 2) := Nat.mul_le_mul_right _ h2
  unfold sizeH
  omega
theorem sizeP_bound {p : PaintM} (hs : SmallH p.store) (h2 : p.colours.length ≤ 1048576) : sizeP p ≤ 1099515822080 := by
  have := sizeH_bound hs
  unfold sizeP
  omega
theorem sizeN_bound {p : CountM} (hs : SmallH p.store) (h2 : p.counts.length ≤ 1048576) : sizeN p ≤ 1099515822080 := by
  have := sizeH_bound hs
  unfold sizeN
  omega
theorem sizeT_bound {p : TwoM} (hs : SmallH p.store) (h2 : p.x.length ≤ 1048576) (h3 : p.y.length ≤ 1048576) : sizeT p ≤ 1099516870656 := by
  have := sizeH_bound hs
  unfold sizeT
  omega
end Go.Proofs.Ytbnokkdhanlhpaa

/- held..: of values that hold the marks, they say so, and leave memory as it is but for new boxes. Conditions: lengths and numbers within bounds. -/
namespace Go.Proofs.Ytbnokkdhanlhpaa
open Go.RowKit
set_option maxRecDepth 100000
set_option linter.unusedSimpArgs false
set_option linter.unusedVariables false
set_option maxHeartbeats 400000 in
theorem heldIntS_any (A : Option Addr) (n c : Nat) (k : Int) (w : World) (hr : RF fi w A (markI n k)) (hl : n ≤ 1125899906842624) (hk0 : 0 ≤ k) (hk1 : k ≤ 1125899906842624) :
    Calls Try.prog 81 #[.slice A n c, .int .i64 k] w fun e w' => e = .returned (.int .i64 (k + (n : Int))) ∧ w = w' := by
  go_enter Try.func81, Try.ntmps81
  go_wp2
  go_loop [1, 5] (fun q i => ∃ j : Nat, j ≤ n ∧ q = .int .i64 (k + (j : Int)) ∧ i = .int .i64 j) (fun _ i => n - (intOf i).toNat)
  case atStart => exact ⟨0, by omega, by simp, rfl⟩
  case round =>
    obtain ⟨j, hj, rfl, rfl⟩ := hrel
    by_cases hlt : j < n
    · obtain ⟨b, o, x, rfl, hx, c1, hb⟩ := hr.at_ (k := j) (by rw [markI_len]; exact hlt)
      rw [markI_at k hlt] at hx
      injection hx with hx
      subst hx
      have c2 : w.cell? ⟨b, o + j, none⟩ = some (.int .i64 (k + (j : Int))) := c1
      clear c1
      go_wp2
      go_round
      case rel => exact ⟨j + 1, by omega, by go_num, by go_num⟩
      case measure => simp [intOf]; omega
    · have hke : j = n := by omega
      have HK := Lib.hid hke
      clear hke
      go_wp2
      go_ret
      exact ⟨ret_int (by rw [HK.out]), rfl⟩
set_option maxHeartbeats 400000 in
theorem heldCellS_any (A : Option Addr) (cs : List CellM) (c : Nat) (k : Int) (w : World) (hc : RC w A (markCs cs k)) (hl : cs.length ≤ 1048576) (hr : ∀ d ∈ cs, d.refs.length ≤ 1048576) (hk0 : 0 ≤ k) (hk1 : k ≤ 1125899906842) :
    Calls Try.prog 107 #[.slice A cs.length c, .int .i64 k] w fun e w' => e = .returned (.int .i64 (k + (sizeCs cs : Int))) ∧ w = w' := by
  have hsz2 : sizeCs cs ≤ 1099513724928 := by
    refine Nat.le_trans (sizeCs_bound cs 1048576 hr) ?_
    omega
  go_enter Try.func107, Try.ntmps107
  go_wp2
  go_loop [1, 5] (fun q i => ∃ j : Nat, j ≤ cs.length ∧ q = .int .i64 (k + (sizeCs (cs.take j) : Int)) ∧ i = .int .i64 j) (fun _ i => cs.length - (intOf i).toNat)
  case atStart => exact ⟨0, by omega, by simp [sizeCs], rfl⟩
  case round =>
    obtain ⟨j, hj, rfl, rfl⟩ := hrel
    by_cases hlt : j < cs.length
    · obtain ⟨b, o, x, Ar, cr, rfl, gx, x0, x1, x2, hrx, hlx, hb⟩ := hc.at_ (k := j) (by rw [markCs_len]; exact hlt)
      have hd := List.getElem?_eq_getElem hlt
      rw [markCs_at cs k j _ hd] at gx
      injection gx with gx
      subst gx
      have hs := sizeCs_snoc hd
      have hle := sizeCs_le cs j
      have hrl := hr cs[j] (List.getElem_mem hlt)
      have HS := Lib.hid hs
      have y0 : w.cell? ⟨b, o + j * 3, none⟩ = some (.bool ((k + (sizeCs (cs.take j) : Int)) % 3 == 0)) := x0
      have y1 : w.cell? ⟨b, o + j * 3 + 1, none⟩ = some (.int .i64 (k + (sizeCs (cs.take j) : Int) + 1)) := x1
      have y2 : w.cell? ⟨b, o + j * 3 + 2, none⟩ = some (.slice Ar (markI cs[j].refs.length (k + (sizeCs (cs.take j) : Int) + 2)).length cr) := x2
      rw [markI_len] at y2
      have hrx' : RF fi w Ar (markI cs[j].refs.length (k + (sizeCs (cs.take j) : Int) + 1 + 1)) := by rw [show k + (sizeCs (cs.take j) : Int) + 1 + 1 = k + (sizeCs (cs.take j) : Int) + 2 by omega]; exact hrx
      clear hs hd x0 x1 x2 hrx hlx
      go_wp2_with (go_at_call 81; refine (heldIntS_any _ cs[j].refs.length _ _ _ hrx' (by omega) (by omega) (by omega)).mono ?_; rintro e w' ⟨rfl, rfl⟩)
      go_round
      case rel => exact ⟨j + 1, by omega, by rw [HS.out]; go_num, by go_num⟩
      case measure => simp [intOf]; omega
    · have hke : j = cs.length := by omega
      have HK := Lib.hid hke
      clear hke
      go_wp2
      go_ret
      exact ⟨ret_int (by rw [HK.out, List.take_length]), rfl⟩
theorem sizeCs_small {h : HeapM} (hs : SmallH h) : sizeCs h.cells ≤ 1099513724928 := by
  refine Nat.le_trans (sizeCs_bound h.cells 1048576 hs.refs) ?_
  have := hs.cells
  omega
set_option maxHeartbeats 400000 in
theorem heldHeap_any (v : Value) (h : HeapM) (k : Int) (w : World) (hv : RH w v (markH h k)) (hs : SmallH h) (hk0 : 0 ≤ k) (hk1 : k ≤ 1125899906842) :
    Calls Try.prog 80 #[v, .int .i64 k] w fun e w' => e = .returned (.int .i64 (k + (sizeH h : Int))) ∧ Below w.heap.size w w' := by
  obtain ⟨A, c, A', c', rfl, hc, hr, -, -⟩ := hv
  have hz := sizeCs_small hs
  have h1 := hs.cells
  have h2 := hs.refs
  have h3 := hs.roots
  rw [show (markH h k).cells.length = h.cells.length from markCs_len _ _, show (markH h k).roots.length = h.roots.length from markI_len _ _]
  have hc' : RC (w.alloc (.cells #[.slice A h.cells.length c, .slice A' h.roots.length c'] 26)) A (markCs h.cells k) := RC.below (cs := markCs h.cells k) hc blw_
  have hr' : RF fi (w.alloc (.cells #[.slice A h.cells.length c, .slice A' h.roots.length c'] 26)) A' (markI h.roots.length (k + (sizeCs h.cells : Int))) := RF.below (xs := markI h.roots.length (k + (sizeCs h.cells : Int))) hr blw_
  clear hc hr
  go_enter Try.func80, Try.ntmps80
  go_wp2_with (first | (go_at_call 107; refine (heldCellS_any _ h.cells _ _ _ hc' (by omega) h2 (by omega) (by omega)).mono ?_; rintro e w' ⟨rfl, rfl⟩) | (go_at_call 81; refine (heldIntS_any _ h.roots.length _ _ _ hr' (by omega) (by omega) (by omega)).mono ?_; rintro e w' ⟨rfl, rfl⟩))
  go_ret
  exact ⟨ret_int (by simp [sizeH]; omega), blw_⟩
end Go.Proofs.Ytbnokkdhanlhpaa
