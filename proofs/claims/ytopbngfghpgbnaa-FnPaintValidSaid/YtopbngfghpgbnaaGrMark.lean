/- Texts of one family, one behind the other: Mark, Mark2. -/
import Derived.Test.YtopbngfghpgbnaaChecked
import Derived.Test.YtopbngfghpgbnaaGrOwn
import Derived.Test.YtopbngfghpgbnaaGrData
import Derived.Test.YtopbngfghpgbnaaGrSz
/- mark..: all numbers and flags of a value of the call's own are overwritten; nothing else is. Conditions: lengths and numbers within bounds. -/
namespace Go.Proofs.Ytopbngfghpgbnaa
open Go.RowKit
set_option maxRecDepth 100000
set_option linter.unusedSimpArgs false
set_option linter.unusedVariables false
theorem mark_step {α : Type} {n j : Nat} {ms xs ys : List α} {m : α} (hm : ms[j]? = some m) (hx : xs.length = n) (hj : j < n) (hy : ys = ms.take j ++ xs.drop j) : ys.set j m = ms.take (j + 1) ++ xs.drop (j + 1) := by
  have hml := (List.getElem?_eq_some_iff.1 hm).1
  subst hy
  rw [List.set_append_right _ _ (by simp; omega), List.length_take, Nat.min_eq_left (by omega), Nat.sub_self, take_snoc_of hm, List.append_assoc]
  congr 1
  rw [List.drop_eq_getElem_cons (by omega)]
  rfl
theorem mark_at {α : Type} {j : Nat} {ms xs ys : List α} {x : α} (hx : xs[j]? = some x) (hm : j ≤ ms.length) (hy : ys = ms.take j ++ xs.drop j) : ys[j]? = some x := by
  subst hy
  rw [List.getElem?_append_right (by simp; omega)]
  simp [Nat.min_eq_left hm, hx]
theorem mark_done {α : Type} {ms xs ys : List α} (hl : ms.length = xs.length) (hy : ys = ms.take xs.length ++ xs.drop xs.length) : ys = ms := by
  rw [hy, ← hl, List.take_length, hl, List.drop_length, List.append_nil]
theorem mk_nd {A A' : Option Addr} {os : List OCell} (h : (blk A ++ blks os ++ blk A').Nodup) : (blks os).Nodup ∧ (∀ g ∈ blk A ++ blks os, g ∉ blk A') := by
  simp only [List.nodup_append, List.mem_append] at h ⊢
  exact ⟨h.1.2.1, fun g hg hg' => h.2.2 g hg g hg' rfl⟩
end Go.Proofs.Ytopbngfghpgbnaa

/- mark.. of a heap, a painted heap, a snapshot, an aged heap: as a law's walk wants them. Conditions: lengths and numbers within bounds. -/
namespace Go.Proofs.Ytopbngfghpgbnaa
open Go.RowKit
set_option maxRecDepth 100000
set_option linter.unusedSimpArgs false
set_option linter.unusedVariables false
theorem OHs.sizes {w : World} {A A' : Option Addr} {c c' : Nat} {os : List OCell} {h : HeapM} (ho : OHs w A c A' c' os h.roots) (hm : os.map (·.c) = h.cells) (hs : SmallH h) :
    os.length = h.cells.length ∧ os.length ≤ 1048576 ∧ (∀ o ∈ os, o.c.refs.length ≤ 1048576) ∧ h.roots.length ≤ 1048576 := by
  have hl : os.length = h.cells.length := by rw [← hm, List.length_map]
  refine ⟨hl, by have := hs.cells; omega, fun o ho => hs.refs o.c (by rw [← hm]; exact List.mem_map_of_mem ho), hs.roots⟩
theorem markH_rhs {w : World} {A A' : Option Addr} {c c' : Nat} {os os' : List OCell} {h : HeapM} {k : Int} (hm : os.map (·.c) = h.cells) (ho : OHs w A c A' c' os' (markI h.roots.length (k + (sizeCs (os.map (·.c)) : Int)))) (hm' : os'.map (·.c) = markCs (os.map (·.c)) k) :
    RHs w A A' (markH h k) := by
  rw [hm] at ho hm'
  exact OHs.rhs (h := markH h k) ho hm'
/-- The same as OH, OPt, OTw, with an upper bound too. -/
def OHB (lo hi : Nat) (w : World) (v : Value) (h : HeapM) : Prop :=
  ∃ A c A' c' os, v = .agg #[.slice A h.cells.length c, .slice A' h.roots.length c'] ∧ os.map (·.c) = h.cells ∧ OHs w A c A' c' os h.roots ∧ ∀ g ∈ hblks A os A', lo ≤ g ∧ g < hi
def OPB (lo hi : Nat) (w : World) (v : Value) (p : PaintM) : Prop := ∃ A c A' c' os A2 c2, v = .agg #[.slice A p.store.cells.length c, .slice A' p.store.roots.length c', .slice A2 p.colours.length c2, .bool p.active] ∧
  os.map (·.c) = p.store.cells ∧ OHs w A c A' c' os p.store.roots ∧ OF 3 fi w A2 c2 p.colours ∧ (hblks A os A' ++ blk A2).Nodup ∧ (∀ g ∈ hblks A os A' ++ blk A2, lo ≤ g ∧ g < hi) ∧ p.colours.length ≤ 9223372036854775807
def OTB (lo hi : Nat) (w : World) (v : Value) (p : TwoM) : Prop := ∃ A c A' c' os A2 c2 A3 c3, v = .agg #[.slice A p.store.cells.length c, .slice A' p.store.roots.length c', .slice A2 p.x.length c2, .slice A3 p.y.length c3] ∧
  os.map (·.c) = p.store.cells ∧ OHs w A c A' c' os p.store.roots ∧ OF 4 fb w A2 c2 p.x ∧ OF 4 fb w A3 c3 p.y ∧ (hblks A os A' ++ blk A2 ++ blk A3).Nodup ∧ (∀ g ∈ hblks A os A' ++ blk A2 ++ blk A3, lo ≤ g ∧ g < hi) ∧
  p.x.length ≤ 9223372036854775807 ∧ p.y.length ≤ 9223372036854775807
section
variable {lo hi : Nat} {w w' : World} {v : Value}
theorem OH.toB {h : HeapM} (hh : OH lo w v h) : OHB lo w.heap.size w v h := by
  obtain ⟨A, c, A', c', os, rfl, h1, h2, h3⟩ := hh
  exact ⟨A, c, A', c', os, rfl, h1, h2, fun g hg => ⟨h3 g hg, h2.lt g hg⟩⟩
theorem OPt.toB {p : PaintM} (hh : OPt lo w v p) : OPB lo w.heap.size w v p := by
  obtain ⟨A, c, A', c', os, A2, c2, rfl, h1, h2, h3, h4, h5, h6⟩ := hh
  exact ⟨A, c, A', c', os, A2, c2, rfl, h1, h2, h3, h4, fun g hg => ⟨h5 g hg, (List.mem_append.1 hg).elim (h2.lt g) (h3.lt g)⟩, h6⟩
theorem OTw.toB {p : TwoM} (hh : OTw lo w v p) : OTB lo w.heap.size w v p := by
  obtain ⟨A, c, A', c', os, A2, c2, A3, c3, rfl, h1, h2, h3, h3', h4, h5, h6, h7⟩ := hh
  exact ⟨A, c, A', c', os, A2, c2, A3, c3, rfl, h1, h2, h3, h3', h4, fun g hg => ⟨h5 g hg, (List.mem_append.1 hg).elim (fun hg => (List.mem_append.1 hg).elim (h2.lt g) (h3.lt g)) (h3'.lt g)⟩, h6, h7⟩
/-- What leaves all blocks of lo .. hi - 1 as they were keeps it. -/
theorem OHB.keep {h : HeapM} (hh : OHB lo hi w v h) (hk : ∀ g, lo ≤ g → g < hi → g < w.heap.size → w'.heap[g]? = w.heap[g]?) : OHB lo hi w' v h := by
  obtain ⟨A, c, A', c', os, rfl, h1, h2, h3⟩ := hh
  exact ⟨A, c, A', c', os, rfl, h1, h2.keep fun g hg => hk g (h3 g hg).1 (h3 g hg).2 (h2.lt g hg), h3⟩
theorem OPB.keep {p : PaintM} (hh : OPB lo hi w v p) (hk : ∀ g, lo ≤ g → g < hi → g < w.heap.size → w'.heap[g]? = w.heap[g]?) : OPB lo hi w' v p := by
  obtain ⟨A, c, A', c', os, A2, c2, rfl, h1, h2, h3, h4, h5, h6⟩ := hh
  exact ⟨A, c, A', c', os, A2, c2, rfl, h1, h2.keep fun g hg => hk g (h5 g (List.mem_append.2 (.inl hg))).1 (h5 g (List.mem_append.2 (.inl hg))).2 (h2.lt g hg), h3.keep fun g hg => hk g (h5 g (List.mem_append.2 (.inr hg))).1 (h5 g (List.mem_append.2 (.inr hg))).2 (h3.lt g hg), h4, h5, h6⟩
theorem OTB.keep {p : TwoM} (hh : OTB lo hi w v p) (hk : ∀ g, lo ≤ g → g < hi → g < w.heap.size → w'.heap[g]? = w.heap[g]?) : OTB lo hi w' v p := by
  obtain ⟨A, c, A', c', os, A2, c2, A3, c3, rfl, h1, h2, h3, h3', h4, h5, h6, h7⟩ := hh
  have m1 : ∀ g ∈ hblks A os A', g ∈ hblks A os A' ++ blk A2 ++ blk A3 := fun g hg => List.mem_append.2 (.inl (List.mem_append.2 (.inl hg)))
  have m2 : ∀ g ∈ blk A2, g ∈ hblks A os A' ++ blk A2 ++ blk A3 := fun g hg => List.mem_append.2 (.inl (List.mem_append.2 (.inr hg)))
  have m3 : ∀ g ∈ blk A3, g ∈ hblks A os A' ++ blk A2 ++ blk A3 := fun g hg => List.mem_append.2 (.inr hg)
  exact ⟨A, c, A', c', os, A2, c2, A3, c3, rfl, h1, h2.keep fun g hg => hk g (h5 g (m1 g hg)).1 (h5 g (m1 g hg)).2 (h2.lt g hg), h3.keep fun g hg => hk g (h5 g (m2 g hg)).1 (h5 g (m2 g hg)).2 (h3.lt g hg), h3'.keep fun g hg => hk g (h5 g (m3 g hg)).1 (h5 g (m3 g hg)).2 (h3'.lt g hg), h4, h5, h6, h7⟩
theorem OHB.below {h : HeapM} (hh : OHB lo hi w v h) (hb : Below w.heap.size w w') : OHB lo hi w' v h := hh.keep fun g _ _ hg => hb.block g hg
theorem OPB.below {p : PaintM} (hh : OPB lo hi w v p) (hb : Below w.heap.size w w') : OPB lo hi w' v p := hh.keep fun g _ _ hg => hb.block g hg
theorem OTB.below {p : TwoM} (hh : OTB lo hi w v p) (hb : Below w.heap.size w w') : OTB lo hi w' v p := hh.keep fun g _ _ hg => hb.block g hg
theorem OHB.span {l k : Nat} {h : HeapM} (hh : OHB lo hi w v h) (hb : Span l k w w') (hk : k ≤ lo ∨ hi ≤ l) : OHB lo hi w' v h := hh.keep fun g h1 h2 hg => hb.block g hg (by omega)
theorem OPB.span {l k : Nat} {p : PaintM} (hh : OPB lo hi w v p) (hb : Span l k w w') (hk : k ≤ lo ∨ hi ≤ l) : OPB lo hi w' v p := hh.keep fun g h1 h2 hg => hb.block g hg (by omega)
theorem OTB.span {l k : Nat} {p : TwoM} (hh : OTB lo hi w v p) (hb : Span l k w w') (hk : k ≤ lo ∨ hi ≤ l) : OTB lo hi w' v p := hh.keep fun g h1 h2 hg => hb.block g hg (by omega)
theorem OHB.rd {h : HeapM} (hh : OHB lo hi w v h) : RH w v h := by
  obtain ⟨A, c, A', c', os, rfl, h1, h2, h3⟩ := hh
  exact (h2.rhs h1).rh _ _
theorem OPB.rd {p : PaintM} (hh : OPB lo hi w v p) : RPt w v p := by
  obtain ⟨A, c, A', c', os, A2, c2, rfl, h1, h2, h3, h4, h5, h6⟩ := hh
  exact ⟨A, c, A', c', A2, c2, rfl, h2.rhs h1, h3.rf, h6⟩
theorem OTB.rd {p : TwoM} (hh : OTB lo hi w v p) : RTw w v p := by
  obtain ⟨A, c, A', c', os, A2, c2, A3, c3, rfl, h1, h2, h3, h3', h4, h5, h6, h7⟩ := hh
  exact ⟨A, c, A', c', A2, c2, A3, c3, rfl, h2.rhs h1, h3.rf, h6, h3'.rf, h7⟩
end
/-- A struct in memory: the cells of block b, in order. -/
def Box (w : World) (b : Nat) (vs : List Value) : Prop := ∀ i x, vs[i]? = some x → w.cell? ⟨b, i, none⟩ = some x
theorem Box.below {w w' : World} {b : Nat} {vs : List Value} (h : Box w b vs) (hb : Below w.heap.size w w') : Box w' b vs := fun i x hx => cell_below (h i x hx) hb
theorem Box.span {lo hi : Nat} {w w' : World} {b : Nat} {vs : List Value} (h : Box w b vs) (hb : Span lo hi w w') (hk : b < lo ∨ hi ≤ b) : Box w' b vs := fun i x hx => hb.cell (h i x hx) hk
theorem Box.new (w : World) (vs : List Value) (T : TypeId) : Box (w.alloc (.cells vs.toArray T)) w.heap.size vs := fun i x hx => by
  rw [cell_of_row _ _ i vs.toArray T (0, 0) (heap_alloc_new _ _)]
  simpa using hx
theorem markH_lens (h : HeapM) (k : Int) : (markH h k).cells.length = h.cells.length ∧ (markH h k).roots.length = h.roots.length := ⟨markCs_len _ _, markI_len _ _⟩
end Go.Proofs.Ytopbngfghpgbnaa
