/- Texts of one family, one behind the other: Mark2. -/
import Derived.Test.YtkikeanpbffpkaaChecked
import Derived.Test.YtkikeanpbffpkaaGrSz
import Derived.Test.YtkikeanpbffpkaaGrOwn
import Derived.Test.YtkikeanpbffpkaaGrData
/- mark.. of a heap, a painted heap, a snapshot, an aged heap: as a law's walk wants them. Conditions: lengths and numbers within bounds. -/
namespace Go.Proofs.Ytkikeanpbffpkaa
open Go.RowKit
set_option maxRecDepth 100000
set_option linter.unusedSimpArgs false
set_option linter.unusedVariables false
/-- The same as OH, OPt, OTw, with an upper bound too. -/
def OHB (lo hi : Nat) (w : World) (v : Value) (h : HeapM) : Prop :=
  ∃ A c A' c' os, v = .agg #[.slice A h.cells.length c, .slice A' h.roots.length c'] ∧ os.map (·.c) = h.cells ∧ OHs w A c A' c' os h.roots ∧ ∀ g ∈ hblks A os A', lo ≤ g ∧ g < hi
def OPB (lo hi : Nat) (w : World) (v : Value) (p : PaintM) : Prop := ∃ A c A' c' os A2 c2, v = .agg #[.slice A p.store.cells.length c, .slice A' p.store.roots.length c', .slice A2 p.colours.length c2, .bool p.active] ∧
  os.map (·.c) = p.store.cells ∧ OHs w A c A' c' os p.store.roots ∧ OF 3 fi w A2 c2 p.colours ∧ (hblks A os A' ++ blk A2).Nodup ∧ (∀ g ∈ hblks A os A' ++ blk A2, lo ≤ g ∧ g < hi) ∧ p.colours.length ≤ 9223372036854775807
def OTB (lo hi : Nat) (w : World) (v : Value) (p : TwoM) : Prop := ∃ A c A' c' os A2 c2 A3 c3, v = .agg #[.slice A p.store.cells.length c, .slice A' p.store.roots.length c', .slice A2 p.x.length c2, .slice A3 p.y.length c3] ∧
  os.map (·.c) = p.store.cells ∧ OHs w A c A' c' os p.store.roots ∧ OF 4 fb w A2 c2 p.x ∧ OF 4 fb w A3 c3 p.y ∧ (hblks A os A' ++ blk A2 ++ blk A3).Nodup ∧ (∀ g ∈ hblks A os A' ++ blk A2 ++ blk A3, lo ≤ g ∧ g < hi) ∧
  p.x.length ≤ 9223372036854775807 ∧ p.y.length ≤ 9223372036854775807
section
variable {lo hi : Nat} {w w' : World} {v : Value}
/-- What leaves all blocks of lo .. hi - 1 as they were keeps it. -/
theorem OHB.keep {h : HeapM} (hh : OHB lo hi w v h) (hk : ∀ g, lo ≤ g → g < hi → g < w.heap.size → w'.heap[g]? = w.heap[g]?) : OHB lo hi w' v h := by
  obtain ⟨A, c, A', c', os, rfl, h1, h2, h3⟩ := hh
  exact ⟨A, c, A', c', os, rfl, h1, h2.keep fun g hg => hk g (h3 g hg).1 (h3 g hg).2 (h2.lt g hg), h3⟩
theorem OPB.keep {p : PaintM} (hh : OPB lo hi w v p) (hk : ∀ g, lo ≤ g → g < hi → g < w.heap.size → w'.heap[g]? = w.heap[g]?) : OPB lo hi w' v p := by
  obtain ⟨A, c, A', c', os, A2, c2, rfl, h1, h2, h3, h4, h5, h6⟩ := hh
  exact ⟨A, c, A', c', os, A2, c2, rfl, h1, h2.keep fun g hg => hk g (h5 g (List.mem_append.2 (.inl hg))).1 (h5 g (List.mem_append.2 (.inl hg))).2 (h2.lt g hg), h3.keep fun g hg => hk g (h5 g (List.mem_append.2 (.inr hg))).1 (h5 g (List.mem_append.2 (.inr hg))).2 (h3.lt g hg), h4, h5, h6⟩
theorem OTB.keep {p : TwoM} (hh : OTB lo hi w v p) (hk : ∀ g, lo ≤ g → g < hi → g < w.heap.size → w'.heap[g]? = w.heap[g]?) : OTB lo hi w' v p := by
  obtain ⟨A, c, A', c', os, A2, c2, A3, c3, rfl, h1, h2, h3, h3', h4, h5, h6, h7⟩ := hh
  have m1 : ∀ g ∈ hblks A os A', g ∈ hblks A os A' ++ blk A2 ++ blk A3 := fun g hg => List.mem_append.2 (.inl (List.mem_append.2 (.inl hg)))
  have m2 : ∀ g ∈ blk A2, g ∈ hblks A os A' ++ blk A2 ++ blk A3 := fun g hg => List.mem_append.2 (.inl (List.mem_append.2 (.inr hg)))
  have m3 : ∀ g ∈ blk A3, g ∈ hblks A os A' ++ blk A2 ++ blk A3 := fun g hg => List.mem_append.2 (.inr hg)
  exact ⟨A, c, A', c', os, A2, c2, A3, c3, rfl, h1, h2.keep fun g hg => hk g (h5 g (m1 g hg)).1 (h5 g (m1 g hg)).2 (h2.lt g hg), h3.keep fun g hg => hk g (h5 g (m2 g hg)).1 (h5 g (m2 g hg)).2 (h3.lt g hg), h3'.keep fun g hg => hk g (h5 g (m3 g hg)).1 (h5 g (m3 g hg)).2 (h3'.lt g hg), h4, h5, h6, h7⟩
theorem OHB.below {h : HeapM} (hh : OHB lo hi w v h) (hb : Below w.heap.size w w') : OHB lo hi w' v h := hh.keep fun g _ _ hg => hb.block g hg
theorem OPB.below {p : PaintM} (hh : OPB lo hi w v p) (hb : Below w.heap.size w w') : OPB lo hi w' v p := hh.keep fun g _ _ hg => hb.block g hg
theorem OTB.below {p : TwoM} (hh : OTB lo hi w v p) (hb : Below w.heap.size w w') : OTB lo hi w' v p := hh.keep fun g _ _ hg => hb.block g hg
theorem OHB.span {l k : Nat} {h : HeapM} (hh : OHB lo hi w v h) (hb : Span l k w w') (hk : k ≤ lo ∨ hi ≤ l) : OHB lo hi w' v h := hh.keep fun g h1 h2 hg => hb.block g hg (by omega)
theorem OPB.span {l k : Nat} {p : PaintM} (hh : OPB lo hi w v p) (hb : Span l k w w') (hk : k ≤ lo ∨ hi ≤ l) : OPB lo hi w' v p := hh.keep fun g h1 h2 hg => hb.block g hg (by omega)
theorem OTB.span {l k : Nat} {p : TwoM} (hh : OTB lo hi w v p) (hb : Span l k w w') (hk : k ≤ lo ∨ hi ≤ l) : OTB lo hi w' v p := hh.keep fun g h1 h2 hg => hb.block g hg (by omega)
end
/-- A struct in memory: the cells of block b, in order. -/
def Box (w : World) (b : Nat) (vs : List Value) : Prop := ∀ i x, vs[i]? = some x → w.cell? ⟨b, i, none⟩ = some x
theorem Box.below {w w' : World} {b : Nat} {vs : List Value} (h : Box w b vs) (hb : Below w.heap.size w w') : Box w' b vs := fun i x hx => cell_below (h i x hx) hb
theorem Box.span {lo hi : Nat} {w w' : World} {b : Nat} {vs : List Value} (h : Box w b vs) (hb : Span lo hi w w') (hk : b < lo ∨ hi ≤ b) : Box w' b vs := fun i x hx => hb.cell (h i x hx) hk
theorem Box.new (w : World) (vs : List Value) (T : TypeId) : Box (w.alloc (.cells vs.toArray T)) w.heap.size vs := fun i x hx => by
  rw [cell_of_row _ _ i vs.toArray T (0, 0) (heap_alloc_new _ _)]
  simpa using hx
end Go.Proofs.Ytkikeanpbffpkaa
