/- PaintStart: the program's and the reference's both return paintStartM, in new memory. -/
import Derived.Test.YtkikeanpbffpkaaChecked
import Derived.Deep.DeepCutAuto
import Derived.Test.YtkikeanpbffpkaaGrCopy
import Derived.Deep.RegionHeld3
import Derived.IntWalk
import Derived.Test.YtkikeanpbffpkaaGrHeap
import Derived.Test.YtkikeanpbffpkaaGrOwn
import Derived.Test.YtkikeanpbffpkaaGrData
import Derived.Test.YtkikeanpbffpkaaGrSz
namespace Go.Proofs.Ytkikeanpbffpkaa
open Go.RowKit
set_option maxRecDepth 100000
set_option linter.unusedSimpArgs false
set_option linter.unusedVariables false
theorem OPt.zero {lo : Nat} {w : World} : OPt lo w (.agg #[.slice none 0 0, .slice none 0 0, .slice none 0 0, .bool false]) zeroP :=
  ⟨none, 0, none, 0, [], none, 0, rfl, rfl, ⟨OC.nil_, OF.nil, by simp [blk, blks], by simp, by simp [zeroP, zeroH]⟩, OF.nil, by simp [hblks, blk, blks], by simp [hblks, blk, blks], by simp [zeroP]⟩
/-- A painted heap in memory, behind a pointer, all of the call's own. -/
structure PPx (lo : Nat) (w : World) (g : Nat) (p : PaintM) (A : Option Addr) (c : Nat) (A' : Option Addr) (c' : Nat) (os : List OCell) (A2 : Option Addr) (c2 : Nat) : Prop where
  q0 : w.cell? ⟨g, 0, none⟩ = some (.slice A p.store.cells.length c)
  q1 : w.cell? ⟨g, 1, none⟩ = some (.slice A' p.store.roots.length c')
  q2 : w.cell? ⟨g, 2, none⟩ = some (.slice A2 p.colours.length c2)
  q3 : w.cell? ⟨g, 3, none⟩ = some (.bool p.active)
  qf : ∀ o, w.frozen? ⟨g, o, none⟩ = false
  lo_ : lo ≤ g
  lt : g < w.heap.size
  apart : g ∉ hblks A os A' ++ blk A2
  map : os.map (·.c) = p.store.cells
  own : OHs w A c A' c' os p.store.roots
  cs : OF 3 fi w A2 c2 p.colours
  nd : (hblks A os A' ++ blk A2).Nodup
  los : ∀ b ∈ hblks A os A' ++ blk A2, lo ≤ b
  cl : p.colours.length ≤ 9223372036854775807
section
variable {lo : Nat} {w w' : World} {g : Nat} {p : PaintM} {A A' A2 : Option Addr} {c c' c2 : Nat} {os : List OCell}
theorem PPx.g2 (h : PPx lo w g p A c A' c' os A2 c2) : g ∉ blk A2 := fun hc => h.apart (List.mem_append.2 (.inr hc))
theorem PPx.g1 (h : PPx lo w g p A c A' c' os A2 c2) : ∀ b ∈ hblks A os A', b ∉ blk A2 := fun b hb hc => by
  have := h.nd
  rw [List.nodup_append] at this
  exact this.2.2 b hb b hc rfl
theorem PPx.below (h : PPx lo w g p A c A' c' os A2 c2) (hb : Below w.heap.size w w') : PPx lo w' g p A c A' c' os A2 c2 :=
  ⟨cell_below h.q0 hb, cell_below h.q1 hb, cell_below h.q2 hb, cell_below h.q3 hb, fun o => ((bcell hb).2.1 g o h.lt).trans (h.qf o), h.lo_, Nat.lt_of_lt_of_le h.lt hb.size, h.apart, h.map, h.own.below hb, h.cs.below hb, h.nd, h.los, h.cl⟩
/-- The colours have been written. -/
theorem PPx.paint (h : PPx lo w g p A c A' c' os A2 c2) {cols : List Int} (hO : OF 3 fi w' A2 c2 cols) (hl : cols.length = p.colours.length) (hOn : Only (blk A2) w w') : PPx lo w' g ⟨p.store, cols, p.active⟩ A c A' c' os A2 c2 :=
  ⟨hOn.cell h.q0 h.g2, hOn.cell h.q1 h.g2, by simp only [hl]; exact hOn.cell h.q2 h.g2, hOn.cell h.q3 h.g2, fun o => (hOn.frozenAt g o h.lt h.g2).trans (h.qf o), h.lo_, Nat.lt_of_lt_of_le h.lt hOn.size, h.apart, h.map, h.own.only hOn h.g1, hO, h.nd, h.los, by simp only [hl]; exact h.cl⟩
theorem PPx.act (h : PPx lo w g p A c A' c' os A2 c2) (b : Bool) : PPx lo (w.setCell ⟨g, 3, none⟩ (.bool b)) g ⟨p.store, p.colours, b⟩ A c A' c' os A2 c2 := by
  have hk : ∀ b ∈ hblks A os A' ++ blk A2, b ≠ g := fun b hb e => h.apart (e ▸ hb)
  refine ⟨?_, ?_, ?_, ?_, fun o => by simp [go_sem, h.qf o], h.lo_, by simpa using h.lt, h.apart, h.map, h.own.keep fun b hb => heap_setCell_ne _ _ _ (hk b (List.mem_append.2 (.inl hb))), h.cs.keep fun b hb => heap_setCell_ne _ _ _ (hk b (List.mem_append.2 (.inr hb))), h.nd, h.los, h.cl⟩
  · simp [go_sem, h.q0]
  · simp [go_sem, h.q1]
  · simp [go_sem, h.q2]
  · simp [go_sem, h.q3]
theorem PPx.mk_ (hm : os.map (·.c) = p.store.cells) (ho : OHs w A c A' c' os p.store.roots) (hc : OF 3 fi w A2 c2 p.colours) (hnd : (hblks A os A' ++ blk A2).Nodup) (hlo : ∀ b ∈ hblks A os A' ++ blk A2, lo ≤ b) (hcl : p.colours.length ≤ 9223372036854775807) (hw : lo ≤ w.heap.size) (T : TypeId) :
    PPx lo (w.alloc (.cells #[.slice A p.store.cells.length c, .slice A' p.store.roots.length c', .slice A2 p.colours.length c2, .bool p.active] T)) w.heap.size p A c A' c' os A2 c2 := by
  refine ⟨by simp [go_sem], by simp [go_sem], by simp [go_sem], by simp [go_sem], fun o => by simp [go_sem], hw, by simp, fun hc' => ?_, hm, ho.below blw_, hc.below blw_, hnd, hlo, hcl⟩
  rcases List.mem_append.1 hc' with h | h
  · have := ho.lt _ h; omega
  · have := hc.lt _ h; omega
end
theorem OPt.lo_ {lo lo' : Nat} {w : World} {v : Value} {p : PaintM} (h : OPt lo w v p) (hl : lo' ≤ lo) : OPt lo' w v p := by
  obtain ⟨A, c, A', c', os, A2, c2, rfl, h1, h2, h3, h4, h5, h6⟩ := h
  exact ⟨A, c, A', c', os, A2, c2, rfl, h1, h2, h3, h4, fun b hb => Nat.le_trans hl (h5 b hb), h6⟩
/-- A store below all that the painted heap has. -/
theorem OPt.setlt {lo : Nat} {w : World} {v : Value} {p : PaintM} (h : OPt lo w v p) {a : Addr} (ha : a.block < lo) (u : Value) : OPt lo (w.setCell a u) v p := by
  obtain ⟨A, c, A', c', os, A2, c2, rfl, h1, h2, h3, h4, h5, h6⟩ := h
  have hk : ∀ b ∈ hblks A os A' ++ blk A2, b ≠ a.block := fun b hb e => by have := h5 b hb; omega
  exact ⟨A, c, A', c', os, A2, c2, rfl, h1, h2.keep fun b hb => heap_setCell_ne _ _ _ (hk b (List.mem_append.2 (.inl hb))), h3.keep fun b hb => heap_setCell_ne _ _ _ (hk b (List.mem_append.2 (.inr hb))), h4, h5, h6⟩
theorem SmallH.zero : SmallH zeroH := ⟨by simp [zeroH], by simp [zeroH], by simp [zeroH]⟩
end Go.Proofs.Ytkikeanpbffpkaa
