/- Texts of one family, one behind the other: SnapSt, Tw. -/
import Derived.Test.YtkikeanpbffpkaaChecked
import Derived.Deep.RegionHeld3
import Derived.Deep.DeepCutAuto
import Derived.Test.YtkikeanpbffpkaaGrCopy
import Derived.Test.YtkikeanpbffpkaaGrHeap
import Derived.RegionTactic
import Derived.BigRegion
import Derived.Test.YtkikeanpbffpkaaGrOwn
import Derived.Test.YtkikeanpbffpkaaGrData
import Derived.Test.YtkikeanpbffpkaaGrSz
/- SnapStart: the program's and the reference's both return snapStartM, in new memory. -/
namespace Go.Proofs.Ytkikeanpbffpkaa
open Go.RowKit
set_option maxRecDepth 100000
set_option linter.unusedSimpArgs false
set_option linter.unusedVariables false
theorem OTw.zero {lo : Nat} {w : World} : OTw lo w (.agg #[.slice none 0 0, .slice none 0 0, .slice none 0 0, .slice none 0 0]) zeroT :=
  ⟨none, 0, none, 0, [], none, 0, none, 0, rfl, rfl, ⟨OC.nil_, OF.nil, by simp [blk, blks], by simp, by simp [zeroT, zeroH]⟩, OF.nil, OF.nil, by simp [hblks, blk, blks], by simp [hblks, blk, blks], by simp [zeroT], by simp [zeroT]⟩
theorem RTw.mk_ {w : World} {A A' A2 A3 : Option Addr} {c c' c2 c3 n m : Nat} {h : HeapM} {xs ys : List Bool} (h1 : RHs w A A' h) (h2 : RF fb w A2 xs) (h3 : RF fb w A3 ys) (hn : n = xs.length) (hm : m = ys.length) (h4 : n ≤ 9223372036854775807) (h5 : m ≤ 9223372036854775807) :
    RTw w (.agg #[.slice A h.cells.length c, .slice A' h.roots.length c', .slice A2 n c2, .slice A3 m c3]) ⟨h, xs, ys⟩ := by
  subst hn; subst hm
  exact ⟨A, c, A', c', A2, c2, A3, c3, rfl, h1, h2, h4, h3, h5⟩
end Go.Proofs.Ytkikeanpbffpkaa

/- Snapshots and aged heaps behind a pointer: what keeps them, and their small laws. No condition. -/
namespace Go.Proofs.Ytkikeanpbffpkaa
open Go.RowKit
set_option maxRecDepth 100000
set_option linter.unusedSimpArgs false
set_option linter.unusedVariables false
section
variable {lo : Nat} {w w' : World} {g : Nat} {p : TwoM} {A A' A2 A3 : Option Addr} {c c' c2 c3 : Nat} {os : List OCell}
theorem PTx.g2 (h : PTx lo w g p A c A' c' os A2 c2 A3 c3) : g ∉ blk A2 := fun hc => h.apart (List.mem_append.2 (.inl (List.mem_append.2 (.inr hc))))
theorem PTx.g3 (h : PTx lo w g p A c A' c' os A2 c2 A3 c3) : g ∉ blk A3 := fun hc => h.apart (List.mem_append.2 (.inr hc))
theorem PTx.g4 (h : PTx lo w g p A c A' c' os A2 c2 A3 c3) : g ∉ blk A2 ++ blk A3 := fun hc => (List.mem_append.1 hc).elim h.g2 h.g3
theorem PTx.d1 (h : PTx lo w g p A c A' c' os A2 c2 A3 c3) : ∀ b ∈ hblks A os A', b ∉ blk A2 ++ blk A3 := fun b hb hc => by
  have := h.nd
  simp only [List.nodup_append] at this
  rcases List.mem_append.1 hc with hc | hc
  · exact this.1.2.2 b hb b hc rfl
  · exact this.2.2 b (List.mem_append.2 (.inl hb)) b hc rfl
theorem PTx.d2 (h : PTx lo w g p A c A' c' os A2 c2 A3 c3) : ∀ b ∈ blk A3, b ∉ blk A2 := fun b hb hc => by
  have := h.nd
  simp only [List.nodup_append] at this
  exact this.2.2 b (List.mem_append.2 (.inr hc)) b hb rfl
theorem PTx.below (h : PTx lo w g p A c A' c' os A2 c2 A3 c3) (hb : Below w.heap.size w w') : PTx lo w' g p A c A' c' os A2 c2 A3 c3 :=
  ⟨cell_below h.q0 hb, cell_below h.q1 hb, cell_below h.q2 hb, cell_below h.q3 hb, fun o => ((bcell hb).2.1 g o h.lt).trans (h.qf o), h.lo_, Nat.lt_of_lt_of_le h.lt hb.size, h.apart, h.map, h.own.below hb, h.xs.below hb, h.ys.below hb, h.nd, h.los, h.xl, h.yl⟩
/-- The two lists have been written. -/
theorem PTx.lists (h : PTx lo w g p A c A' c' os A2 c2 A3 c3) {xs ys : List Bool} (hx : OF 4 fb w' A2 c2 xs) (hy : OF 4 fb w' A3 c3 ys) (hl : xs.length = p.x.length) (hl2 : ys.length = p.y.length) (hOn : Only (blk A2 ++ blk A3) w w') :
    PTx lo w' g ⟨p.store, xs, ys⟩ A c A' c' os A2 c2 A3 c3 :=
  ⟨hOn.cell h.q0 h.g4, hOn.cell h.q1 h.g4, by simp only [hl]; exact hOn.cell h.q2 h.g4, by simp only [hl2]; exact hOn.cell h.q3 h.g4, fun o => (hOn.frozenAt g o h.lt h.g4).trans (h.qf o), h.lo_, Nat.lt_of_lt_of_le h.lt hOn.size, h.apart, h.map, h.own.only hOn h.d1, hx, hy, h.nd, h.los, by simp only [hl]; exact h.xl, by simp only [hl2]; exact h.yl⟩
theorem PTx.mk_ (hm : os.map (·.c) = p.store.cells) (ho : OHs w A c A' c' os p.store.roots) (hx : OF 4 fb w A2 c2 p.x) (hy : OF 4 fb w A3 c3 p.y) (hnd : (hblks A os A' ++ blk A2 ++ blk A3).Nodup) (hlo : ∀ b ∈ hblks A os A' ++ blk A2 ++ blk A3, lo ≤ b) (hxl : p.x.length ≤ 9223372036854775807) (hyl : p.y.length ≤ 9223372036854775807) (hw : lo ≤ w.heap.size) (T : TypeId) :
    PTx lo (w.alloc (.cells #[.slice A p.store.cells.length c, .slice A' p.store.roots.length c', .slice A2 p.x.length c2, .slice A3 p.y.length c3] T)) w.heap.size p A c A' c' os A2 c2 A3 c3 := by
  refine ⟨by simp [go_sem], by simp [go_sem], by simp [go_sem], by simp [go_sem], fun o => by simp [go_sem], hw, by simp, fun hc' => ?_, hm, ho.below blw_, hx.below blw_, hy.below blw_, hnd, hlo, hxl, hyl⟩
  simp only [List.mem_append] at hc'
  rcases hc' with (h | h) | h
  · have := ho.lt _ h; omega
  · have := hx.lt _ h; omega
  · have := hy.lt _ h; omega
end
theorem OTw.lo_ {lo lo' : Nat} {w : World} {v : Value} {p : TwoM} (h : OTw lo w v p) (hl : lo' ≤ lo) : OTw lo' w v p := by
  obtain ⟨A, c, A', c', os, A2, c2, A3, c3, rfl, h1, h2, h3, h4, h5, h6, h7⟩ := h
  exact ⟨A, c, A', c', os, A2, c2, A3, c3, rfl, h1, h2, h3, h4, h5, fun b hb => Nat.le_trans hl (h6 b hb), h7⟩
/-- A store below all that the snapshot has. -/
theorem OTw.setlt {lo : Nat} {w : World} {v : Value} {p : TwoM} (h : OTw lo w v p) {a : Addr} (ha : a.block < lo) (u : Value) : OTw lo (w.setCell a u) v p := by
  obtain ⟨A, c, A', c', os, A2, c2, A3, c3, rfl, h1, h2, h3, h4, h5, h6, h7⟩ := h
  have hk : ∀ b ∈ hblks A os A' ++ blk A2 ++ blk A3, b ≠ a.block := fun b hb e => by have := h6 b hb; omega
  simp only [List.mem_append] at hk
  exact ⟨A, c, A', c', os, A2, c2, A3, c3, rfl, h1, h2.keep fun b hb => heap_setCell_ne _ _ _ (hk b (.inl (.inl hb))), h3.keep fun b hb => heap_setCell_ne _ _ _ (hk b (.inl (.inr hb))), h4.keep fun b hb => heap_setCell_ne _ _ _ (hk b (.inr hb)), h5, h6, h7⟩
end Go.Proofs.Ytkikeanpbffpkaa
