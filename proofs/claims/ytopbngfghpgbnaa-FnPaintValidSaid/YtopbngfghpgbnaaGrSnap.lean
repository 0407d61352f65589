/- Texts of one family, one behind the other: SnapSt, Tw, SnapE. -/
import Derived.Test.YtopbngfghpgbnaaChecked
import Derived.Deep.RegionHeld3
import Derived.Deep.DeepCutAuto
import Derived.Test.YtopbngfghpgbnaaGrCopy
import Derived.Test.YtopbngfghpgbnaaGrHeap
import Derived.Test.YtopbngfghpgbnaaMeet
import Derived.Test.YtopbngfghpgbnaaGrSz
import Derived.Deep.RegionLaw
import Derived.Test.YtopbngfghpgbnaaGrData
import Derived.Test.YtopbngfghpgbnaaSnapV
import Derived.Test.YtopbngfghpgbnaaGrExec
/- SnapStart: the program's and the reference's both return snapStartM, in new memory. -/
namespace Go.Proofs.Ytopbngfghpgbnaa
open Go.RowKit
set_option maxRecDepth 100000
set_option linter.unusedSimpArgs false
set_option linter.unusedVariables false
theorem OTw.zero {lo : Nat} {w : World} : OTw lo w (.agg #[.slice none 0 0, .slice none 0 0, .slice none 0 0, .slice none 0 0]) zeroT :=
  ⟨none, 0, none, 0, [], none, 0, none, 0, rfl, rfl, ⟨OC.nil_, OF.nil, by simp [blk, blks], by simp, by simp [zeroT, zeroH]⟩, OF.nil, OF.nil, by simp [hblks, blk, blks], by simp [hblks, blk, blks], by simp [zeroT], by simp [zeroT]⟩
theorem RTw.mk_ {w : World} {A A' A2 A3 : Option Addr} {c c' c2 c3 n m : Nat} {h : HeapM} {xs ys : List Bool} (h1 : RHs w A A' h) (h2 : RF fb w A2 xs) (h3 : RF fb w A3 ys) (hn : n = xs.length) (hm : m = ys.length) (h4 : n ≤ 9223372036854775807) (h5 : m ≤ 9223372036854775807) :
    RTw w (.agg #[.slice A h.cells.length c, .slice A' h.roots.length c', .slice A2 n c2, .slice A3 m c3]) ⟨h, xs, ys⟩ := by
  subst hn; subst hm
  exact ⟨A, c, A', c', A2, c2, A3, c3, rfl, h1, h2, h4, h3, h5⟩
end Go.Proofs.Ytopbngfghpgbnaa

/- Snapshots and aged heaps behind a pointer: what keeps them, and their small laws. No condition. -/
namespace Go.Proofs.Ytopbngfghpgbnaa
open Go.RowKit
set_option maxRecDepth 100000
set_option linter.unusedSimpArgs false
set_option linter.unusedVariables false
section
variable {lo : Nat} {w w' : World} {g : Nat} {p : TwoM} {A A' A2 A3 : Option Addr} {c c' c2 c3 : Nat} {os : List OCell}
theorem PTx.opt (h : PTx lo w g p A c A' c' os A2 c2 A3 c3) : OTw lo w (.agg #[.slice A p.store.cells.length c, .slice A' p.store.roots.length c', .slice A2 p.x.length c2, .slice A3 p.y.length c3]) p :=
  ⟨A, c, A', c', os, A2, c2, A3, c3, rfl, h.map, h.own, h.xs, h.ys, h.nd, h.los, h.xl, h.yl⟩
theorem PTx.g2 (h : PTx lo w g p A c A' c' os A2 c2 A3 c3) : g ∉ blk A2 := fun hc => h.apart (List.mem_append.2 (.inl (List.mem_append.2 (.inr hc))))
theorem PTx.g3 (h : PTx lo w g p A c A' c' os A2 c2 A3 c3) : g ∉ blk A3 := fun hc => h.apart (List.mem_append.2 (.inr hc))
theorem PTx.g4 (h : PTx lo w g p A c A' c' os A2 c2 A3 c3) : g ∉ blk A2 ++ blk A3 := fun hc => (List.mem_append.1 hc).elim h.g2 h.g3
theorem PTx.d1 (h : PTx lo w g p A c A' c' os A2 c2 A3 c3) : ∀ b ∈ hblks A os A', b ∉ blk A2 ++ blk A3 := fun b hb hc => by
  have := h.nd
  simp only [List.nodup_append] at this
  rcases List.mem_append.1 hc with hc | hc
  · exact this.1.2.2 b hb b hc rfl
  · exact this.2.2 b (List.mem_append.2 (.inl hb)) b hc rfl
theorem PTx.d2 (h : PTx lo w g p A c A' c' os A2 c2 A3 c3) : ∀ b ∈ blk A3, b ∉ blk A2 := fun b hb hc => by
  have := h.nd
  simp only [List.nodup_append] at this
  exact this.2.2 b (List.mem_append.2 (.inr hc)) b hb rfl
theorem PTx.los4 (h : PTx lo w g p A c A' c' os A2 c2 A3 c3) : ∀ b ∈ blk A2 ++ blk A3, lo ≤ b := fun b hb => h.los b (by
  rcases List.mem_append.1 hb with hb | hb
  · exact List.mem_append.2 (.inl (List.mem_append.2 (.inr hb)))
  · exact List.mem_append.2 (.inr hb))
theorem PTx.below (h : PTx lo w g p A c A' c' os A2 c2 A3 c3) (hb : Below w.heap.size w w') : PTx lo w' g p A c A' c' os A2 c2 A3 c3 :=
  ⟨cell_below h.q0 hb, cell_below h.q1 hb, cell_below h.q2 hb, cell_below h.q3 hb, fun o => ((bcell hb).2.1 g o h.lt).trans (h.qf o), h.lo_, Nat.lt_of_lt_of_le h.lt hb.size, h.apart, h.map, h.own.below hb, h.xs.below hb, h.ys.below hb, h.nd, h.los, h.xl, h.yl⟩
/-- The two lists have been written. -/
theorem PTx.lists (h : PTx lo w g p A c A' c' os A2 c2 A3 c3) {xs ys : List Bool} (hx : OF 4 fb w' A2 c2 xs) (hy : OF 4 fb w' A3 c3 ys) (hl : xs.length = p.x.length) (hl2 : ys.length = p.y.length) (hOn : Only (blk A2 ++ blk A3) w w') :
    PTx lo w' g ⟨p.store, xs, ys⟩ A c A' c' os A2 c2 A3 c3 :=
  ⟨hOn.cell h.q0 h.g4, hOn.cell h.q1 h.g4, by simp only [hl]; exact hOn.cell h.q2 h.g4, by simp only [hl2]; exact hOn.cell h.q3 h.g4, fun o => (hOn.frozenAt g o h.lt h.g4).trans (h.qf o), h.lo_, Nat.lt_of_lt_of_le h.lt hOn.size, h.apart, h.map, h.own.only hOn h.d1, hx, hy, h.nd, h.los, by simp only [hl]; exact h.xl, by simp only [hl2]; exact h.yl⟩
theorem PTx.mk_ (hm : os.map (·.c) = p.store.cells) (ho : OHs w A c A' c' os p.store.roots) (hx : OF 4 fb w A2 c2 p.x) (hy : OF 4 fb w A3 c3 p.y) (hnd : (hblks A os A' ++ blk A2 ++ blk A3).Nodup) (hlo : ∀ b ∈ hblks A os A' ++ blk A2 ++ blk A3, lo ≤ b) (hxl : p.x.length ≤ 9223372036854775807) (hyl : p.y.length ≤ 9223372036854775807) (hw : lo ≤ w.heap.size) (T : TypeId) :
    PTx lo (w.alloc (.cells #[.slice A p.store.cells.length c, .slice A' p.store.roots.length c', .slice A2 p.x.length c2, .slice A3 p.y.length c3] T)) w.heap.size p A c A' c' os A2 c2 A3 c3 := by
  refine ⟨by simp [go_sem], by simp [go_sem], by simp [go_sem], by simp [go_sem], fun o => by simp [go_sem], hw, by simp, fun hc' => ?_, hm, ho.below blw_, hx.below blw_, hy.below blw_, hnd, hlo, hxl, hyl⟩
  simp only [List.mem_append] at hc'
  rcases hc' with (h | h) | h
  · have := ho.lt _ h; omega
  · have := hx.lt _ h; omega
  · have := hy.lt _ h; omega
end
theorem OTw.lo_ {lo lo' : Nat} {w : World} {v : Value} {p : TwoM} (h : OTw lo w v p) (hl : lo' ≤ lo) : OTw lo' w v p := by
  obtain ⟨A, c, A', c', os, A2, c2, A3, c3, rfl, h1, h2, h3, h4, h5, h6, h7⟩ := h
  exact ⟨A, c, A', c', os, A2, c2, A3, c3, rfl, h1, h2, h3, h4, h5, fun b hb => Nat.le_trans hl (h6 b hb), h7⟩
/-- A store below all that the snapshot has. -/
theorem OTw.setlt {lo : Nat} {w : World} {v : Value} {p : TwoM} (h : OTw lo w v p) {a : Addr} (ha : a.block < lo) (u : Value) : OTw lo (w.setCell a u) v p := by
  obtain ⟨A, c, A', c', os, A2, c2, A3, c3, rfl, h1, h2, h3, h4, h5, h6, h7⟩ := h
  have hk : ∀ b ∈ hblks A os A' ++ blk A2 ++ blk A3, b ≠ a.block := fun b hb e => by have := h6 b hb; omega
  simp only [List.mem_append] at hk
  exact ⟨A, c, A', c', os, A2, c2, A3, c3, rfl, h1, h2.keep fun b hb => heap_setCell_ne _ _ _ (hk b (.inl (.inl hb))), h3.keep fun b hb => heap_setCell_ne _ _ _ (hk b (.inl (.inr hb))), h4.keep fun b hb => heap_setCell_ne _ _ _ (hk b (.inr hb)), h5, h6, h7⟩
theorem small_zeroH : SmallH zeroH := ⟨by simp [zeroH], by simp [zeroH], by simp [zeroH]⟩
theorem snapM_parts {p : TwoM} (h : snapM p = true) : validM p.store = true ∧ p.x.length = p.store.cells.length ∧ p.y.length = p.store.cells.length := by
  unfold snapM at h
  simp only [Bool.and_eq_true, decide_eq_true_eq] at h
  grind
theorem snap_small {p : TwoM} (h : snapM p = true) : p.store.cells.length ≤ 40 ∧ p.store.roots.length ≤ 4 ∧ (∀ d ∈ p.store.cells, d.refs.length ≤ 3) ∧ p.x.length = p.store.cells.length ∧ p.y.length = p.store.cells.length ∧ (∀ r ∈ p.store.roots, r < p.store.cells.length) ∧ (∀ c ∈ p.store.cells, ∀ r ∈ c.refs, r < p.store.cells.length) := by
  obtain ⟨h1, h2, h3⟩ := snapM_parts h
  obtain ⟨a, b, c⟩ := valid_small h1
  obtain ⟨d, e⟩ := validM_lt h1
  exact ⟨a, by omega, c, h2, h3, e, d⟩
theorem stepS_none {p : TwoM} (h : noneB id p.y p.y.length) : stepS p = (p, false) := by unfold stepS; rw [firstB_none h]
theorem stepS_some {p : TwoM} {k : Nat} {c : CellM} (h : noneB id p.y k) (hk : p.y[k]? = some true) (hc : p.store.cells[k]? = some c) : stepS p = (⟨p.store, (meetL (p.x, p.y.set k false) c.refs).1, (meetL (p.x, p.y.set k false) c.refs).2⟩, true) := by
  unfold stepS; rw [firstB_some h hk rfl]; simp only [refsAt_of hc]
theorem stepS_len (p : TwoM) : (stepS p).1.store = p.store ∧ (stepS p).1.x.length = p.x.length ∧ (stepS p).1.y.length = p.y.length := by
  unfold stepS
  split
  · exact ⟨rfl, rfl, rfl⟩
  · exact ⟨rfl, (meetL_len _ _).1, by simp only [(meetL_len _ _).2, List.length_set]⟩
end Go.Proofs.Ytopbngfghpgbnaa

/- Snapshots under instructions: the recorder's and the snapshotting's execute. -/
namespace Go.Proofs.Ytopbngfghpgbnaa
open Go.RowKit
set_option maxRecDepth 100000
set_option linter.unusedSimpArgs false
set_option linter.unusedVariables false
section
variable {lo : Nat} {w w' : World} {g : Nat} {p : TwoM} {A A' A2 A3 : Option Addr} {c c' c2 c3 : Nat} {os : List OCell}
theorem mem3 {a b c : List Nat} {x : Nat} : x ∈ a ++ b ++ c ↔ x ∈ a ∨ x ∈ b ∨ x ∈ c := by simp only [List.mem_append]; exact or_assoc
/-- A new heap is put in the place of the old one. -/
theorem PTx.heap_ (h : PTx lo w g p A c A' c' os A2 c2 A3 c3) (hb : Below w.heap.size w w') {h' : HeapM} {B B' : Option Addr} {d d' : Nat} {os' : List OCell} (hm : os'.map (·.c) = h'.cells) (hO : OHs w' B d B' d' os' h'.roots) (hlo : ∀ b ∈ hblks B os' B', w.heap.size ≤ b) :
    PTx lo ((w'.setCell ⟨g, 0, none⟩ (.slice B h'.cells.length d)).setCell ⟨g, 1, none⟩ (.slice B' h'.roots.length d')) g ⟨h', p.x, p.y⟩ B d B' d' os' A2 c2 A3 c3 := by
  have hb' := h.below hb
  have hgl := h.lt
  have hgw := hb'.lt
  have k1 : ∀ b ∈ hblks B os' B', b ≠ g := fun b hb9 e => by have := hlo b hb9; omega
  have k2 : ∀ b ∈ blk A2, b ≠ g := fun b hb9 e => h.g2 (e ▸ hb9)
  have k3 : ∀ b ∈ blk A3, b ≠ g := fun b hb9 e => h.g3 (e ▸ hb9)
  refine ⟨by simp [go_sem, hgw, hb'.q0], by simp [go_sem, hgw, hb'.q1], by simp [go_sem, hb'.q2], by simp [go_sem, hb'.q3], fun o => by simp [go_sem, hb'.qf o], h.lo_, by simp; exact hgw, ?_, hm, ?_, ?_, ?_, ?_, ?_, h.xl, h.yl⟩
  · rw [mem3]
    rintro (h9 | h9 | h9)
    · exact k1 _ h9 rfl
    · exact k2 _ h9 rfl
    · exact k3 _ h9 rfl
  · exact hO.keep fun b hb9 => by rw [heap_setCell_ne _ _ _ (k1 b hb9), heap_setCell_ne _ _ _ (k1 b hb9)]
  · exact hb'.xs.keep fun b hb9 => by rw [heap_setCell_ne _ _ _ (k2 b hb9), heap_setCell_ne _ _ _ (k2 b hb9)]
  · exact hb'.ys.keep fun b hb9 => by rw [heap_setCell_ne _ _ _ (k3 b hb9), heap_setCell_ne _ _ _ (k3 b hb9)]
  · have hnd := h.nd
    have hx := h.xs.lt
    have hy := h.ys.lt
    refine nd3_of hO.nodup (blk_nodup _) (blk_nodup _) (fun b h1 h2 => ?_) (fun b h1 h2 => ?_) (fun b h1 h2 => ?_)
    · have := hx b h1; have := hlo b h2; omega
    · have := hy b h1; have := hlo b h2; omega
    · exact h.d2 b h1 h2
  · intro b hb9
    rcases mem3.1 hb9 with h9 | h9 | h9
    · have := hlo b h9; have := h.lo_; omega
    · exact h.los b (mem3.2 (.inr (.inl h9)))
    · exact h.los b (mem3.2 (.inr (.inr h9)))
/-- An element more in the first list. -/
theorem PTx.pushX (h : PTx lo w g p A c A' c' os A2 c2 A3 c3) {S : Option Addr} {cS : Nat} {b : Bool} (hO : OF 4 fb w' S cS (p.x ++ [b])) (hOn : Only (blk A2) w w') (hg : ∀ b ∈ blk S, b ∈ blk A2 ∨ w.heap.size ≤ b) (hl : p.x.length ≤ 1048576) {n : Nat} (hn : n = p.x.length + 1) :
    PTx lo (w'.setCell ⟨g, 2, none⟩ (.slice S n cS)) g ⟨p.store, p.x ++ [b], p.y⟩ A c A' c' os S cS A3 c3 := by
  rw [show n = (p.x ++ [b]).length from by simp [hn]]
  have hgl := h.lt
  have hgw : g < w'.heap.size := Nat.lt_of_lt_of_le hgl hOn.size
  have kS : ∀ b ∈ blk S, b ≠ g := fun b hb9 e => by rcases hg b hb9 with h9 | h9; exact h.g2 (e ▸ h9); omega
  have k3 : ∀ b ∈ blk A3, b ≠ g := fun b hb9 e => h.g3 (e ▸ hb9)
  have k1 : ∀ b ∈ hblks A os A', b ≠ g := fun b hb9 e => h.apart (mem3.2 (.inl (e ▸ hb9)))
  have n1 : ∀ b ∈ hblks A os A', b ∉ blk A2 := fun b hb9 hc => h.d1 b hb9 (List.mem_append.2 (.inl hc))
  have lt1 := h.own.lt
  have lt3 := h.ys.lt
  refine ⟨by simp [go_sem, hOn.cell h.q0 h.g2], by simp [go_sem, hOn.cell h.q1 h.g2], by simp [go_sem, hOn.cell h.q2 h.g2], by simp [go_sem, hOn.cell h.q3 h.g2], fun o => by simp [go_sem, (hOn.frozenAt g o hgl h.g2).trans (h.qf o)], h.lo_, by simp; exact hgw, ?_, h.map, ?_, ?_, ?_, ?_, ?_, by simp; omega, h.yl⟩
  · rw [mem3]
    rintro (h9 | h9 | h9)
    · exact k1 _ h9 rfl
    · exact kS _ h9 rfl
    · exact k3 _ h9 rfl
  · exact (h.own.only hOn n1).keep fun b hb9 => by rw [heap_setCell_ne _ _ _ (k1 b hb9)]
  · exact hO.keep fun b hb9 => by rw [heap_setCell_ne _ _ _ (kS b hb9)]
  · exact (h.ys.only hOn h.d2).keep fun b hb9 => by rw [heap_setCell_ne _ _ _ (k3 b hb9)]
  · refine nd3_of h.own.nodup (blk_nodup _) (blk_nodup _) (fun b h1 h2 => ?_) (fun b h1 h2 => ?_) (fun b h1 h2 => ?_)
    · rcases hg b h1 with h9 | h9
      · exact n1 b h2 h9
      · have := lt1 b h2; omega
    · exact h.d1 b h2 (List.mem_append.2 (.inr h1))
    · rcases hg b h2 with h9 | h9
      · exact h.d2 b h1 h9
      · have := lt3 b h1; omega
  · intro b hb9
    rcases mem3.1 hb9 with h9 | h9 | h9
    · exact h.los b (mem3.2 (.inl h9))
    · rcases hg b h9 with h8 | h8
      · exact h.los b (mem3.2 (.inr (.inl h8)))
      · have := h.lo_; omega
    · exact h.los b (mem3.2 (.inr (.inr h9)))
/-- An element more in the second list. -/
theorem PTx.pushY (h : PTx lo w g p A c A' c' os A2 c2 A3 c3) {S : Option Addr} {cS : Nat} {b : Bool} (hO : OF 4 fb w' S cS (p.y ++ [b])) (hOn : Only (blk A3) w w') (hg : ∀ b ∈ blk S, b ∈ blk A3 ∨ w.heap.size ≤ b) (hl : p.y.length ≤ 1048576) {n : Nat} (hn : n = p.y.length + 1) :
    PTx lo (w'.setCell ⟨g, 3, none⟩ (.slice S n cS)) g ⟨p.store, p.x, p.y ++ [b]⟩ A c A' c' os A2 c2 S cS := by
  rw [show n = (p.y ++ [b]).length from by simp [hn]]
  have hgl := h.lt
  have hgw : g < w'.heap.size := Nat.lt_of_lt_of_le hgl hOn.size
  have kS : ∀ b ∈ blk S, b ≠ g := fun b hb9 e => by rcases hg b hb9 with h9 | h9; exact h.g3 (e ▸ h9); omega
  have k2 : ∀ b ∈ blk A2, b ≠ g := fun b hb9 e => h.g2 (e ▸ hb9)
  have k1 : ∀ b ∈ hblks A os A', b ≠ g := fun b hb9 e => h.apart (mem3.2 (.inl (e ▸ hb9)))
  have n1 : ∀ b ∈ hblks A os A', b ∉ blk A3 := fun b hb9 hc => h.d1 b hb9 (List.mem_append.2 (.inr hc))
  have n2 : ∀ b ∈ blk A2, b ∉ blk A3 := fun b hb9 hc => h.d2 b hc hb9
  have lt1 := h.own.lt
  have lt2 := h.xs.lt
  refine ⟨by simp [go_sem, hOn.cell h.q0 h.g3], by simp [go_sem, hOn.cell h.q1 h.g3], by simp [go_sem, hOn.cell h.q2 h.g3], by simp [go_sem, hOn.cell h.q3 h.g3], fun o => by simp [go_sem, (hOn.frozenAt g o hgl h.g3).trans (h.qf o)], h.lo_, by simp; exact hgw, ?_, h.map, ?_, ?_, ?_, ?_, ?_, h.xl, by simp; omega⟩
  · rw [mem3]
    rintro (h9 | h9 | h9)
    · exact k1 _ h9 rfl
    · exact k2 _ h9 rfl
    · exact kS _ h9 rfl
  · exact (h.own.only hOn n1).keep fun b hb9 => by rw [heap_setCell_ne _ _ _ (k1 b hb9)]
  · exact (h.xs.only hOn n2).keep fun b hb9 => by rw [heap_setCell_ne _ _ _ (k2 b hb9)]
  · exact hO.keep fun b hb9 => by rw [heap_setCell_ne _ _ _ (kS b hb9)]
  · refine nd3_of h.own.nodup (blk_nodup _) (blk_nodup _) (fun b h1 h2 => ?_) (fun b h1 h2 => ?_) (fun b h1 h2 => ?_)
    · exact h.d1 b h2 (List.mem_append.2 (.inl h1))
    · rcases hg b h1 with h9 | h9
      · exact n1 b h2 h9
      · have := lt1 b h2; omega
    · rcases hg b h1 with h9 | h9
      · exact n2 b h2 h9
      · have := lt2 b h2; omega
  · intro b hb9
    rcases mem3.1 hb9 with h9 | h9 | h9
    · exact h.los b (mem3.2 (.inl h9))
    · exact h.los b (mem3.2 (.inr (.inl h9)))
    · rcases hg b h9 with h8 | h8
      · exact h.los b (mem3.2 (.inr (.inr h8)))
      · have := h.lo_; omega
theorem PTx.phx (h : PTx lo w g p A c A' c' os A2 c2 A3 c3) : PHx lo w g p.store A c A' c' os := ⟨h.q0, h.q1, h.qf, h.lo_, h.lt, fun hc => h.apart (mem3.2 (.inl hc)), h.map, h.own, fun b hb => h.los b (mem3.2 (.inl hb))⟩
theorem PTx.l2 (h : PTx lo w g p A c A' c' os A2 c2 A3 c3) : ∀ b ∈ blk A2, lo ≤ b := fun b hb => h.los4 b (List.mem_append.2 (.inl hb))
theorem PTx.l3 (h : PTx lo w g p A c A' c' os A2 c2 A3 c3) : ∀ b ∈ blk A3, lo ≤ b := fun b hb => h.los4 b (List.mem_append.2 (.inr hb))
end
def recDo (p : TwoM) (o : CmdM) : TwoM := if o.op = 1 then ⟨execM p.store o p.store.cells.length, p.x ++ [true], p.y ++ [false]⟩ else ⟨execM p.store o p.store.cells.length, p.x, p.y⟩
end Go.Proofs.Ytopbngfghpgbnaa
