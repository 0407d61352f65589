/- Painted heaps under instructions: the box of a painted heap, the cases of an instruction. -/
import Derived.Test.YtopbngfghpgbnaaChecked
import Derived.Deep.DeepCutAuto
import Derived.Deep.RegionHeld3
import Derived.Test.YtopbngfghpgbnaaGrData
import Derived.Test.YtopbngfghpgbnaaGrSnap
import Derived.Test.YtopbngfghpgbnaaPaintSt
import Derived.Test.YtopbngfghpgbnaaStepH
import Derived.Test.YtopbngfghpgbnaaGrStep
namespace Go.Proofs.Ytopbngfghpgbnaa
open Go.RowKit
set_option maxRecDepth 100000
set_option linter.unusedSimpArgs false
set_option linter.unusedVariables false
section
variable {lo : Nat} {w w' : World} {g : Nat} {p : PaintM} {A A' A2 : Option Addr} {c c' c2 : Nat} {os : List OCell}
/-- A new heap is put in the place of the old one. -/
theorem PPx.heap_ (h : PPx lo w g p A c A' c' os A2 c2) (hb : Below w.heap.size w w') {h' : HeapM} {B B' : Option Addr} {d d' : Nat} {os' : List OCell} (hm : os'.map (·.c) = h'.cells) (hO : OHs w' B d B' d' os' h'.roots) (hlo : ∀ b ∈ hblks B os' B', w.heap.size ≤ b) :
    PPx lo ((w'.setCell ⟨g, 0, none⟩ (.slice B h'.cells.length d)).setCell ⟨g, 1, none⟩ (.slice B' h'.roots.length d')) g ⟨h', p.colours, p.active⟩ B d B' d' os' A2 c2 := by
  have hb' := h.below hb
  have hgl := h.lt
  have hgw := hb'.lt
  have k1 : ∀ b ∈ hblks B os' B', b ≠ g := fun b hb9 e => by have := hlo b hb9; omega
  have k2 : ∀ b ∈ blk A2, b ≠ g := fun b hb9 e => h.g2 (e ▸ hb9)
  refine ⟨by simp [go_sem, hgw, hb'.q0], by simp [go_sem, hgw, hb'.q1], by simp [go_sem, hb'.q2], by simp [go_sem, hb'.q3], fun o => by simp [go_sem, hb'.qf o], h.lo_, by simp; exact hgw, ?_, hm, ?_, ?_, ?_, ?_, h.cl⟩
  · intro hc
    rcases List.mem_append.1 hc with h9 | h9
    · exact k1 _ h9 rfl
    · exact k2 _ h9 rfl
  · exact hO.keep fun b hb9 => by rw [heap_setCell_ne _ _ _ (k1 b hb9), heap_setCell_ne _ _ _ (k1 b hb9)]
  · exact hb'.cs.keep fun b hb9 => by rw [heap_setCell_ne _ _ _ (k2 b hb9), heap_setCell_ne _ _ _ (k2 b hb9)]
  · have hx := h.cs.lt
    rw [List.nodup_append]
    refine ⟨hO.nodup, blk_nodup _, fun a ha b hb9 e => ?_⟩
    have := hx b hb9
    have := hlo a ha
    omega
  · intro b hb9
    rcases List.mem_append.1 hb9 with h9 | h9
    · have := hlo b h9; have := h.lo_; omega
    · exact h.los b (List.mem_append.2 (.inr h9))
/-- A colour more. -/
theorem PPx.pushC (h : PPx lo w g p A c A' c' os A2 c2) {S : Option Addr} {cS : Nat} {x : Int} (hO : OF 3 fi w' S cS (p.colours ++ [x])) (hOn : Only (blk A2) w w') (hg : ∀ b ∈ blk S, b ∈ blk A2 ∨ w.heap.size ≤ b) (hl : p.colours.length ≤ 1048576) {n : Nat} (hn : n = p.colours.length + 1) :
    PPx lo (w'.setCell ⟨g, 2, none⟩ (.slice S n cS)) g ⟨p.store, p.colours ++ [x], p.active⟩ A c A' c' os S cS := by
  rw [show n = (p.colours ++ [x]).length from by simp [hn]]
  have hgl := h.lt
  have hgw : g < w'.heap.size := Nat.lt_of_lt_of_le hgl hOn.size
  have kS : ∀ b ∈ blk S, b ≠ g := fun b hb9 e => by rcases hg b hb9 with h9 | h9; exact h.g2 (e ▸ h9); omega
  have k1 : ∀ b ∈ hblks A os A', b ≠ g := fun b hb9 e => h.apart (List.mem_append.2 (.inl (e ▸ hb9)))
  have lt1 := h.own.lt
  refine ⟨by simp [go_sem, hOn.cell h.q0 h.g2], by simp [go_sem, hOn.cell h.q1 h.g2], by simp [go_sem, hOn.cell h.q2 h.g2], by simp [go_sem, hOn.cell h.q3 h.g2], fun o => by simp [go_sem, (hOn.frozenAt g o hgl h.g2).trans (h.qf o)], h.lo_, by simp; exact hgw, ?_, h.map, ?_, ?_, ?_, ?_, by simp; omega⟩
  · intro hc
    rcases List.mem_append.1 hc with h9 | h9
    · exact k1 _ h9 rfl
    · exact kS _ h9 rfl
  · exact (h.own.only hOn h.g1).keep fun b hb9 => by rw [heap_setCell_ne _ _ _ (k1 b hb9)]
  · exact hO.keep fun b hb9 => by rw [heap_setCell_ne _ _ _ (kS b hb9)]
  · rw [List.nodup_append]
    refine ⟨h.own.nodup, blk_nodup _, fun a ha b hb9 e => ?_⟩
    subst e
    rcases hg a hb9 with h9 | h9
    · exact h.g1 a ha h9
    · have := lt1 a ha; omega
  · intro b hb9
    rcases List.mem_append.1 hb9 with h9 | h9
    · exact h.los b (List.mem_append.2 (.inl h9))
    · rcases hg b h9 with h8 | h8
      · exact h.los b (List.mem_append.2 (.inr h8))
      · have := h.lo_; omega
theorem PPx.l2 (h : PPx lo w g p A c A' c' os A2 c2) : ∀ b ∈ blk A2, lo ≤ b := fun b hb => h.los b (List.mem_append.2 (.inr hb))
end
theorem PPx.over0 {lo l2 : Nat} {w : World} {g : Nat} {q : PaintM} {B B' B2 : Option Addr} {d d' d2 : Nat} {os2 : List OCell} {v0 v1 v2 v3 : Value} (k0 : w.cell? ⟨g, 0, none⟩ = some v0) (k1 : w.cell? ⟨g, 1, none⟩ = some v1) (k2 : w.cell? ⟨g, 2, none⟩ = some v2) (k3 : w.cell? ⟨g, 3, none⟩ = some v3) (kf : ∀ o, w.frozen? ⟨g, o, none⟩ = false) (hm : os2.map (·.c) = q.store.cells) (ho : OHs w B d B' d' os2 q.store.roots) (hx : OF 3 fi w B2 d2 q.colours)
    (hnd : (hblks B os2 B' ++ blk B2).Nodup) (hlo : ∀ b ∈ hblks B os2 B' ++ blk B2, l2 ≤ b) (hxl : q.colours.length ≤ 9223372036854775807) (hl2 : lo ≤ l2) (hlg : lo ≤ g) (hg : g < l2) :
    PPx lo ((((w.setCell ⟨g, 0, none⟩ (.slice B q.store.cells.length d)).setCell ⟨g, 1, none⟩ (.slice B' q.store.roots.length d')).setCell ⟨g, 2, none⟩ (.slice B2 q.colours.length d2)).setCell ⟨g, 3, none⟩ (.bool q.active)) g q B d B' d' os2 B2 d2 := by
  have hk : ∀ b ∈ hblks B os2 B' ++ blk B2, b ≠ g := fun b hb e => by have := hlo b hb; omega
  have hlt : g < w.heap.size := World.block_lt_of_cell? w _ k0
  refine ⟨by simp [go_sem, k0, k1, k2, k3], by simp [go_sem, k0, k1, k2, k3], by simp [go_sem, k0, k1, k2, k3], by simp [go_sem, k0, k1, k2, k3], fun o => by simp [go_sem, kf o], hlg, by simpa using hlt, fun hc => by have := hlo g hc; omega, hm, ?_, ?_, hnd, fun b hb => Nat.le_trans hl2 (hlo b hb), hxl⟩
  · exact ho.keep fun b hb => by have := hk b (List.mem_append.2 (.inl hb)); rw [heap_setCell_ne _ _ _ this, heap_setCell_ne _ _ _ this, heap_setCell_ne _ _ _ this, heap_setCell_ne _ _ _ this]
  · exact hx.keep fun b hb => by have := hk b (List.mem_append.2 (.inr hb)); rw [heap_setCell_ne _ _ _ this, heap_setCell_ne _ _ _ this, heap_setCell_ne _ _ _ this, heap_setCell_ne _ _ _ this]
theorem PPx.over1 {lo l2 : Nat} {w : World} {g : Nat} {p q : PaintM} {A A' A2 B B' B2 : Option Addr} {c c' c2 d d' d2 : Nat} {os os2 : List OCell} (h : PPx lo w g p A c A' c' os A2 c2) (hm : os2.map (·.c) = q.store.cells) (ho : OHs w B d B' d' os2 q.store.roots) (hx : OF 3 fi w B2 d2 q.colours)
    (hnd : (hblks B os2 B' ++ blk B2).Nodup) (hlo : ∀ b ∈ hblks B os2 B' ++ blk B2, l2 ≤ b) (hxl : q.colours.length ≤ 9223372036854775807) (hl2 : lo ≤ l2) (hg : g < l2) :
    PPx lo ((((w.setCell ⟨g, 0, none⟩ (.slice B q.store.cells.length d)).setCell ⟨g, 1, none⟩ (.slice B' q.store.roots.length d')).setCell ⟨g, 2, none⟩ (.slice B2 q.colours.length d2)).setCell ⟨g, 3, none⟩ (.bool q.active)) g q B d B' d' os2 B2 d2 :=
  PPx.over0 h.q0 h.q1 h.q2 h.q3 h.qf hm ho hx hnd hlo hxl hl2 h.lo_ hg
/-! ### The cases -/
theorem paint_bad {p : PaintM} {o : CmdM} (hv : (paintM p && cmdOk o) = false) : paintCmdM p o = (zeroP, false) := by unfold paintCmdM; rw [hv]; rfl
theorem paint_no {p : PaintM} {o : CmdM} (hv : paintM p = true) (hc : cmdOk o = true) (h : canF p.store o = false) : paintCmdM p o = (p, false) := by unfold paintCmdM; rw [hv, hc, h]; rfl
theorem paint_yes {p : PaintM} {o : CmdM} (hv : paintM p = true) (hc : cmdOk o = true) (h : canF p.store o = true) : paintCmdM p o = (paintDo p o, true) := by unfold paintCmdM; rw [hv, hc, h]; rfl
theorem canF_poss {h : HeapM} {o : CmdM} (hc : canF h o = true) : possO h o = true := by unfold canF at hc; exact (Bool.and_eq_true_iff.1 hc).1
theorem canF_lt {h : HeapM} {o : CmdM} (hv : validM h = true) (hc : canF h o = true) : o.op = 1 → freeAt h.cells < 40 := fun e => by
  unfold canF at hc
  simp only [Bool.and_eq_true, Bool.not_eq_true', Bool.and_eq_false_iff, decide_eq_false_iff_not] at hc
  have := (valid_small hv).1
  have := freeAt_le h.cells
  rcases hc.2 with h9 | h9 <;> omega
theorem paintDo_act {p : PaintM} {o : CmdM} (h : p.active = true) : paintDo p o = ⟨execM p.store o (freeAt p.store.cells), greyL (colsP p o) (barM (execM p.store o (freeAt p.store.cells)) o), p.active⟩ := by unfold paintDo; rw [if_pos h]
theorem paintDo_idle {p : PaintM} {o : CmdM} (h : p.active = false) : paintDo p o = ⟨execM p.store o (freeAt p.store.cells), colsP p o, p.active⟩ := by unfold paintDo; rw [h]; rfl
theorem barM_root {h' : HeapM} {o : CmdM} (h : o.op = 1 ∨ o.op = 2 ∨ o.op = 4) : barM h' o = [rootAt h' o.a] := by unfold barM; rw [if_pos h]
theorem barM_ref {h' : HeapM} {o : CmdM} (h : o.op = 3) : barM h' o = [rootAt h' o.b] := by unfold barM; rw [if_neg (by omega), if_pos h]
theorem barM_none {h' : HeapM} {o : CmdM} (h1 : ¬ (o.op = 1 ∨ o.op = 2 ∨ o.op = 4)) (h2 : o.op ≠ 3) : barM h' o = [] := by unfold barM; rw [if_neg h1, if_neg h2]
theorem greyL_nil (cs : List Int) : greyL cs [] = cs := rfl
theorem greyL_one (cs : List Int) (r : Int) : greyL cs [r] = grey1 cs r := rfl
theorem colsP_grow {p : PaintM} {o : CmdM} (h1 : o.op = 1) (h2 : freeAt p.store.cells = p.store.cells.length) : colsP p o = p.colours ++ [0] := by unfold colsP; rw [if_pos ⟨h1, h2⟩]
theorem colsP_same {p : PaintM} {o : CmdM} (h : ¬ (o.op = 1 ∧ freeAt p.store.cells = p.store.cells.length)) : colsP p o = p.colours := by unfold colsP; rw [if_neg h]
theorem small_PaintCommand (p : PaintM) (o : CmdM) : SmallH (paintCmdM p o).1.store ∧ (paintCmdM p o).1.colours.length ≤ 1048576 := by
  rcases bool_ft (paintM p && cmdOk o) with h | h
  · rw [paint_bad h]; exact ⟨SmallH.zero, by simp [zeroP]⟩
  · simp only [Bool.and_eq_true] at h
    obtain ⟨hs, hl⟩ := paintM_parts h.1
    have h40 := (valid_small hs).1
    rcases bool_ft (canF p.store o) with hc | hc
    · rw [paint_no h.1 h.2 hc]; exact ⟨small_valid hs, by show p.colours.length ≤ _; omega⟩
    · have hv := paintM_cmd h.1 h.2
      obtain ⟨hs2, hl2⟩ := paintM_parts hv
      have := (valid_small hs2).1
      exact ⟨small_valid hs2, by rw [hl2]; omega⟩
/-- The root A, or B, is there. -/
theorem rootAt_get {h : HeapM} {a : Int} (h0 : a.toNat < h.roots.length) : h.roots[a.toNat]? = some (rootAt h a) := by
  have h9 := List.getElem?_eq_getElem h0
  unfold rootAt
  rw [h9]
end Go.Proofs.Ytopbngfghpgbnaa
