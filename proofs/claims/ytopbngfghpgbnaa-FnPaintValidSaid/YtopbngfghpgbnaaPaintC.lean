/- PaintCommand of the program returns paintCmdM, in new memory. -/
import Derived.Test.YtopbngfghpgbnaaChecked
import Derived.Deep.RegionHeld3
import Derived.Deep.DeepCutAuto
import Derived.Test.YtopbngfghpgbnaaBarr
import Derived.Test.YtopbngfghpgbnaaGrey
import Derived.Test.YtopbngfghpgbnaaGrExec
import Derived.Test.YtopbngfghpgbnaaPaintV
import Derived.Test.YtopbngfghpgbnaaGrCmd
import Derived.Test.YtopbngfghpgbnaaPlace
namespace Go.Proofs.Ytopbngfghpgbnaa
open Go.RowKit
set_option maxRecDepth 100000
set_option linter.unusedSimpArgs false
set_option linter.unusedVariables false
theorem wp_gen {P : Program} {c : Code} {Q : Exit → Act → World → Prop} {a : Act} {w : World} (R : World → Prop) (h : R w) (k : ∀ W, R W → Code.wp P c Q a W) : Code.wp P c Q a w := k w h
theorem paint_classes (p : PaintM) (o : CmdM) : ((o.op = 1 ∧ freeAt p.store.cells = p.store.cells.length)) ∨ (¬ (o.op = 1 ∧ freeAt p.store.cells = p.store.cells.length) ∧ (o.op = 1 ∨ o.op = 2 ∨ o.op = 4)) ∨ (¬ (o.op = 1 ∧ freeAt p.store.cells = p.store.cells.length) ∧ o.op = 3) ∨ (¬ (o.op = 1 ∧ freeAt p.store.cells = p.store.cells.length) ∧ ¬ (o.op = 1 ∨ o.op = 2 ∨ o.op = 4) ∧ o.op ≠ 3) := by
  rcases Classical.em (o.op = 1 ∧ freeAt p.store.cells = p.store.cells.length) with h | h
  · exact .inl h
  · rcases Classical.em (o.op = 1 ∨ o.op = 2 ∨ o.op = 4) with h2 | h2
    · exact .inr (.inl ⟨h, h2⟩)
    · rcases Classical.em (o.op = 3) with h3 | h3
      · exact .inr (.inr (.inl ⟨h, h3⟩))
      · exact .inr (.inr (.inr ⟨h, h2, h3⟩))
set_option maxHeartbeats 8000000 in
theorem implPaintCommand_any (v : Value) (p : PaintM) (o : CmdM) (w : World) (hv : RPt w v p) :
    Calls Try.prog 28 #[v, .agg #[.int .i64 o.op, .int .i64 o.a, .int .i64 o.b, .int .i64 o.c]] w fun e w' => ∃ v', e = .returned (.tuple #[v', .bool (paintCmdM p o).2]) ∧ OPt w.heap.size w' v' (paintCmdM p o).1 ∧ Below w.heap.size w w' := by
  have hv00 := hv
  obtain ⟨A, c, A', c', A2, c2, rfl, hh, -, -⟩ := hv
  obtain ⟨op, oa, ob, oc⟩ := o
  dsimp only
  have HF0 : Hid (∀ W, Below ((((w.alloc (.cells #[.slice A p.store.cells.length c, .slice A' p.store.roots.length c', .slice A2 p.colours.length c2, .bool p.active] 28)).alloc (.cells #[.int .i64 op, .int .i64 oa, .int .i64 ob, .int .i64 oc] 41)).alloc (.cells #[.slice none 0 0, .slice none 0 0, .slice none 0 0, .bool false] 28))).heap.size ((((w.alloc (.cells #[.slice A p.store.cells.length c, .slice A' p.store.roots.length c', .slice A2 p.colours.length c2, .bool p.active] 28)).alloc (.cells #[.int .i64 op, .int .i64 oa, .int .i64 ob, .int .i64 oc] 41)).alloc (.cells #[.slice none 0 0, .slice none 0 0, .slice none 0 0, .bool false] 28))) W → (W.cell? ⟨w.heap.size, 0, none⟩ = some (.slice A p.store.cells.length c) ∧ W.cell? ⟨w.heap.size, 1, none⟩ = some (.slice A' p.store.roots.length c') ∧ W.cell? ⟨w.heap.size, 2, none⟩ = some (.slice A2 p.colours.length c2) ∧ W.cell? ⟨w.heap.size, 3, none⟩ = some (.bool p.active) ∧ W.cell? ⟨w.heap.size + 1, 0, none⟩ = some (.int .i64 op) ∧ W.cell? ⟨w.heap.size + 1, 1, none⟩ = some (.int .i64 oa) ∧ W.cell? ⟨w.heap.size + 1, 2, none⟩ = some (.int .i64 ob) ∧ W.cell? ⟨w.heap.size + 1, 3, none⟩ = some (.int .i64 oc))) := fun W hW => ⟨cell_below (by simp [go_sem]) hW, cell_below (by simp [go_sem]) hW, cell_below (by simp [go_sem]) hW, cell_below (by simp [go_sem]) hW, cell_below (by simp [go_sem]) hW, cell_below (by simp [go_sem]) hW, cell_below (by simp [go_sem]) hW, cell_below (by simp [go_sem]) hW⟩
  have HG0 : Hid (∀ W, Below ((((w.alloc (.cells #[.slice A p.store.cells.length c, .slice A' p.store.roots.length c', .slice A2 p.colours.length c2, .bool p.active] 28)).alloc (.cells #[.int .i64 op, .int .i64 oa, .int .i64 ob, .int .i64 oc] 41)).alloc (.cells #[.slice none 0 0, .slice none 0 0, .slice none 0 0, .bool false] 28))).heap.size ((((w.alloc (.cells #[.slice A p.store.cells.length c, .slice A' p.store.roots.length c', .slice A2 p.colours.length c2, .bool p.active] 28)).alloc (.cells #[.int .i64 op, .int .i64 oa, .int .i64 ob, .int .i64 oc] 41)).alloc (.cells #[.slice none 0 0, .slice none 0 0, .slice none 0 0, .bool false] 28))) W → (W.cell? ⟨w.heap.size + 2, 0, none⟩ = some (.slice none 0 0) ∧ W.cell? ⟨w.heap.size + 2, 1, none⟩ = some (.slice none 0 0) ∧ W.cell? ⟨w.heap.size + 2, 2, none⟩ = some (.slice none 0 0) ∧ W.cell? ⟨w.heap.size + 2, 3, none⟩ = some (.bool false) ∧ ∀ o, W.frozen? ⟨w.heap.size + 2, o, none⟩ = false)) := fun W hW => ⟨cell_below (by simp [go_sem]) hW, cell_below (by simp [go_sem]) hW, cell_below (by simp [go_sem]) hW, cell_below (by simp [go_sem]) hW, fun o => ((bcell hW).2.1 _ _ (by simp)).trans (by simp [go_sem])⟩
  have hz0 : ((((w.alloc (.cells #[.slice A p.store.cells.length c, .slice A' p.store.roots.length c', .slice A2 p.colours.length c2, .bool p.active] 28)).alloc (.cells #[.int .i64 op, .int .i64 oa, .int .i64 ob, .int .i64 oc] 41)).alloc (.cells #[.slice none 0 0, .slice none 0 0, .slice none 0 0, .bool false] 28))).heap.size = w.heap.size + 3 := by simp
  have hW0 : Below w.heap.size w ((((w.alloc (.cells #[.slice A p.store.cells.length c, .slice A' p.store.roots.length c', .slice A2 p.colours.length c2, .bool p.active] 28)).alloc (.cells #[.int .i64 op, .int .i64 oa, .int .i64 ob, .int .i64 oc] 41)).alloc (.cells #[.slice none 0 0, .slice none 0 0, .slice none 0 0, .bool false] 28))) := blw_
  have hv0 := hv00.below hW0
  have hh0 := hh.below hW0
  clear hv00 hh
  cases hva : paintM p
  · have HV := Lib.hid hva
    have HE := Lib.hid (paint_bad (p := p) (o := ⟨op, oa, ob, oc⟩) (by rw [hva]; rfl))
    clear hva
    go_enter Try.func28, Try.ntmps28; go_wp2_with fail; generalize ((((w.alloc (.cells #[.slice A p.store.cells.length c, .slice A' p.store.roots.length c', .slice A2 p.colours.length c2, .bool p.active] 28)).alloc (.cells #[.int .i64 op, .int .i64 oa, .int .i64 ob, .int .i64 oc] 41)).alloc (.cells #[.slice none 0 0, .slice none 0 0, .slice none 0 0, .bool false] 28))) = W0 at *; have Y := Below.refl W0.heap.size W0; have sY := Y.size; obtain ⟨a0, a1, a2, a3, b0, b1, b2, b3⟩ := HF0.out _ Y; obtain ⟨r0, r1, r2, r3, rf⟩ := HG0.out _ Y; have rf0 := rf 0; have rf1 := rf 1; have rf2 := rf 2; have rf3 := rf 3; clear rf
    ((with_reducible refine (implPaintValid_any _ p _ (hv0.below blw_)).mono ?_); rw [HV.out]; rintro e w2 ⟨rfl, hB⟩; (have z_hB := Below.size hB); (try simp only [World.size_alloc, World.size_setCell, World.size_drew, World.heap_drewN] at z_hB); have Y2 : Below W0.heap.size W0 w2 := blw_; clear hB; clear Y a0 a1 a2 a3 b0 b1 b2 b3 r0 r1 r2 r3 rf0 rf1 rf2 rf3; have Y := Y2; clear Y2; have sY := Y.size; obtain ⟨a0, a1, a2, a3, b0, b1, b2, b3⟩ := HF0.out _ Y; obtain ⟨r0, r1, r2, r3, rf⟩ := HG0.out _ Y; have rf0 := rf 0; have rf1 := rf 1; have rf2 := rf 2; have rf3 := rf 3; clear rf)
    go_wp2_with fail
    have X := hW0.trans (Y.mono hW0.size); refine bodyPost_ret (v := .tuple #[.agg #[.slice none 0 0, .slice none 0 0, .slice none 0 0, .bool false], .bool false]) (by simp [results, Try.results28, go_sem, r0, r1, r2, r3]) rfl ⟨_, by rw [HE.out], ?_, blw_⟩; rw [HE.out]; exact OPt.zero
  have HV := Lib.hid hva
  obtain ⟨hvs, hcl⟩ := paintM_parts hva
  have HVS := Lib.hid hvs
  obtain ⟨v1, v2, v3⟩ := valid_small hvs
  have v2' : p.store.roots.length ≤ 4 := by omega
  have HV2 := Lib.hid v2
  have HV3 := Lib.hid v3
  have c40 : p.colours.length ≤ 40 := by omega
  have HCL := Lib.hid hcl
  clear v2 v3 hcl
  cases hok : cmdOk ⟨op, oa, ob, oc⟩
  · have HO := Lib.hid hok
    have HE := Lib.hid (paint_bad (p := p) (o := ⟨op, oa, ob, oc⟩) (by rw [hva, hok]; rfl))
    clear hva hok hvs
    go_enter Try.func28, Try.ntmps28; go_wp2_with fail; generalize ((((w.alloc (.cells #[.slice A p.store.cells.length c, .slice A' p.store.roots.length c', .slice A2 p.colours.length c2, .bool p.active] 28)).alloc (.cells #[.int .i64 op, .int .i64 oa, .int .i64 ob, .int .i64 oc] 41)).alloc (.cells #[.slice none 0 0, .slice none 0 0, .slice none 0 0, .bool false] 28))) = W0 at *; have Y := Below.refl W0.heap.size W0; have sY := Y.size; obtain ⟨a0, a1, a2, a3, b0, b1, b2, b3⟩ := HF0.out _ Y; obtain ⟨r0, r1, r2, r3, rf⟩ := HG0.out _ Y; have rf0 := rf 0; have rf1 := rf 1; have rf2 := rf 2; have rf3 := rf 3; clear rf
    ((with_reducible refine (implPaintValid_any _ p _ (hv0.below blw_)).mono ?_); rw [HV.out]; rintro e w2 ⟨rfl, hB⟩; (have z_hB := Below.size hB); (try simp only [World.size_alloc, World.size_setCell, World.size_drew, World.heap_drewN] at z_hB); have Y2 : Below W0.heap.size W0 w2 := blw_; clear hB; clear Y a0 a1 a2 a3 b0 b1 b2 b3 r0 r1 r2 r3 rf0 rf1 rf2 rf3; have Y := Y2; clear Y2; have sY := Y.size; obtain ⟨a0, a1, a2, a3, b0, b1, b2, b3⟩ := HF0.out _ Y; obtain ⟨r0, r1, r2, r3, rf⟩ := HG0.out _ Y; have rf0 := rf 0; have rf1 := rf 1; have rf2 := rf 2; have rf3 := rf 3; clear rf)
    go_wp2_with fail
    ((with_reducible refine (implCommandValid_any ⟨op, oa, ob, oc⟩ _).mono ?_); rw [HO.out]; rintro e w2 ⟨rfl, hB⟩; (have z_hB := Below.size hB); (try simp only [World.size_alloc, World.size_setCell, World.size_drew, World.heap_drewN] at z_hB); have Y2 : Below W0.heap.size W0 w2 := blw_; clear hB; clear Y a0 a1 a2 a3 b0 b1 b2 b3 r0 r1 r2 r3 rf0 rf1 rf2 rf3; have Y := Y2; clear Y2; have sY := Y.size; obtain ⟨a0, a1, a2, a3, b0, b1, b2, b3⟩ := HF0.out _ Y; obtain ⟨r0, r1, r2, r3, rf⟩ := HG0.out _ Y; have rf0 := rf 0; have rf1 := rf 1; have rf2 := rf 2; have rf3 := rf 3; clear rf)
    go_wp2_with fail
    have X := hW0.trans (Y.mono hW0.size); refine bodyPost_ret (v := .tuple #[.agg #[.slice none 0 0, .slice none 0 0, .slice none 0 0, .bool false], .bool false]) (by simp [results, Try.results28, go_sem, r0, r1, r2, r3]) rfl ⟨_, by rw [HE.out], ?_, blw_⟩; rw [HE.out]; exact OPt.zero
  have HO := Lib.hid hok
  obtain ⟨-, -, c0, c3, d0, d3, -, -⟩ := cmdOk_parts hok
  dsimp only at c0 c3 d0 d3
  have hct : Hid ((canF p.store ⟨op, oa, ob, oc⟩ = false ∧ paintCmdM p ⟨op, oa, ob, oc⟩ = (p, false)) ∨ (canF p.store ⟨op, oa, ob, oc⟩ = true ∧ possO p.store ⟨op, oa, ob, oc⟩ = true ∧ paintCmdM p ⟨op, oa, ob, oc⟩ = (paintDo p ⟨op, oa, ob, oc⟩, true) ∧ validM (execM p.store ⟨op, oa, ob, oc⟩ (freeAt p.store.cells)) = true)) := by
    rcases bool_ft (canF p.store ⟨op, oa, ob, oc⟩) with h | h
    · exact .inl ⟨h, paint_no hva hok h⟩
    · exact .inr ⟨h, canF_poss h, paint_yes hva hok h, valid_exec hvs hok (canF_poss h) (freeAt_le _) (canF_lt hvs h)⟩
  clear hva hok hvs
  go_enter Try.func28, Try.ntmps28; go_wp2_with fail; generalize ((((w.alloc (.cells #[.slice A p.store.cells.length c, .slice A' p.store.roots.length c', .slice A2 p.colours.length c2, .bool p.active] 28)).alloc (.cells #[.int .i64 op, .int .i64 oa, .int .i64 ob, .int .i64 oc] 41)).alloc (.cells #[.slice none 0 0, .slice none 0 0, .slice none 0 0, .bool false] 28))) = W0 at *; have Y := Below.refl W0.heap.size W0; have sY := Y.size; obtain ⟨a0, a1, a2, a3, b0, b1, b2, b3⟩ := HF0.out _ Y; obtain ⟨r0, r1, r2, r3, rf⟩ := HG0.out _ Y; have rf0 := rf 0; have rf1 := rf 1; have rf2 := rf 2; have rf3 := rf 3; clear rf
  ((with_reducible refine (implPaintValid_any _ p _ (hv0.below blw_)).mono ?_); rw [HV.out]; rintro e w2 ⟨rfl, hB⟩; (have z_hB := Below.size hB); (try simp only [World.size_alloc, World.size_setCell, World.size_drew, World.heap_drewN] at z_hB); have Y2 : Below W0.heap.size W0 w2 := blw_; clear hB; clear Y a0 a1 a2 a3 b0 b1 b2 b3 r0 r1 r2 r3 rf0 rf1 rf2 rf3; have Y := Y2; clear Y2; have sY := Y.size; obtain ⟨a0, a1, a2, a3, b0, b1, b2, b3⟩ := HF0.out _ Y; obtain ⟨r0, r1, r2, r3, rf⟩ := HG0.out _ Y; have rf0 := rf 0; have rf1 := rf 1; have rf2 := rf 2; have rf3 := rf 3; clear rf)
  go_wp2_with fail
  ((with_reducible refine (implCommandValid_any ⟨op, oa, ob, oc⟩ _).mono ?_); rw [HO.out]; rintro e w2 ⟨rfl, hB⟩; (have z_hB := Below.size hB); (try simp only [World.size_alloc, World.size_setCell, World.size_drew, World.heap_drewN] at z_hB); have Y2 : Below W0.heap.size W0 w2 := blw_; clear hB; clear Y a0 a1 a2 a3 b0 b1 b2 b3 r0 r1 r2 r3 rf0 rf1 rf2 rf3; have Y := Y2; clear Y2; have sY := Y.size; obtain ⟨a0, a1, a2, a3, b0, b1, b2, b3⟩ := HF0.out _ Y; obtain ⟨r0, r1, r2, r3, rf⟩ := HG0.out _ Y; have rf0 := rf 0; have rf1 := rf 1; have rf2 := rf 2; have rf3 := rf 3; clear rf)
  go_wp2_with fail
  ((with_reducible refine (copyPaint_any _ p _ (hv0.below blw_) (by omega) (fun d hd => Nat.le_trans (HV3.out d hd) (by omega)) (by omega) (by omega)).mono ?_); rintro e w2 ⟨v4, rfl, ⟨B, d, B', d', os, B2, d2, rfl, o4⟩, hB⟩; (have z_hB := Below.size hB); (try simp only [World.size_alloc, World.size_setCell, World.size_drew, World.heap_drewN] at z_hB); have Y2 : Below W0.heap.size W0 w2 := blw_; clear hB; clear Y a0 a1 a2 a3 b0 b1 b2 b3 r0 r1 r2 r3 rf0 rf1 rf2 rf3; have Y := Y2; clear Y2; have sY := Y.size; obtain ⟨a0, a1, a2, a3, b0, b1, b2, b3⟩ := HF0.out _ Y; obtain ⟨r0, r1, r2, r3, rf⟩ := HG0.out _ Y; have rf0 := rf 0; have rf1 := rf 1; have rf2 := rf 2; have rf3 := rf 3; clear rf)
  obtain ⟨wx, rfl⟩ : ∃ wx, wx = w2 := ⟨_, rfl⟩
  have hx0 : w.heap.size < wx.heap.size := by omega
  have hx1 : w.heap.size + 1 < wx.heap.size := by omega
  have hlo4 : ∀ b ∈ hblks B os B' ++ blk B2, W0.heap.size ≤ b := fun b hb => by have h7 := o4.2.2.2.2.1 b hb; (try simp only [World.size_alloc, World.size_setCell, World.size_drew, World.heap_drewN] at h7); omega
  have HPX := Lib.hid (PPx.mk_ (p := p) o4.1 o4.2.1 o4.2.2.1 o4.2.2.2.1 hlo4 (by omega) sY 28)
  clear o4 hlo4
  go_wp2_with fail
  (with_reducible refine (canStep_any _ p.store ⟨op, oa, ob, oc⟩ _ ((hh0.below blw_).rh _ _) HVS.out HO.out).mono ?_)
  rcases hct.out with ⟨hcf, hE⟩ | ⟨hcf, hpo, hE, hvx⟩
  · rw [hcf]
    rintro e w2 ⟨rfl, hB⟩
    have HP2 := Lib.hid (HPX.out.below hB)
    (have z_hB := Below.size hB); (try simp only [World.size_alloc, World.size_setCell, World.size_drew, World.heap_drewN] at z_hB); have Y2 : Below W0.heap.size W0 w2 := blw_; clear hB; clear Y a0 a1 a2 a3 b0 b1 b2 b3 r0 r1 r2 r3 rf0 rf1 rf2 rf3; have Y := Y2; clear Y2; have sY := Y.size; obtain ⟨a0, a1, a2, a3, b0, b1, b2, b3⟩ := HF0.out _ Y; obtain ⟨r0, r1, r2, r3, rf⟩ := HG0.out _ Y; have rf0 := rf 0; have rf1 := rf 1; have rf2 := rf 2; have rf3 := rf 3; clear rf
    have HE := Lib.hid hE
    have q0 := HP2.out.q0
    have q1 := HP2.out.q1
    have q2 := HP2.out.q2
    have q3 := HP2.out.q3
    clear hcf hE
    go_wp2_with fail
    have X := hW0.trans (Y.mono hW0.size)
    refine bodyPost_ret (v := .tuple #[.agg #[.slice B p.store.cells.length d, .slice B' p.store.roots.length d', .slice B2 p.colours.length d2, .bool p.active], .bool false]) (by simp [results, Try.results28, go_sem, r0, r1, r2, r3]) rfl ⟨_, by rw [HE.out], ?_, blw_⟩
    rw [HE.out]
    exact ((((HP2.out.opt.setlt (by simp; omega) _).setlt (by simp; omega) _).setlt (by simp; omega) _).setlt (by simp; omega) _).lo_ (by omega)
  rw [hcf]
  rintro e w2 ⟨rfl, hB⟩
  have HP5 := Lib.hid (HPX.out.below hB)
  (have z_hB := Below.size hB); (try simp only [World.size_alloc, World.size_setCell, World.size_drew, World.heap_drewN] at z_hB); have Y2 : Below W0.heap.size W0 w2 := blw_; clear hB; clear Y a0 a1 a2 a3 b0 b1 b2 b3 r0 r1 r2 r3 rf0 rf1 rf2 rf3; have Y := Y2; clear Y2; have sY := Y.size; obtain ⟨a0, a1, a2, a3, b0, b1, b2, b3⟩ := HF0.out _ Y; obtain ⟨r0, r1, r2, r3, rf⟩ := HG0.out _ Y; have rf0 := rf 0; have rf1 := rf 1; have rf2 := rf 2; have rf3 := rf 3; clear rf
  have HE := Lib.hid hE
  have HPO := Lib.hid hpo
  have HVX := Lib.hid hvx
  clear hcf hE hpo hvx hct
  obtain ⟨wy, rfl⟩ : ∃ wy, wy = w2 := ⟨_, rfl⟩
  have hgx : W0.heap.size ≤ wx.heap.size := HP5.out.lo_
  have hgl := HP5.out.lt
  have hnx0 : wx.heap.size ≠ w.heap.size := by omega
  have hnx1 : w.heap.size ≠ wx.heap.size := by omega
  have hnx2 : wx.heap.size ≠ w.heap.size + 1 := by omega
  have hnx3 : w.heap.size + 1 ≠ wx.heap.size := by omega
  have hnx4 : wx.heap.size ≠ w.heap.size + 2 := by omega
  have hnx5 : w.heap.size + 2 ≠ wx.heap.size := by omega
  go_wp2_with fail
  go_cut [] (fun wc => ∃ E f E' f' os5, PPx W0.heap.size wc wx.heap.size ⟨(execM p.store ⟨op, oa, ob, oc⟩ (freeAt p.store.cells)), p.colours, p.active⟩ E f E' f' os5 B2 d2 ∧ Below W0.heap.size W0 wc)
  case first =>
    go_region_held3 (fun W => (W.cell? ⟨w.heap.size, 0, none⟩ = some (.slice A p.store.cells.length c) ∧ W.cell? ⟨w.heap.size, 1, none⟩ = some (.slice A' p.store.roots.length c') ∧ W.cell? ⟨w.heap.size, 2, none⟩ = some (.slice A2 p.colours.length c2) ∧ W.cell? ⟨w.heap.size, 3, none⟩ = some (.bool p.active) ∧ W.cell? ⟨w.heap.size + 1, 0, none⟩ = some (.int .i64 op) ∧ W.cell? ⟨w.heap.size + 1, 1, none⟩ = some (.int .i64 oa) ∧ W.cell? ⟨w.heap.size + 1, 2, none⟩ = some (.int .i64 ob) ∧ W.cell? ⟨w.heap.size + 1, 3, none⟩ = some (.int .i64 oc))) (first | with_reducible exact HF0.out _ blw_)
      (first
        | (go_at_call 75; (with_reducible refine (freePlace_any _ p.store _ ((hh0.below blw_).rh _ _) (by omega)).mono ?_); rintro e w5 ⟨rfl, hB⟩; (have z_hB := Below.size hB); (try simp only [World.size_alloc, World.size_setCell, World.size_drew, World.heap_drewN] at z_hB))
        | (go_at_call 74; (with_reducible refine (execute_any _ p.store ⟨op, oa, ob, oc⟩ (freeAt p.store.cells) _ ((hh0.below blw_).rh _ _) HVS.out HO.out HPO.out (freeAt_le _)).mono ?_); rintro e w2 ⟨v4, rfl, ⟨E, f, E', f', os5, rfl, o5⟩, hB4⟩; (have z_hB4 := Below.size hB4); (try simp only [World.size_alloc, World.size_setCell, World.size_drew, World.heap_drewN] at z_hB4); have Z2 : Below wy.heap.size wy w2 := blw_; clear hB4; have t0 := cell_below HP5.out.q0 Z2; have t1 := cell_below HP5.out.q1 Z2; have tf0 := ((bcell Z2).2.1 _ _ hgl).trans (HP5.out.qf 0); have tf1 := ((bcell Z2).2.1 _ _ hgl).trans (HP5.out.qf 1)))
    all_goals
      have hlo5 : ∀ b ∈ hblks E os5 E', wy.heap.size ≤ b := fun b hb => by have h7 := o5.2.2 b hb; (try simp only [World.size_alloc, World.size_setCell, World.size_drew, World.heap_drewN] at h7); omega
      have hPA := HP5.out.heap_ (h' := (execM p.store ⟨op, oa, ob, oc⟩ (freeAt p.store.cells))) Z2 o5.1 o5.2.1 hlo5
      have hBA := ((Y.trans (Z2.mono sY)).setCell (p := ⟨wx.heap.size, 0, none⟩) hgx (.slice E ((execM p.store ⟨op, oa, ob, oc⟩ (freeAt p.store.cells))).cells.length f)).setCell (p := ⟨wx.heap.size, 1, none⟩) hgx (.slice E' ((execM p.store ⟨op, oa, ob, oc⟩ (freeAt p.store.cells))).roots.length f')
      have HPA := Lib.hid hPA
      have HBA := Lib.hid hBA
      clear hPA hBA
      go_wp2_with fail
      go_meet
      exact ⟨E, f, E', f', os5, HPA.out, HBA.out⟩
  case rest =>
    obtain ⟨E, f, E', f', os5, hPA, hBA⟩ := hcut
    obtain ⟨wa, rfl⟩ : ∃ x, x = wc := ⟨_, rfl⟩
    clear a0 a1 a2 a3 b0 b1 b2 b3 r0 r1 r2 r3 rf0 rf1 rf2 rf3 Y sY HP5 HPX
    have Y := hBA
    have sY := Y.size
    obtain ⟨a0, a1, a2, a3, b0, b1, b2, b3⟩ := HF0.out _ Y; obtain ⟨r0, r1, r2, r3, rf⟩ := HG0.out _ Y; have rf0 := rf 0; have rf1 := rf 1; have rf2 := rf 2; have rf3 := rf 3; clear rf
    have q0 := hPA.q0
    have q1 := hPA.q1
    have q2 := hPA.q2
    have q3 := hPA.q3
    have qf2 := hPA.qf 2
    have hga := hPA.lt
    have ng2 := hPA.g2
    have hl2 := hPA.l2
    have HPA := Lib.hid hPA
    have HXL := Lib.hid (exec_len p.store ⟨op, oa, ob, oc⟩ (freeAt p.store.cells))
    have HXR := Lib.hid (exec_rootsLen p.store ⟨op, oa, ob, oc⟩ (freeAt p.store.cells))
    clear hPA hBA
    have hcls := paint_classes p ⟨op, oa, ob, oc⟩
    dsimp only at hcls
    rcases hcls with hcl | hcl | hcl | hcl
    · rcases (bool_ft p.active).symm with hac | hac
      · have HCO : Hid (colsP p ⟨op, oa, ob, oc⟩ = p.colours ++ [0]) := colsP_grow hcl.1 hcl.2
        have hop : op = 1 ∨ op = 2 ∨ op = 4 := .inl hcl.1
        have hli : (((execM p.store ⟨op, oa, ob, oc⟩ (freeAt p.store.cells))).cells.length : Int) > (p.colours.length : Int) := by have h9 := HXL.out; rw [if_pos hcl] at h9; have := HCL.out; omega
        have HAC := Lib.hid hac
        have HPD : Hid (paintDo p ⟨op, oa, ob, oc⟩ = ⟨(execM p.store ⟨op, oa, ob, oc⟩ (freeAt p.store.cells)), grey1 (colsP p ⟨op, oa, ob, oc⟩) (rootAt (execM p.store ⟨op, oa, ob, oc⟩ (freeAt p.store.cells)) oa), p.active⟩) := by unfold Hid; rw [paintDo_act hac, barM_root hop]; rfl
        clear hcl
        clear hac
        have HOP := Lib.hid hop
        clear hop
        go_upto_region 9 with (at_builtin; (refine wpList_appi rfl (.tmp 42) (.tmp 43) rfl p.colours rfl rfl (HPA.out.cs.below blw_) (RF.only_one (x := 0) (by simp [go_sem, fi])) (by simp; omega) ?_); intro S2 cS2 w3 hO3 hOn3 hg3; have HP3 := Lib.hid ((HPA.out.below blw_).pushC hO3 hOn3 hg3 (by show p.colours.length ≤ _; omega) (n := p.colours.length + 1) rfl); have g2 := hOn3.cell (cell_below q2 blw_) ng2; have gf2 : w3.frozen? ⟨wx.heap.size, 2, none⟩ = false := ((hOn3.frozenAt wx.heap.size 2 (by simp; omega) ng2).trans (by simp [go_sem, qf2, hga])); have HB3 : Hid (Below W0.heap.size W0 w3) := Y.trans (Below.trans blw_ (hOn3.below (by simp; omega) hl2)); clear hO3 hOn3 hg3)
        refine wp_gen (fun W => (∃ S cS, PPx W0.heap.size W wx.heap.size ⟨(execM p.store ⟨op, oa, ob, oc⟩ (freeAt p.store.cells)), colsP p ⟨op, oa, ob, oc⟩, p.active⟩ E f E' f' os5 S cS) ∧ Below W0.heap.size W0 W) ⟨⟨S2, cS2, by rw [HCO.out]; exact HP3.out⟩, HB3.out.setCell hgx _⟩ ?_
        clear a0 a1 a2 a3 b0 b1 b2 b3 r0 r1 r2 r3 rf0 rf1 rf2 rf3 Y sY q0 q1 q2 q3 qf2 hga ng2 hl2 hli HPA; rintro WS ⟨⟨S, cS, hP9⟩, Y⟩; have sY := Y.size; obtain ⟨a0, a1, a2, a3, b0, b1, b2, b3⟩ := HF0.out _ Y; obtain ⟨r0, r1, r2, r3, rf⟩ := HG0.out _ Y; have rf0 := rf 0; have rf1 := rf 1; have rf2 := rf 2; have rf3 := rf 3; clear rf; have q0 := hP9.q0; have q1 := hP9.q1; have q2 := hP9.q2; have q3 := hP9.q3; have hga := hP9.lt; have HP9 := Lib.hid hP9; clear hP9
        rw [HAC.out] at a3
        go_wp2_with fail
        (with_reducible refine (barrierOf_root op _ HOP.out).mono ?_)
        rintro e w9 ⟨rfl, rfl⟩
        go_wp2_with fail
        (with_reducible refine (rootReached_any _ _ p.store (execM p.store ⟨op, oa, ob, oc⟩ (freeAt p.store.cells)) op oa ob oc _ ((hh0.below blw_).rh _ _) ((HP9.out.own.rhs HP9.out.map).rh _ _) c0 (by rw [HXR.out]; have := HV2.out; omega)).mono ?_)
        rintro e w8 ⟨rfl, hB8⟩
        have HP8 := Lib.hid (HP9.out.below hB8)
        have Y8 : Below W0.heap.size W0 w8 := Y.trans (hB8.mono sY)
        clear hB8 Y a0 a1 a2 a3 b0 b1 b2 b3 r0 r1 r2 r3 rf0 rf1 rf2 rf3 sY q0 q1 q2 q3 hga
        have Y := Y8
        clear Y8
        have sY := Y.size
        have q2 := HP8.out.q2
        have hga := HP8.out.lt
        go_wp2_with fail
        (with_reducible refine (greyOne_any wx.heap.size S w8.heap.size cS _ (colsP p ⟨op, oa, ob, oc⟩) (rootAt (execM p.store ⟨op, oa, ob, oc⟩ (freeAt p.store.cells)) oa) (w8.alloc (.cells #[.int .i64 (rootAt (execM p.store ⟨op, oa, ob, oc⟩ (freeAt p.store.cells)) oa)] 3)) (cell_below q2 blw_) (HP8.out.cs.below blw_) HP8.out.g2 (fun W hW => ((hW.cellAt w8.heap.size 0 (by simp only [World.size_alloc]; exact Nat.lt_succ_self _) (fun hc => absurd (HP8.out.cs.lt _ hc) (Nat.lt_irrefl _))).trans (by simp [go_sem, fi]))) (by rw [colsP_len HCL.out]; exact leadsM_lt (rootAt_leads HVX.out _)) HP8.out.cl).mono ?_)
        rintro e w7 ⟨rfl, hO7, hOn7⟩
        have hP7 := (HP8.out.below (Below.alloc (Below.refl _ _) (Nat.le_refl _) (.cells #[.int .i64 (rootAt (execM p.store ⟨op, oa, ob, oc⟩ (freeAt p.store.cells)) oa)] 3))).paint hO7 (grey1_len _ _) hOn7
        have Y7 : Below W0.heap.size W0 w7 := Below.trans blw_ (hOn7.below (by simp; omega) HP8.out.l2)
        have HP7 := Lib.hid hP7
        clear hO7 hOn7 hP7 Y q2 hga
        have Y := Y7
        clear Y7
        have sY := Y.size
        obtain ⟨r0, r1, r2, r3, rf⟩ := HG0.out _ Y; have rf0 := rf 0; have rf1 := rf 1; have rf2 := rf 2; have rf3 := rf 3; clear rf
        have q0 := HP7.out.q0
        have q1 := HP7.out.q1
        have q2 := HP7.out.q2
        have q3 := HP7.out.q3
        go_upto_region 12 with fail; (repeat go_step); have X := hW0.trans (Y.mono hW0.size); refine bodyPost_ret (v := .tuple #[.agg #[.slice E ((execM p.store ⟨op, oa, ob, oc⟩ (freeAt p.store.cells))).cells.length f, .slice E' ((execM p.store ⟨op, oa, ob, oc⟩ (freeAt p.store.cells))).roots.length f', .slice S (grey1 (colsP p ⟨op, oa, ob, oc⟩) (rootAt (execM p.store ⟨op, oa, ob, oc⟩ (freeAt p.store.cells)) oa)).length cS, .bool p.active], .bool true]) (by simp [results, Try.results28, go_sem, r0, r1, r2, r3]) rfl ⟨_, by rw [HE.out], ?_, blw_⟩; rw [HE.out, HPD.out]; skip; exact ((((HP7.out.opt.setlt (by simp; omega) _).setlt (by simp; omega) _).setlt (by simp; omega) _).setlt (by simp; omega) _).lo_ (by omega)
      · have HCO : Hid (colsP p ⟨op, oa, ob, oc⟩ = p.colours ++ [0]) := colsP_grow hcl.1 hcl.2
        have hop : op = 1 ∨ op = 2 ∨ op = 4 := .inl hcl.1
        have hli : (((execM p.store ⟨op, oa, ob, oc⟩ (freeAt p.store.cells))).cells.length : Int) > (p.colours.length : Int) := by have h9 := HXL.out; rw [if_pos hcl] at h9; have := HCL.out; omega
        have HAC := Lib.hid hac
        have HPD : Hid (paintDo p ⟨op, oa, ob, oc⟩ = ⟨(execM p.store ⟨op, oa, ob, oc⟩ (freeAt p.store.cells)), colsP p ⟨op, oa, ob, oc⟩, p.active⟩) := paintDo_idle hac
        clear hcl
        clear hac
        have HOP := Lib.hid hop
        clear hop
        go_upto_region 9 with (at_builtin; (refine wpList_appi rfl (.tmp 42) (.tmp 43) rfl p.colours rfl rfl (HPA.out.cs.below blw_) (RF.only_one (x := 0) (by simp [go_sem, fi])) (by simp; omega) ?_); intro S2 cS2 w3 hO3 hOn3 hg3; have HP3 := Lib.hid ((HPA.out.below blw_).pushC hO3 hOn3 hg3 (by show p.colours.length ≤ _; omega) (n := p.colours.length + 1) rfl); have g2 := hOn3.cell (cell_below q2 blw_) ng2; have gf2 : w3.frozen? ⟨wx.heap.size, 2, none⟩ = false := ((hOn3.frozenAt wx.heap.size 2 (by simp; omega) ng2).trans (by simp [go_sem, qf2, hga])); have HB3 : Hid (Below W0.heap.size W0 w3) := Y.trans (Below.trans blw_ (hOn3.below (by simp; omega) hl2)); clear hO3 hOn3 hg3)
        refine wp_gen (fun W => (∃ S cS, PPx W0.heap.size W wx.heap.size ⟨(execM p.store ⟨op, oa, ob, oc⟩ (freeAt p.store.cells)), colsP p ⟨op, oa, ob, oc⟩, p.active⟩ E f E' f' os5 S cS) ∧ Below W0.heap.size W0 W) ⟨⟨S2, cS2, by rw [HCO.out]; exact HP3.out⟩, HB3.out.setCell hgx _⟩ ?_
        clear a0 a1 a2 a3 b0 b1 b2 b3 r0 r1 r2 r3 rf0 rf1 rf2 rf3 Y sY q0 q1 q2 q3 qf2 hga ng2 hl2 hli HPA; rintro WS ⟨⟨S, cS, hP9⟩, Y⟩; have sY := Y.size; obtain ⟨a0, a1, a2, a3, b0, b1, b2, b3⟩ := HF0.out _ Y; obtain ⟨r0, r1, r2, r3, rf⟩ := HG0.out _ Y; have rf0 := rf 0; have rf1 := rf 1; have rf2 := rf 2; have rf3 := rf 3; clear rf; have q0 := hP9.q0; have q1 := hP9.q1; have q2 := hP9.q2; have q3 := hP9.q3; have hga := hP9.lt; have HP9 := Lib.hid hP9; clear hP9
        rw [HAC.out] at a3
        go_wp2_with fail
        (with_reducible refine (barrierOf_root op _ HOP.out).mono ?_)
        rintro e w9 ⟨rfl, rfl⟩
        go_upto_region 12 with fail; (repeat go_step); have X := hW0.trans (Y.mono hW0.size); refine bodyPost_ret (v := .tuple #[.agg #[.slice E ((execM p.store ⟨op, oa, ob, oc⟩ (freeAt p.store.cells))).cells.length f, .slice E' ((execM p.store ⟨op, oa, ob, oc⟩ (freeAt p.store.cells))).roots.length f', .slice S (colsP p ⟨op, oa, ob, oc⟩).length cS, .bool p.active], .bool true]) (by simp [results, Try.results28, go_sem, r0, r1, r2, r3]) rfl ⟨_, by rw [HE.out], ?_, blw_⟩; rw [HE.out, HPD.out]; exact ((((HP9.out.opt.setlt (by simp; omega) _).setlt (by simp; omega) _).setlt (by simp; omega) _).setlt (by simp; omega) _).lo_ (by omega)
    · rcases (bool_ft p.active).symm with hac | hac
      · have HCO : Hid (colsP p ⟨op, oa, ob, oc⟩ = p.colours) := colsP_same hcl.1
        have hli : ¬ (((execM p.store ⟨op, oa, ob, oc⟩ (freeAt p.store.cells))).cells.length : Int) > (p.colours.length : Int) := by have h9 := HXL.out; rw [if_neg hcl.1] at h9; have := HCL.out; omega
        have hop : op = 1 ∨ op = 2 ∨ op = 4 := hcl.2
        have HAC := Lib.hid hac
        have HPD : Hid (paintDo p ⟨op, oa, ob, oc⟩ = ⟨(execM p.store ⟨op, oa, ob, oc⟩ (freeAt p.store.cells)), grey1 (colsP p ⟨op, oa, ob, oc⟩) (rootAt (execM p.store ⟨op, oa, ob, oc⟩ (freeAt p.store.cells)) oa), p.active⟩) := by unfold Hid; rw [paintDo_act hac, barM_root hop]; rfl
        clear hcl
        clear hac
        have HOP := Lib.hid hop
        clear hop
        go_upto_region 9 with fail
        refine wp_gen (fun W => (∃ S cS, PPx W0.heap.size W wx.heap.size ⟨(execM p.store ⟨op, oa, ob, oc⟩ (freeAt p.store.cells)), colsP p ⟨op, oa, ob, oc⟩, p.active⟩ E f E' f' os5 S cS) ∧ Below W0.heap.size W0 W) ⟨⟨B2, d2, by rw [HCO.out]; exact HPA.out⟩, Y⟩ ?_
        clear a0 a1 a2 a3 b0 b1 b2 b3 r0 r1 r2 r3 rf0 rf1 rf2 rf3 Y sY q0 q1 q2 q3 qf2 hga ng2 hl2 hli HPA; rintro WS ⟨⟨S, cS, hP9⟩, Y⟩; have sY := Y.size; obtain ⟨a0, a1, a2, a3, b0, b1, b2, b3⟩ := HF0.out _ Y; obtain ⟨r0, r1, r2, r3, rf⟩ := HG0.out _ Y; have rf0 := rf 0; have rf1 := rf 1; have rf2 := rf 2; have rf3 := rf 3; clear rf; have q0 := hP9.q0; have q1 := hP9.q1; have q2 := hP9.q2; have q3 := hP9.q3; have hga := hP9.lt; have HP9 := Lib.hid hP9; clear hP9
        rw [HAC.out] at a3
        go_wp2_with fail
        (with_reducible refine (barrierOf_root op _ HOP.out).mono ?_)
        rintro e w9 ⟨rfl, rfl⟩
        go_wp2_with fail
        (with_reducible refine (rootReached_any _ _ p.store (execM p.store ⟨op, oa, ob, oc⟩ (freeAt p.store.cells)) op oa ob oc _ ((hh0.below blw_).rh _ _) ((HP9.out.own.rhs HP9.out.map).rh _ _) c0 (by rw [HXR.out]; have := HV2.out; omega)).mono ?_)
        rintro e w8 ⟨rfl, hB8⟩
        have HP8 := Lib.hid (HP9.out.below hB8)
        have Y8 : Below W0.heap.size W0 w8 := Y.trans (hB8.mono sY)
        clear hB8 Y a0 a1 a2 a3 b0 b1 b2 b3 r0 r1 r2 r3 rf0 rf1 rf2 rf3 sY q0 q1 q2 q3 hga
        have Y := Y8
        clear Y8
        have sY := Y.size
        have q2 := HP8.out.q2
        have hga := HP8.out.lt
        go_wp2_with fail
        (with_reducible refine (greyOne_any wx.heap.size S w8.heap.size cS _ (colsP p ⟨op, oa, ob, oc⟩) (rootAt (execM p.store ⟨op, oa, ob, oc⟩ (freeAt p.store.cells)) oa) (w8.alloc (.cells #[.int .i64 (rootAt (execM p.store ⟨op, oa, ob, oc⟩ (freeAt p.store.cells)) oa)] 3)) (cell_below q2 blw_) (HP8.out.cs.below blw_) HP8.out.g2 (fun W hW => ((hW.cellAt w8.heap.size 0 (by simp only [World.size_alloc]; exact Nat.lt_succ_self _) (fun hc => absurd (HP8.out.cs.lt _ hc) (Nat.lt_irrefl _))).trans (by simp [go_sem, fi]))) (by rw [colsP_len HCL.out]; exact leadsM_lt (rootAt_leads HVX.out _)) HP8.out.cl).mono ?_)
        rintro e w7 ⟨rfl, hO7, hOn7⟩
        have hP7 := (HP8.out.below (Below.alloc (Below.refl _ _) (Nat.le_refl _) (.cells #[.int .i64 (rootAt (execM p.store ⟨op, oa, ob, oc⟩ (freeAt p.store.cells)) oa)] 3))).paint hO7 (grey1_len _ _) hOn7
        have Y7 : Below W0.heap.size W0 w7 := Below.trans blw_ (hOn7.below (by simp; omega) HP8.out.l2)
        have HP7 := Lib.hid hP7
        clear hO7 hOn7 hP7 Y q2 hga
        have Y := Y7
        clear Y7
        have sY := Y.size
        obtain ⟨r0, r1, r2, r3, rf⟩ := HG0.out _ Y; have rf0 := rf 0; have rf1 := rf 1; have rf2 := rf 2; have rf3 := rf 3; clear rf
        have q0 := HP7.out.q0
        have q1 := HP7.out.q1
        have q2 := HP7.out.q2
        have q3 := HP7.out.q3
        go_upto_region 12 with fail; (repeat go_step); have X := hW0.trans (Y.mono hW0.size); refine bodyPost_ret (v := .tuple #[.agg #[.slice E ((execM p.store ⟨op, oa, ob, oc⟩ (freeAt p.store.cells))).cells.length f, .slice E' ((execM p.store ⟨op, oa, ob, oc⟩ (freeAt p.store.cells))).roots.length f', .slice S (grey1 (colsP p ⟨op, oa, ob, oc⟩) (rootAt (execM p.store ⟨op, oa, ob, oc⟩ (freeAt p.store.cells)) oa)).length cS, .bool p.active], .bool true]) (by simp [results, Try.results28, go_sem, r0, r1, r2, r3]) rfl ⟨_, by rw [HE.out], ?_, blw_⟩; rw [HE.out, HPD.out]; skip; exact ((((HP7.out.opt.setlt (by simp; omega) _).setlt (by simp; omega) _).setlt (by simp; omega) _).setlt (by simp; omega) _).lo_ (by omega)
      · have HCO : Hid (colsP p ⟨op, oa, ob, oc⟩ = p.colours) := colsP_same hcl.1
        have hli : ¬ (((execM p.store ⟨op, oa, ob, oc⟩ (freeAt p.store.cells))).cells.length : Int) > (p.colours.length : Int) := by have h9 := HXL.out; rw [if_neg hcl.1] at h9; have := HCL.out; omega
        have hop : op = 1 ∨ op = 2 ∨ op = 4 := hcl.2
        have HAC := Lib.hid hac
        have HPD : Hid (paintDo p ⟨op, oa, ob, oc⟩ = ⟨(execM p.store ⟨op, oa, ob, oc⟩ (freeAt p.store.cells)), colsP p ⟨op, oa, ob, oc⟩, p.active⟩) := paintDo_idle hac
        clear hcl
        clear hac
        have HOP := Lib.hid hop
        clear hop
        go_upto_region 9 with fail
        refine wp_gen (fun W => (∃ S cS, PPx W0.heap.size W wx.heap.size ⟨(execM p.store ⟨op, oa, ob, oc⟩ (freeAt p.store.cells)), colsP p ⟨op, oa, ob, oc⟩, p.active⟩ E f E' f' os5 S cS) ∧ Below W0.heap.size W0 W) ⟨⟨B2, d2, by rw [HCO.out]; exact HPA.out⟩, Y⟩ ?_
        clear a0 a1 a2 a3 b0 b1 b2 b3 r0 r1 r2 r3 rf0 rf1 rf2 rf3 Y sY q0 q1 q2 q3 qf2 hga ng2 hl2 hli HPA; rintro WS ⟨⟨S, cS, hP9⟩, Y⟩; have sY := Y.size; obtain ⟨a0, a1, a2, a3, b0, b1, b2, b3⟩ := HF0.out _ Y; obtain ⟨r0, r1, r2, r3, rf⟩ := HG0.out _ Y; have rf0 := rf 0; have rf1 := rf 1; have rf2 := rf 2; have rf3 := rf 3; clear rf; have q0 := hP9.q0; have q1 := hP9.q1; have q2 := hP9.q2; have q3 := hP9.q3; have hga := hP9.lt; have HP9 := Lib.hid hP9; clear hP9
        rw [HAC.out] at a3
        go_wp2_with fail
        (with_reducible refine (barrierOf_root op _ HOP.out).mono ?_)
        rintro e w9 ⟨rfl, rfl⟩
        go_upto_region 12 with fail; (repeat go_step); have X := hW0.trans (Y.mono hW0.size); refine bodyPost_ret (v := .tuple #[.agg #[.slice E ((execM p.store ⟨op, oa, ob, oc⟩ (freeAt p.store.cells))).cells.length f, .slice E' ((execM p.store ⟨op, oa, ob, oc⟩ (freeAt p.store.cells))).roots.length f', .slice S (colsP p ⟨op, oa, ob, oc⟩).length cS, .bool p.active], .bool true]) (by simp [results, Try.results28, go_sem, r0, r1, r2, r3]) rfl ⟨_, by rw [HE.out], ?_, blw_⟩; rw [HE.out, HPD.out]; exact ((((HP9.out.opt.setlt (by simp; omega) _).setlt (by simp; omega) _).setlt (by simp; omega) _).setlt (by simp; omega) _).lo_ (by omega)
    · rcases (bool_ft p.active).symm with hac | hac
      · have HCO : Hid (colsP p ⟨op, oa, ob, oc⟩ = p.colours) := colsP_same hcl.1
        have hli : ¬ (((execM p.store ⟨op, oa, ob, oc⟩ (freeAt p.store.cells))).cells.length : Int) > (p.colours.length : Int) := by have h9 := HXL.out; rw [if_neg hcl.1] at h9; have := HCL.out; omega
        have hop : op = 3 := hcl.2
        have HAC := Lib.hid hac
        have HPD : Hid (paintDo p ⟨op, oa, ob, oc⟩ = ⟨(execM p.store ⟨op, oa, ob, oc⟩ (freeAt p.store.cells)), grey1 (colsP p ⟨op, oa, ob, oc⟩) (rootAt (execM p.store ⟨op, oa, ob, oc⟩ (freeAt p.store.cells)) ob), p.active⟩) := by unfold Hid; rw [paintDo_act hac, barM_ref hop]; rfl
        have HR3 : Hid (rootAt (execM p.store ⟨op, oa, ob, oc⟩ (freeAt p.store.cells)) ob = rootAt p.store ob) := by unfold Hid rootAt; rw [exec_root3 hop]
        clear hcl
        clear hac
        have HOP := Lib.hid hop
        clear hop
        go_upto_region 9 with fail
        refine wp_gen (fun W => (∃ S cS, PPx W0.heap.size W wx.heap.size ⟨(execM p.store ⟨op, oa, ob, oc⟩ (freeAt p.store.cells)), colsP p ⟨op, oa, ob, oc⟩, p.active⟩ E f E' f' os5 S cS) ∧ Below W0.heap.size W0 W) ⟨⟨B2, d2, by rw [HCO.out]; exact HPA.out⟩, Y⟩ ?_
        clear a0 a1 a2 a3 b0 b1 b2 b3 r0 r1 r2 r3 rf0 rf1 rf2 rf3 Y sY q0 q1 q2 q3 qf2 hga ng2 hl2 hli HPA; rintro WS ⟨⟨S, cS, hP9⟩, Y⟩; have sY := Y.size; obtain ⟨a0, a1, a2, a3, b0, b1, b2, b3⟩ := HF0.out _ Y; obtain ⟨r0, r1, r2, r3, rf⟩ := HG0.out _ Y; have rf0 := rf 0; have rf1 := rf 1; have rf2 := rf 2; have rf3 := rf 3; clear rf; have q0 := hP9.q0; have q1 := hP9.q1; have q2 := hP9.q2; have q3 := hP9.q3; have hga := hP9.lt; have HP9 := Lib.hid hP9; clear hP9
        rw [HAC.out] at a3
        go_wp2_with fail
        (with_reducible refine (barrierOf_ref op _ HOP.out).mono ?_)
        rintro e w9 ⟨rfl, rfl⟩
        go_wp2_with fail
        (with_reducible refine (refReached_any _ _ p.store (execM p.store ⟨op, oa, ob, oc⟩ (freeAt p.store.cells)) op oa ob oc _ ((hh0.below blw_).rh _ _) ((HP9.out.own.rhs HP9.out.map).rh _ _) d0 (by have := HV2.out; have h9 : ob ≤ 3 := (by have h8 := d3; rw [HOP.out] at h8; simpa [maxB] using h8); omega)).mono ?_)
        rintro e w8 ⟨rfl, hB8⟩
        have HP8 := Lib.hid (HP9.out.below hB8)
        have Y8 : Below W0.heap.size W0 w8 := Y.trans (hB8.mono sY)
        clear hB8 Y a0 a1 a2 a3 b0 b1 b2 b3 r0 r1 r2 r3 rf0 rf1 rf2 rf3 sY q0 q1 q2 q3 hga
        have Y := Y8
        clear Y8
        have sY := Y.size
        have q2 := HP8.out.q2
        have hga := HP8.out.lt
        go_wp2_with fail
        (with_reducible refine (greyOne_any wx.heap.size S w8.heap.size cS _ (colsP p ⟨op, oa, ob, oc⟩) (rootAt p.store ob) (w8.alloc (.cells #[.int .i64 (rootAt p.store ob)] 3)) (cell_below q2 blw_) (HP8.out.cs.below blw_) HP8.out.g2 (fun W hW => ((hW.cellAt w8.heap.size 0 (by simp only [World.size_alloc]; exact Nat.lt_succ_self _) (fun hc => absurd (HP8.out.cs.lt _ hc) (Nat.lt_irrefl _))).trans (by simp [go_sem, fi]))) (by rw [colsP_len HCL.out, ← HR3.out]; exact leadsM_lt (rootAt_leads HVX.out _)) HP8.out.cl).mono ?_)
        rintro e w7 ⟨rfl, hO7, hOn7⟩
        have hP7 := (HP8.out.below (Below.alloc (Below.refl _ _) (Nat.le_refl _) (.cells #[.int .i64 (rootAt p.store ob)] 3))).paint hO7 (grey1_len _ _) hOn7
        have Y7 : Below W0.heap.size W0 w7 := Below.trans blw_ (hOn7.below (by simp; omega) HP8.out.l2)
        have HP7 := Lib.hid hP7
        clear hO7 hOn7 hP7 Y q2 hga
        have Y := Y7
        clear Y7
        have sY := Y.size
        obtain ⟨r0, r1, r2, r3, rf⟩ := HG0.out _ Y; have rf0 := rf 0; have rf1 := rf 1; have rf2 := rf 2; have rf3 := rf 3; clear rf
        have q0 := HP7.out.q0
        have q1 := HP7.out.q1
        have q2 := HP7.out.q2
        have q3 := HP7.out.q3
        go_upto_region 12 with fail; (repeat go_step); have X := hW0.trans (Y.mono hW0.size); refine bodyPost_ret (v := .tuple #[.agg #[.slice E ((execM p.store ⟨op, oa, ob, oc⟩ (freeAt p.store.cells))).cells.length f, .slice E' ((execM p.store ⟨op, oa, ob, oc⟩ (freeAt p.store.cells))).roots.length f', .slice S (grey1 (colsP p ⟨op, oa, ob, oc⟩) (rootAt p.store ob)).length cS, .bool p.active], .bool true]) (by simp [results, Try.results28, go_sem, r0, r1, r2, r3]) rfl ⟨_, by rw [HE.out], ?_, blw_⟩; rw [HE.out, HPD.out]; rw [HR3.out]; exact ((((HP7.out.opt.setlt (by simp; omega) _).setlt (by simp; omega) _).setlt (by simp; omega) _).setlt (by simp; omega) _).lo_ (by omega)
      · have HCO : Hid (colsP p ⟨op, oa, ob, oc⟩ = p.colours) := colsP_same hcl.1
        have hli : ¬ (((execM p.store ⟨op, oa, ob, oc⟩ (freeAt p.store.cells))).cells.length : Int) > (p.colours.length : Int) := by have h9 := HXL.out; rw [if_neg hcl.1] at h9; have := HCL.out; omega
        have hop : op = 3 := hcl.2
        have HAC := Lib.hid hac
        have HPD : Hid (paintDo p ⟨op, oa, ob, oc⟩ = ⟨(execM p.store ⟨op, oa, ob, oc⟩ (freeAt p.store.cells)), colsP p ⟨op, oa, ob, oc⟩, p.active⟩) := paintDo_idle hac
        clear hcl
        clear hac
        have HOP := Lib.hid hop
        clear hop
        go_upto_region 9 with fail
        refine wp_gen (fun W => (∃ S cS, PPx W0.heap.size W wx.heap.size ⟨(execM p.store ⟨op, oa, ob, oc⟩ (freeAt p.store.cells)), colsP p ⟨op, oa, ob, oc⟩, p.active⟩ E f E' f' os5 S cS) ∧ Below W0.heap.size W0 W) ⟨⟨B2, d2, by rw [HCO.out]; exact HPA.out⟩, Y⟩ ?_
        clear a0 a1 a2 a3 b0 b1 b2 b3 r0 r1 r2 r3 rf0 rf1 rf2 rf3 Y sY q0 q1 q2 q3 qf2 hga ng2 hl2 hli HPA; rintro WS ⟨⟨S, cS, hP9⟩, Y⟩; have sY := Y.size; obtain ⟨a0, a1, a2, a3, b0, b1, b2, b3⟩ := HF0.out _ Y; obtain ⟨r0, r1, r2, r3, rf⟩ := HG0.out _ Y; have rf0 := rf 0; have rf1 := rf 1; have rf2 := rf 2; have rf3 := rf 3; clear rf; have q0 := hP9.q0; have q1 := hP9.q1; have q2 := hP9.q2; have q3 := hP9.q3; have hga := hP9.lt; have HP9 := Lib.hid hP9; clear hP9
        rw [HAC.out] at a3
        go_wp2_with fail
        (with_reducible refine (barrierOf_ref op _ HOP.out).mono ?_)
        rintro e w9 ⟨rfl, rfl⟩
        go_upto_region 12 with fail; (repeat go_step); have X := hW0.trans (Y.mono hW0.size); refine bodyPost_ret (v := .tuple #[.agg #[.slice E ((execM p.store ⟨op, oa, ob, oc⟩ (freeAt p.store.cells))).cells.length f, .slice E' ((execM p.store ⟨op, oa, ob, oc⟩ (freeAt p.store.cells))).roots.length f', .slice S (colsP p ⟨op, oa, ob, oc⟩).length cS, .bool p.active], .bool true]) (by simp [results, Try.results28, go_sem, r0, r1, r2, r3]) rfl ⟨_, by rw [HE.out], ?_, blw_⟩; rw [HE.out, HPD.out]; exact ((((HP9.out.opt.setlt (by simp; omega) _).setlt (by simp; omega) _).setlt (by simp; omega) _).setlt (by simp; omega) _).lo_ (by omega)
    · have HCO : Hid (colsP p ⟨op, oa, ob, oc⟩ = p.colours) := colsP_same hcl.1
      have hli : ¬ (((execM p.store ⟨op, oa, ob, oc⟩ (freeAt p.store.cells))).cells.length : Int) > (p.colours.length : Int) := by have h9 := HXL.out; rw [if_neg hcl.1] at h9; have := HCL.out; omega
      have hop1 : ¬ (op = 1 ∨ op = 2 ∨ op = 4) := hcl.2.1
      have hop3 : op ≠ 3 := hcl.2.2
      have HPD : Hid (paintDo p ⟨op, oa, ob, oc⟩ = ⟨(execM p.store ⟨op, oa, ob, oc⟩ (freeAt p.store.cells)), colsP p ⟨op, oa, ob, oc⟩, p.active⟩) := by rcases bool_ft p.active with h | h; exact paintDo_idle h; unfold Hid; rw [paintDo_act h, barM_none hop1 hop3]; rfl
      clear hcl
      have HOP1 := Lib.hid hop1
      have HOP3 := Lib.hid hop3
      clear hop1 hop3
      go_upto_region 9 with fail
      refine wp_gen (fun W => (∃ S cS, PPx W0.heap.size W wx.heap.size ⟨(execM p.store ⟨op, oa, ob, oc⟩ (freeAt p.store.cells)), colsP p ⟨op, oa, ob, oc⟩, p.active⟩ E f E' f' os5 S cS) ∧ Below W0.heap.size W0 W) ⟨⟨B2, d2, by rw [HCO.out]; exact HPA.out⟩, Y⟩ ?_
      clear a0 a1 a2 a3 b0 b1 b2 b3 r0 r1 r2 r3 rf0 rf1 rf2 rf3 Y sY q0 q1 q2 q3 qf2 hga ng2 hl2 hli HPA; rintro WS ⟨⟨S, cS, hP9⟩, Y⟩; have sY := Y.size; obtain ⟨a0, a1, a2, a3, b0, b1, b2, b3⟩ := HF0.out _ Y; obtain ⟨r0, r1, r2, r3, rf⟩ := HG0.out _ Y; have rf0 := rf 0; have rf1 := rf 1; have rf2 := rf 2; have rf3 := rf 3; clear rf; have q0 := hP9.q0; have q1 := hP9.q1; have q2 := hP9.q2; have q3 := hP9.q3; have hga := hP9.lt; have HP9 := Lib.hid hP9; clear hP9
      go_wp2_with fail
      (with_reducible refine (barrierOf_none op _ HOP1.out HOP3.out).mono ?_)
      rintro e w9 ⟨rfl, rfl⟩
      go_upto_region 12 with fail; (repeat go_step); have X := hW0.trans (Y.mono hW0.size); refine bodyPost_ret (v := .tuple #[.agg #[.slice E ((execM p.store ⟨op, oa, ob, oc⟩ (freeAt p.store.cells))).cells.length f, .slice E' ((execM p.store ⟨op, oa, ob, oc⟩ (freeAt p.store.cells))).roots.length f', .slice S (colsP p ⟨op, oa, ob, oc⟩).length cS, .bool p.active], .bool true]) (by simp [results, Try.results28, go_sem, r0, r1, r2, r3]) rfl ⟨_, by rw [HE.out], ?_, blw_⟩; rw [HE.out, HPD.out]; exact ((((HP9.out.opt.setlt (by simp; omega) _).setlt (by simp; omega) _).setlt (by simp; omega) _).setlt (by simp; omega) _).lo_ (by omega)
end Go.Proofs.Ytopbngfghpgbnaa
