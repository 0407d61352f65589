/- PaintCommand of the reference returns paintCmdM, in new memory. -/
import Derived.Test.YtopbngfghpgbnaaChecked
import Derived.Deep.RegionHeld3
import Derived.Deep.DeepCutAuto
import Derived.Test.YtopbngfghpgbnaaPaintC
import Derived.Test.YtopbngfghpgbnaaPaintVS
import Derived.Test.YtopbngfghpgbnaaCopyP
import Derived.Test.YtopbngfghpgbnaaGrExecS
import Derived.Test.YtopbngfghpgbnaaGrCmd
namespace Go.Proofs.Ytopbngfghpgbnaa
open Go.RowKit
set_option maxRecDepth 100000
set_option linter.unusedSimpArgs false
set_option linter.unusedVariables false
set_option maxHeartbeats 8000000 in
theorem specPaintCommand_any (v : Value) (p : PaintM) (o : CmdM) (w : World) (hv : RPt w v p) :
    Calls Try.prog 29 #[v, .agg #[.int .i64 o.op, .int .i64 o.a, .int .i64 o.b, .int .i64 o.c]] w fun e w' => ∃ v', e = .returned (.tuple #[v', .bool (paintCmdM p o).2]) ∧ OPt w.heap.size w' v' (paintCmdM p o).1 ∧ Below w.heap.size w w' := by
  have hv00 := hv
  obtain ⟨A, c, A', c', A2, c2, rfl, hh, -, -⟩ := hv
  obtain ⟨op, oa, ob, oc⟩ := o
  dsimp only
  have HF0 : Hid (∀ W, Below ((((w.alloc (.cells #[.slice A p.store.cells.length c, .slice A' p.store.roots.length c', .slice A2 p.colours.length c2, .bool p.active] 28)).alloc (.cells #[.int .i64 op, .int .i64 oa, .int .i64 ob, .int .i64 oc] 41)).alloc (.cells #[.slice none 0 0, .slice none 0 0, .slice none 0 0, .bool false] 28))).heap.size ((((w.alloc (.cells #[.slice A p.store.cells.length c, .slice A' p.store.roots.length c', .slice A2 p.colours.length c2, .bool p.active] 28)).alloc (.cells #[.int .i64 op, .int .i64 oa, .int .i64 ob, .int .i64 oc] 41)).alloc (.cells #[.slice none 0 0, .slice none 0 0, .slice none 0 0, .bool false] 28))) W → (W.cell? ⟨w.heap.size, 0, none⟩ = some (.slice A p.store.cells.length c) ∧ W.cell? ⟨w.heap.size, 1, none⟩ = some (.slice A' p.store.roots.length c') ∧ W.cell? ⟨w.heap.size, 2, none⟩ = some (.slice A2 p.colours.length c2) ∧ W.cell? ⟨w.heap.size, 3, none⟩ = some (.bool p.active) ∧ W.cell? ⟨w.heap.size + 1, 0, none⟩ = some (.int .i64 op) ∧ W.cell? ⟨w.heap.size + 1, 1, none⟩ = some (.int .i64 oa) ∧ W.cell? ⟨w.heap.size + 1, 2, none⟩ = some (.int .i64 ob) ∧ W.cell? ⟨w.heap.size + 1, 3, none⟩ = some (.int .i64 oc))) := fun W hW => ⟨cell_below (by simp [go_sem]) hW, cell_below (by simp [go_sem]) hW, cell_below (by simp [go_sem]) hW, cell_below (by simp [go_sem]) hW, cell_below (by simp [go_sem]) hW, cell_below (by simp [go_sem]) hW, cell_below (by simp [go_sem]) hW, cell_below (by simp [go_sem]) hW⟩
  have HG0 : Hid (∀ W, Below ((((w.alloc (.cells #[.slice A p.store.cells.length c, .slice A' p.store.roots.length c', .slice A2 p.colours.length c2, .bool p.active] 28)).alloc (.cells #[.int .i64 op, .int .i64 oa, .int .i64 ob, .int .i64 oc] 41)).alloc (.cells #[.slice none 0 0, .slice none 0 0, .slice none 0 0, .bool false] 28))).heap.size ((((w.alloc (.cells #[.slice A p.store.cells.length c, .slice A' p.store.roots.length c', .slice A2 p.colours.length c2, .bool p.active] 28)).alloc (.cells #[.int .i64 op, .int .i64 oa, .int .i64 ob, .int .i64 oc] 41)).alloc (.cells #[.slice none 0 0, .slice none 0 0, .slice none 0 0, .bool false] 28))) W → (W.cell? ⟨w.heap.size + 2, 0, none⟩ = some (.slice none 0 0) ∧ W.cell? ⟨w.heap.size + 2, 1, none⟩ = some (.slice none 0 0) ∧ W.cell? ⟨w.heap.size + 2, 2, none⟩ = some (.slice none 0 0) ∧ W.cell? ⟨w.heap.size + 2, 3, none⟩ = some (.bool false) ∧ ∀ o, W.frozen? ⟨w.heap.size + 2, o, none⟩ = false)) := fun W hW => ⟨cell_below (by simp [go_sem]) hW, cell_below (by simp [go_sem]) hW, cell_below (by simp [go_sem]) hW, cell_below (by simp [go_sem]) hW, fun o => ((bcell hW).2.1 _ _ (by simp)).trans (by simp [go_sem])⟩
  have hz0 : ((((w.alloc (.cells #[.slice A p.store.cells.length c, .slice A' p.store.roots.length c', .slice A2 p.colours.length c2, .bool p.active] 28)).alloc (.cells #[.int .i64 op, .int .i64 oa, .int .i64 ob, .int .i64 oc] 41)).alloc (.cells #[.slice none 0 0, .slice none 0 0, .slice none 0 0, .bool false] 28))).heap.size = w.heap.size + 3 := by simp
  have hW0 : Below w.heap.size w ((((w.alloc (.cells #[.slice A p.store.cells.length c, .slice A' p.store.roots.length c', .slice A2 p.colours.length c2, .bool p.active] 28)).alloc (.cells #[.int .i64 op, .int .i64 oa, .int .i64 ob, .int .i64 oc] 41)).alloc (.cells #[.slice none 0 0, .slice none 0 0, .slice none 0 0, .bool false] 28))) := blw_
  have hv0 := hv00.below hW0
  have hh0 := hh.below hW0
  clear hv00 hh
  cases hva : paintM p
  · have HV := Lib.hid hva
    have HE := Lib.hid (paint_bad (p := p) (o := ⟨op, oa, ob, oc⟩) (by rw [hva]; rfl))
    clear hva
    go_enter Try.func29, Try.ntmps29; go_wp2_with fail; generalize ((((w.alloc (.cells #[.slice A p.store.cells.length c, .slice A' p.store.roots.length c', .slice A2 p.colours.length c2, .bool p.active] 28)).alloc (.cells #[.int .i64 op, .int .i64 oa, .int .i64 ob, .int .i64 oc] 41)).alloc (.cells #[.slice none 0 0, .slice none 0 0, .slice none 0 0, .bool false] 28))) = W0 at *; have Y := Below.refl W0.heap.size W0; have sY := Y.size; obtain ⟨a0, a1, a2, a3, b0, b1, b2, b3⟩ := HF0.out _ Y; obtain ⟨r0, r1, r2, r3, rf⟩ := HG0.out _ Y; have rf0 := rf 0; have rf1 := rf 1; have rf2 := rf 2; have rf3 := rf 3; clear rf
    ((with_reducible refine (specPaintValid_any _ p _ (hv0.below blw_)).mono ?_); rw [HV.out]; rintro e w2 ⟨rfl, hB⟩; (have z_hB := Below.size hB); (try simp only [World.size_alloc, World.size_setCell, World.size_drew, World.heap_drewN] at z_hB); have Y2 : Below W0.heap.size W0 w2 := blw_; clear hB; clear Y a0 a1 a2 a3 b0 b1 b2 b3 r0 r1 r2 r3 rf0 rf1 rf2 rf3; have Y := Y2; clear Y2; have sY := Y.size; obtain ⟨a0, a1, a2, a3, b0, b1, b2, b3⟩ := HF0.out _ Y; obtain ⟨r0, r1, r2, r3, rf⟩ := HG0.out _ Y; have rf0 := rf 0; have rf1 := rf 1; have rf2 := rf 2; have rf3 := rf 3; clear rf)
    go_wp2_with fail
    have X := hW0.trans (Y.mono hW0.size); refine bodyPost_ret (v := .tuple #[.agg #[.slice none 0 0, .slice none 0 0, .slice none 0 0, .bool false], .bool false]) (by simp [results, Try.results29, go_sem, r0, r1, r2, r3]) rfl ⟨_, by rw [HE.out], ?_, blw_⟩; rw [HE.out]; exact OPt.zero
  have HV := Lib.hid hva
  obtain ⟨hvs, hcl⟩ := paintM_parts hva
  have HVS := Lib.hid hvs
  obtain ⟨v1, v2, v3⟩ := valid_small hvs
  have v2' : p.store.roots.length ≤ 4 := by omega
  have HV2 := Lib.hid v2
  have HV3 := Lib.hid v3
  have c40 : p.colours.length ≤ 40 := by omega
  have HCL := Lib.hid hcl
  clear v2 v3 hcl
  cases hok : cmdOk ⟨op, oa, ob, oc⟩
  · have HO := Lib.hid hok
    have HE := Lib.hid (paint_bad (p := p) (o := ⟨op, oa, ob, oc⟩) (by rw [hva, hok]; rfl))
    clear hva hok hvs
    go_enter Try.func29, Try.ntmps29; go_wp2_with fail; generalize ((((w.alloc (.cells #[.slice A p.store.cells.length c, .slice A' p.store.roots.length c', .slice A2 p.colours.length c2, .bool p.active] 28)).alloc (.cells #[.int .i64 op, .int .i64 oa, .int .i64 ob, .int .i64 oc] 41)).alloc (.cells #[.slice none 0 0, .slice none 0 0, .slice none 0 0, .bool false] 28))) = W0 at *; have Y := Below.refl W0.heap.size W0; have sY := Y.size; obtain ⟨a0, a1, a2, a3, b0, b1, b2, b3⟩ := HF0.out _ Y; obtain ⟨r0, r1, r2, r3, rf⟩ := HG0.out _ Y; have rf0 := rf 0; have rf1 := rf 1; have rf2 := rf 2; have rf3 := rf 3; clear rf
    ((with_reducible refine (specPaintValid_any _ p _ (hv0.below blw_)).mono ?_); rw [HV.out]; rintro e w2 ⟨rfl, hB⟩; (have z_hB := Below.size hB); (try simp only [World.size_alloc, World.size_setCell, World.size_drew, World.heap_drewN] at z_hB); have Y2 : Below W0.heap.size W0 w2 := blw_; clear hB; clear Y a0 a1 a2 a3 b0 b1 b2 b3 r0 r1 r2 r3 rf0 rf1 rf2 rf3; have Y := Y2; clear Y2; have sY := Y.size; obtain ⟨a0, a1, a2, a3, b0, b1, b2, b3⟩ := HF0.out _ Y; obtain ⟨r0, r1, r2, r3, rf⟩ := HG0.out _ Y; have rf0 := rf 0; have rf1 := rf 1; have rf2 := rf 2; have rf3 := rf 3; clear rf)
    go_wp2_with fail
    ((with_reducible refine (specCommandValid_any ⟨op, oa, ob, oc⟩ _).mono ?_); rw [HO.out]; rintro e w2 ⟨rfl, hB⟩; (have z_hB := Below.size hB); (try simp only [World.size_alloc, World.size_setCell, World.size_drew, World.heap_drewN] at z_hB); have Y2 : Below W0.heap.size W0 w2 := blw_; clear hB; clear Y a0 a1 a2 a3 b0 b1 b2 b3 r0 r1 r2 r3 rf0 rf1 rf2 rf3; have Y := Y2; clear Y2; have sY := Y.size; obtain ⟨a0, a1, a2, a3, b0, b1, b2, b3⟩ := HF0.out _ Y; obtain ⟨r0, r1, r2, r3, rf⟩ := HG0.out _ Y; have rf0 := rf 0; have rf1 := rf 1; have rf2 := rf 2; have rf3 := rf 3; clear rf)
    go_wp2_with fail
    have X := hW0.trans (Y.mono hW0.size); refine bodyPost_ret (v := .tuple #[.agg #[.slice none 0 0, .slice none 0 0, .slice none 0 0, .bool false], .bool false]) (by simp [results, Try.results29, go_sem, r0, r1, r2, r3]) rfl ⟨_, by rw [HE.out], ?_, blw_⟩; rw [HE.out]; exact OPt.zero
  have HO := Lib.hid hok
  obtain ⟨-, -, c0, c3, d0, d3, -, -⟩ := cmdOk_parts hok
  dsimp only at c0 c3 d0 d3
  have HPC : Hid (possM p.store ⟨op, oa, ob, oc⟩ = possO p.store ⟨op, oa, ob, oc⟩) := by
    unfold Hid
    rcases bool_ft (possO p.store ⟨op, oa, ob, oc⟩) with h | h
    · rw [h]; exact possO_hid h hvs hok
    · rw [h]; exact possO_hid h hvs hok
  have HCF1 := Lib.hid (fun h => paint_no (p := p) (o := ⟨op, oa, ob, oc⟩) hva hok h)
  have HCF2 := Lib.hid (fun h => paint_yes (p := p) (o := ⟨op, oa, ob, oc⟩) hva hok h)
  have HVX := Lib.hid (fun h => valid_exec hvs hok (canF_poss h) (freeAt_le _) (canF_lt (o := ⟨op, oa, ob, oc⟩) hvs h))
  clear hva hok hvs
  go_enter Try.func29, Try.ntmps29; go_wp2_with fail; generalize ((((w.alloc (.cells #[.slice A p.store.cells.length c, .slice A' p.store.roots.length c', .slice A2 p.colours.length c2, .bool p.active] 28)).alloc (.cells #[.int .i64 op, .int .i64 oa, .int .i64 ob, .int .i64 oc] 41)).alloc (.cells #[.slice none 0 0, .slice none 0 0, .slice none 0 0, .bool false] 28))) = W0 at *; have Y := Below.refl W0.heap.size W0; have sY := Y.size; obtain ⟨a0, a1, a2, a3, b0, b1, b2, b3⟩ := HF0.out _ Y; obtain ⟨r0, r1, r2, r3, rf⟩ := HG0.out _ Y; have rf0 := rf 0; have rf1 := rf 1; have rf2 := rf 2; have rf3 := rf 3; clear rf
  ((with_reducible refine (specPaintValid_any _ p _ (hv0.below blw_)).mono ?_); rw [HV.out]; rintro e w2 ⟨rfl, hB⟩; (have z_hB := Below.size hB); (try simp only [World.size_alloc, World.size_setCell, World.size_drew, World.heap_drewN] at z_hB); have Y2 : Below W0.heap.size W0 w2 := blw_; clear hB; clear Y a0 a1 a2 a3 b0 b1 b2 b3 r0 r1 r2 r3 rf0 rf1 rf2 rf3; have Y := Y2; clear Y2; have sY := Y.size; obtain ⟨a0, a1, a2, a3, b0, b1, b2, b3⟩ := HF0.out _ Y; obtain ⟨r0, r1, r2, r3, rf⟩ := HG0.out _ Y; have rf0 := rf 0; have rf1 := rf 1; have rf2 := rf 2; have rf3 := rf 3; clear rf)
  go_wp2_with fail
  ((with_reducible refine (specCommandValid_any ⟨op, oa, ob, oc⟩ _).mono ?_); rw [HO.out]; rintro e w2 ⟨rfl, hB⟩; (have z_hB := Below.size hB); (try simp only [World.size_alloc, World.size_setCell, World.size_drew, World.heap_drewN] at z_hB); have Y2 : Below W0.heap.size W0 w2 := blw_; clear hB; clear Y a0 a1 a2 a3 b0 b1 b2 b3 r0 r1 r2 r3 rf0 rf1 rf2 rf3; have Y := Y2; clear Y2; have sY := Y.size; obtain ⟨a0, a1, a2, a3, b0, b1, b2, b3⟩ := HF0.out _ Y; obtain ⟨r0, r1, r2, r3, rf⟩ := HG0.out _ Y; have rf0 := rf 0; have rf1 := rf 1; have rf2 := rf 2; have rf3 := rf 3; clear rf)
  go_wp2_with fail
  ((with_reducible refine (l18Copy_any _ p _ (hv0.below blw_) (by omega) (fun d hd => Nat.le_trans (HV3.out d hd) (by omega)) (by omega) (by omega)).mono ?_); rintro e w2 ⟨v4, rfl, ⟨B, d, B', d', os, B2, d2, rfl, o4⟩, hB⟩; (have z_hB := Below.size hB); (try simp only [World.size_alloc, World.size_setCell, World.size_drew, World.heap_drewN] at z_hB); have Y2 : Below W0.heap.size W0 w2 := blw_; clear hB; clear Y a0 a1 a2 a3 b0 b1 b2 b3 r0 r1 r2 r3 rf0 rf1 rf2 rf3; have Y := Y2; clear Y2; have sY := Y.size; obtain ⟨a0, a1, a2, a3, b0, b1, b2, b3⟩ := HF0.out _ Y; obtain ⟨r0, r1, r2, r3, rf⟩ := HG0.out _ Y; have rf0 := rf 0; have rf1 := rf 1; have rf2 := rf 2; have rf3 := rf 3; clear rf)
  obtain ⟨wx, rfl⟩ : ∃ wx, wx = w2 := ⟨_, rfl⟩
  have hx0 : w.heap.size < wx.heap.size := by omega
  have hx1 : w.heap.size + 1 < wx.heap.size := by omega
  have hlo4 : ∀ b ∈ hblks B os B' ++ blk B2, W0.heap.size ≤ b := fun b hb => by have h7 := o4.2.2.2.2.1 b hb; (try simp only [World.size_alloc, World.size_setCell, World.size_drew, World.heap_drewN] at h7); omega
  have HPX := Lib.hid (PPx.mk_ (p := p) o4.1 o4.2.1 o4.2.2.1 o4.2.2.2.1 hlo4 (by omega) sY 28)
  clear o4 hlo4
  go_wp2_with fail
  ((with_reducible refine (l10Place_any _ p.store _ ((hh0.below blw_).rh _ _) (by omega)).mono ?_); rintro e w2 ⟨rfl, hB⟩; have HP1 := Lib.hid (HPX.out.below hB); (have z_hB := Below.size hB); (try simp only [World.size_alloc, World.size_setCell, World.size_drew, World.heap_drewN] at z_hB); have Y2 : Below W0.heap.size W0 w2 := blw_; clear hB; clear Y a0 a1 a2 a3 b0 b1 b2 b3 r0 r1 r2 r3 rf0 rf1 rf2 rf3; have Y := Y2; clear Y2; have sY := Y.size; obtain ⟨a0, a1, a2, a3, b0, b1, b2, b3⟩ := HF0.out _ Y; obtain ⟨r0, r1, r2, r3, rf⟩ := HG0.out _ Y; have rf0 := rf 0; have rf1 := rf 1; have rf2 := rf 2; have rf3 := rf 3; clear rf)
  obtain ⟨wz, rfl⟩ : ∃ wz, wz = w2 := ⟨_, rfl⟩
  go_wp2_with fail
  ((with_reducible refine (specCommandPossible_any _ p.store ⟨op, oa, ob, oc⟩ _ ((hh0.below blw_).rh _ _)).mono ?_); rw [HPC.out]; rintro e w2 ⟨rfl, hB⟩; have HP2 := Lib.hid (HP1.out.below hB); (have z_hB := Below.size hB); (try simp only [World.size_alloc, World.size_setCell, World.size_drew, World.heap_drewN] at z_hB); have Y2 : Below W0.heap.size W0 w2 := blw_; clear hB; clear Y a0 a1 a2 a3 b0 b1 b2 b3 r0 r1 r2 r3 rf0 rf1 rf2 rf3; have Y := Y2; clear Y2; have sY := Y.size; obtain ⟨a0, a1, a2, a3, b0, b1, b2, b3⟩ := HF0.out _ Y; obtain ⟨r0, r1, r2, r3, rf⟩ := HG0.out _ Y; have rf0 := rf 0; have rf1 := rf 1; have rf2 := rf 2; have rf3 := rf 3; clear rf)
  have q0 := HP2.out.q0
  have q1 := HP2.out.q1
  have q2 := HP2.out.q2
  have q3 := HP2.out.q3
  rcases bool_ft (possO p.store ⟨op, oa, ob, oc⟩) with hps | hps
  · have HE : Hid (paintCmdM p ⟨op, oa, ob, oc⟩ = (p, false)) := HCF1.out (by unfold canF; rw [hps]; rfl)
    rw [hps]
    clear hps
    go_wp2_with fail
    have X := hW0.trans (Y.mono hW0.size); refine bodyPost_ret (v := .tuple #[.agg #[.slice B p.store.cells.length d, .slice B' p.store.roots.length d', .slice B2 p.colours.length d2, .bool p.active], .bool false]) (by simp [results, Try.results29, go_sem, r0, r1, r2, r3]) rfl ⟨_, by rw [HE.out], ?_, blw_⟩; rw [HE.out]; exact ((((HP2.out.opt.setlt (by simp; omega) _).setlt (by simp; omega) _).setlt (by simp; omega) _).setlt (by simp; omega) _).lo_ (by omega)
  have HPO := Lib.hid hps
  rw [hps]
  by_cases hfull : op = 1 ∧ freeAt p.store.cells = 40
  · have HE : Hid (paintCmdM p ⟨op, oa, ob, oc⟩ = (p, false)) := HCF1.out (canF_full hfull.1 hfull.2)
    have hop := hfull.1
    have hfI : (freeAt p.store.cells : Int) = 40 := by omega
    clear hps hfull
    go_wp2_with fail
    have X := hW0.trans (Y.mono hW0.size); refine bodyPost_ret (v := .tuple #[.agg #[.slice B p.store.cells.length d, .slice B' p.store.roots.length d', .slice B2 p.colours.length d2, .bool p.active], .bool false]) (by simp [results, Try.results29, go_sem, r0, r1, r2, r3]) rfl ⟨_, by rw [HE.out], ?_, blw_⟩; rw [HE.out]; exact ((((HP2.out.opt.setlt (by simp; omega) _).setlt (by simp; omega) _).setlt (by simp; omega) _).setlt (by simp; omega) _).lo_ (by omega)
  have hgx : W0.heap.size ≤ wx.heap.size := HP2.out.lo_
  have hgl := HP2.out.lt
  have hnx0 : wx.heap.size ≠ w.heap.size := by omega
  have hnx1 : w.heap.size ≠ wx.heap.size := by omega
  have hnx2 : wx.heap.size ≠ w.heap.size + 1 := by omega
  have hnx3 : w.heap.size + 1 ≠ wx.heap.size := by omega
  have hnx4 : wx.heap.size ≠ w.heap.size + 2 := by omega
  have hnx5 : w.heap.size + 2 ≠ wx.heap.size := by omega
  obtain ⟨wy, rfl⟩ : ∃ wy, wy = w2 := ⟨_, rfl⟩
  rcases Classical.em (op = 1) with hop | hop
  · subst hop
    have hcf : canF p.store ⟨1, oa, ob, oc⟩ = true := canF_room hps (fun h2 => hfull ⟨rfl, h2⟩)
    have HE := Lib.hid (HCF2.out hcf)
    have HVX := Lib.hid (HVX.out hcf)
    have hfI : ¬ (freeAt p.store.cells : Int) = 40 := fun h9 => hfull ⟨rfl, by omega⟩
    have HXR := Lib.hid (exec_rootsLen p.store ⟨1, oa, ob, oc⟩ (freeAt p.store.cells))
    clear hcf hps hfull
    go_wp2_with fail; (with_reducible refine (do_any _ p.store ⟨1, oa, ob, oc⟩ (freeAt p.store.cells) _ ((hh0.below blw_).rh _ _) HVS.out HO.out HPO.out (freeAt_le _)).mono ?_); rintro e w2 ⟨v4, rfl, ⟨E, f, E', f', os5, rfl, o5⟩, hB4⟩; (have z_hB4 := Below.size hB4); (try simp only [World.size_alloc, World.size_setCell, World.size_drew, World.heap_drewN] at z_hB4); have Z2 : Below wy.heap.size wy w2 := blw_; clear hB4; have t0 := cell_below HP2.out.q0 Z2; have t1 := cell_below HP2.out.q1 Z2; have tf0 := ((bcell Z2).2.1 _ _ hgl).trans (HP2.out.qf 0); have tf1 := ((bcell Z2).2.1 _ _ hgl).trans (HP2.out.qf 1); have hlo5 : ∀ b ∈ hblks E os5 E', wy.heap.size ≤ b := (fun b hb => by have h7 := o5.2.2 b hb; (try simp only [World.size_alloc, World.size_setCell, World.size_drew, World.heap_drewN] at h7); omega); have HPA := Lib.hid (HP2.out.heap_ (h' := (execM p.store ⟨1, oa, ob, oc⟩ (freeAt p.store.cells))) Z2 o5.1 o5.2.1 hlo5); have HBA := Lib.hid (((Y.trans (Z2.mono sY)).setCell (p := ⟨wx.heap.size, 0, none⟩) hgx (.slice E ((execM p.store ⟨1, oa, ob, oc⟩ (freeAt p.store.cells))).cells.length f)).setCell (p := ⟨wx.heap.size, 1, none⟩) hgx (.slice E' ((execM p.store ⟨1, oa, ob, oc⟩ (freeAt p.store.cells))).roots.length f')); go_upto_region 8 with fail; refine wp_gen (fun W => PPx W0.heap.size W wx.heap.size ⟨(execM p.store ⟨1, oa, ob, oc⟩ (freeAt p.store.cells)), p.colours, p.active⟩ E f E' f' os5 B2 d2 ∧ Below W0.heap.size W0 W) ⟨HPA.out, HBA.out⟩ ?_; clear a0 a1 a2 a3 b0 b1 b2 b3 r0 r1 r2 r3 rf0 rf1 rf2 rf3 Y sY HP2 HPX HP1 HPA HBA q0 q1 q2 q3 t0 t1 tf0 tf1 Z2 o5 hlo5; rintro wa ⟨hPA, Y⟩; have sY := Y.size; obtain ⟨a0, a1, a2, a3, b0, b1, b2, b3⟩ := HF0.out _ Y; obtain ⟨r0, r1, r2, r3, rf⟩ := HG0.out _ Y; have rf0 := rf 0; have rf1 := rf 1; have rf2 := rf 2; have rf3 := rf 3; clear rf; have q0 := hPA.q0; have q1 := hPA.q1; have q2 := hPA.q2; have q3 := hPA.q3; have qf2 := hPA.qf 2; have hga := hPA.lt; have ng2 := hPA.g2; have hl2 := hPA.l2; have HPA := Lib.hid hPA; clear hPA
    rcases Classical.em (freeAt p.store.cells = p.store.cells.length) with hfr | hfr
    · rcases (bool_ft p.active).symm with hac | hac
      · have HCO : Hid (colsP p ⟨1, oa, ob, oc⟩ = p.colours ++ [0]) := colsP_grow rfl hfr
        have HPD : Hid (paintDo p ⟨1, oa, ob, oc⟩ = ⟨(execM p.store ⟨1, oa, ob, oc⟩ (freeAt p.store.cells)), grey1 (colsP p ⟨1, oa, ob, oc⟩) (rootAt (execM p.store ⟨1, oa, ob, oc⟩ (freeAt p.store.cells)) oa), p.active⟩) := by unfold Hid; rw [paintDo_act hac, barM_root (by simp)]; rfl
        have HAC := Lib.hid hac
        clear hac
        have hfl : (freeAt p.store.cells : Int) = (p.colours.length : Int) := by have := HCL.out; omega
        clear hfr
        go_upto_region 10 with (at_builtin; (refine wpList_appi rfl (.tmp 54) (.tmp 55) rfl p.colours rfl rfl (HPA.out.cs.below blw_) (RF.only_one (x := 0) (by simp [go_sem, fi])) (by simp; omega) ?_); intro S2 cS2 w3 hO3 hOn3 hg3; have HP3 := Lib.hid ((HPA.out.below blw_).pushC hO3 hOn3 hg3 (by show p.colours.length ≤ _; omega) (n := p.colours.length + 1) rfl); have g2 := hOn3.cell (cell_below q2 blw_) ng2; have gf2 : w3.frozen? ⟨wx.heap.size, 2, none⟩ = false := ((hOn3.frozenAt wx.heap.size 2 (by simp; omega) ng2).trans (by simp [go_sem, qf2, hga])); have HB3 : Hid (Below W0.heap.size W0 w3) := Y.trans (Below.trans blw_ (hOn3.below (by simp; omega) hl2)); clear hO3 hOn3 hg3)
        refine wp_gen (fun W => (∃ S cS, PPx W0.heap.size W wx.heap.size ⟨(execM p.store ⟨1, oa, ob, oc⟩ (freeAt p.store.cells)), colsP p ⟨1, oa, ob, oc⟩, p.active⟩ E f E' f' os5 S cS) ∧ Below W0.heap.size W0 W) ⟨⟨S2, cS2, by rw [HCO.out]; exact HP3.out⟩, HB3.out.setCell hgx _⟩ ?_
        clear a0 a1 a2 a3 b0 b1 b2 b3 r0 r1 r2 r3 rf0 rf1 rf2 rf3 Y sY q0 q1 q2 q3 qf2 hga ng2 hl2 HPA; rintro WS ⟨⟨S, cS, hP9⟩, Y⟩; have sY := Y.size; obtain ⟨a0, a1, a2, a3, b0, b1, b2, b3⟩ := HF0.out _ Y; obtain ⟨r0, r1, r2, r3, rf⟩ := HG0.out _ Y; have rf0 := rf 0; have rf1 := rf 1; have rf2 := rf 2; have rf3 := rf 3; clear rf; have q0 := hP9.q0; have q1 := hP9.q1; have q2 := hP9.q2; have q3 := hP9.q3; have hga := hP9.lt; have HP9 := Lib.hid hP9; clear hP9
        rw [HAC.out] at a3
        have hi4 : oa.toNat < ((execM p.store ⟨1, oa, ob, oc⟩ (freeAt p.store.cells))).roots.length := by rw [HXR.out]; have := HV2.out; omega
        obtain ⟨k6, o6, x6, hk6, g6, m6, hb6⟩ := (HP9.out.own.rhs HP9.out.map).roots.at_ hi4
        rw [rootAt_get hi4] at g6
        injection g6 with g6
        subst g6
        have n6 : WS.cell? ⟨k6, o6 + oa.toNat, none⟩ = some (.int .i64 (rootAt (execM p.store ⟨1, oa, ob, oc⟩ (freeAt p.store.cells)) oa)) := m6
        have hi5 : oa < (((execM p.store ⟨1, oa, ob, oc⟩ (freeAt p.store.cells))).roots.length : Int) := by omega
        have hlt6 : rootAt (execM p.store ⟨1, oa, ob, oc⟩ (freeAt p.store.cells)) oa < ((colsP p ⟨1, oa, ob, oc⟩).length : Int) := by rw [colsP_len HCL.out]; exact leadsM_lt (rootAt_leads HVX.out _)
        subst hk6
        clear m6 hi4
        go_upto_region 15 with fail
        go_still_tail 8, (by kernel_rfl)
        change wpList _ _ _ _ _ WS.drew
        go_wp2_with fail
        (with_reducible refine (l18Grey_any E _ S _ _ f f' cS p.active (colsP p ⟨1, oa, ob, oc⟩) (rootAt (execM p.store ⟨1, oa, ob, oc⟩ (freeAt p.store.cells)) oa) _ HP9.out.cs.drew hlt6 HP9.out.cl).mono ?_)
        rintro e w7 ⟨rfl, hO7, hOn7⟩
        have hP7 := (HP9.out.below (Below.drew (Below.refl _ _))).paint hO7 (grey1_len _ _) hOn7
        have Y7 : Below W0.heap.size W0 w7 := Below.trans (Below.drew Y) (hOn7.below (by simp; omega) HP9.out.l2)
        have HP7 := Lib.hid hP7
        clear hO7 hOn7 hP7 Y q0 q1 q2 q3 hga a0 a1 a2 a3 b0 b1 b2 b3 r0 r1 r2 r3 rf0 rf1 rf2 rf3 sY n6
        have Y := Y7
        clear Y7
        have sY := Y.size
        obtain ⟨r0, r1, r2, r3, rf⟩ := HG0.out _ Y; have rf0 := rf 0; have rf1 := rf 1; have rf2 := rf 2; have rf3 := rf 3; clear rf
        have q0 := HP7.out.q0
        have q1 := HP7.out.q1
        have q2 := HP7.out.q2
        have q3 := HP7.out.q3
        go_upto_region 18 with fail; (repeat go_step); have X := hW0.trans (Y.mono hW0.size); refine bodyPost_ret (v := .tuple #[.agg #[.slice E ((execM p.store ⟨1, oa, ob, oc⟩ (freeAt p.store.cells))).cells.length f, .slice (some ⟨k6, o6, none⟩) ((execM p.store ⟨1, oa, ob, oc⟩ (freeAt p.store.cells))).roots.length f', .slice S (grey1 (colsP p ⟨1, oa, ob, oc⟩) (rootAt (execM p.store ⟨1, oa, ob, oc⟩ (freeAt p.store.cells)) oa)).length cS, .bool p.active], .bool true]) (by simp [results, Try.results29, go_sem, r0, r1, r2, r3]) rfl ⟨_, by rw [HE.out], ?_, blw_⟩; rw [HE.out, HPD.out]; exact ((((HP7.out.opt.setlt (by simp; omega) _).setlt (by simp; omega) _).setlt (by simp; omega) _).setlt (by simp; omega) _).lo_ (by omega)
      · have HCO : Hid (colsP p ⟨1, oa, ob, oc⟩ = p.colours ++ [0]) := colsP_grow rfl hfr
        have HPD : Hid (paintDo p ⟨1, oa, ob, oc⟩ = ⟨(execM p.store ⟨1, oa, ob, oc⟩ (freeAt p.store.cells)), colsP p ⟨1, oa, ob, oc⟩, p.active⟩) := paintDo_idle hac
        have HAC := Lib.hid hac
        clear hac
        have hfl : (freeAt p.store.cells : Int) = (p.colours.length : Int) := by have := HCL.out; omega
        clear hfr
        go_upto_region 10 with (at_builtin; (refine wpList_appi rfl (.tmp 54) (.tmp 55) rfl p.colours rfl rfl (HPA.out.cs.below blw_) (RF.only_one (x := 0) (by simp [go_sem, fi])) (by simp; omega) ?_); intro S2 cS2 w3 hO3 hOn3 hg3; have HP3 := Lib.hid ((HPA.out.below blw_).pushC hO3 hOn3 hg3 (by show p.colours.length ≤ _; omega) (n := p.colours.length + 1) rfl); have g2 := hOn3.cell (cell_below q2 blw_) ng2; have gf2 : w3.frozen? ⟨wx.heap.size, 2, none⟩ = false := ((hOn3.frozenAt wx.heap.size 2 (by simp; omega) ng2).trans (by simp [go_sem, qf2, hga])); have HB3 : Hid (Below W0.heap.size W0 w3) := Y.trans (Below.trans blw_ (hOn3.below (by simp; omega) hl2)); clear hO3 hOn3 hg3)
        refine wp_gen (fun W => (∃ S cS, PPx W0.heap.size W wx.heap.size ⟨(execM p.store ⟨1, oa, ob, oc⟩ (freeAt p.store.cells)), colsP p ⟨1, oa, ob, oc⟩, p.active⟩ E f E' f' os5 S cS) ∧ Below W0.heap.size W0 W) ⟨⟨S2, cS2, by rw [HCO.out]; exact HP3.out⟩, HB3.out.setCell hgx _⟩ ?_
        clear a0 a1 a2 a3 b0 b1 b2 b3 r0 r1 r2 r3 rf0 rf1 rf2 rf3 Y sY q0 q1 q2 q3 qf2 hga ng2 hl2 HPA; rintro WS ⟨⟨S, cS, hP9⟩, Y⟩; have sY := Y.size; obtain ⟨a0, a1, a2, a3, b0, b1, b2, b3⟩ := HF0.out _ Y; obtain ⟨r0, r1, r2, r3, rf⟩ := HG0.out _ Y; have rf0 := rf 0; have rf1 := rf 1; have rf2 := rf 2; have rf3 := rf 3; clear rf; have q0 := hP9.q0; have q1 := hP9.q1; have q2 := hP9.q2; have q3 := hP9.q3; have hga := hP9.lt; have HP9 := Lib.hid hP9; clear hP9
        rw [HAC.out] at a3
        go_upto_region 18 with fail; (repeat go_step); have X := hW0.trans (Y.mono hW0.size); refine bodyPost_ret (v := .tuple #[.agg #[.slice E ((execM p.store ⟨1, oa, ob, oc⟩ (freeAt p.store.cells))).cells.length f, .slice E' ((execM p.store ⟨1, oa, ob, oc⟩ (freeAt p.store.cells))).roots.length f', .slice S (colsP p ⟨1, oa, ob, oc⟩).length cS, .bool p.active], .bool true]) (by simp [results, Try.results29, go_sem, r0, r1, r2, r3]) rfl ⟨_, by rw [HE.out], ?_, blw_⟩; rw [HE.out, HPD.out]; exact ((((HP9.out.opt.setlt (by simp; omega) _).setlt (by simp; omega) _).setlt (by simp; omega) _).setlt (by simp; omega) _).lo_ (by omega)
    · rcases (bool_ft p.active).symm with hac | hac
      · have HCO : Hid (colsP p ⟨1, oa, ob, oc⟩ = p.colours) := colsP_same (fun h => hfr h.2)
        have HPD : Hid (paintDo p ⟨1, oa, ob, oc⟩ = ⟨(execM p.store ⟨1, oa, ob, oc⟩ (freeAt p.store.cells)), grey1 (colsP p ⟨1, oa, ob, oc⟩) (rootAt (execM p.store ⟨1, oa, ob, oc⟩ (freeAt p.store.cells)) oa), p.active⟩) := by unfold Hid; rw [paintDo_act hac, barM_root (by simp)]; rfl
        have HAC := Lib.hid hac
        clear hac
        have hfl : ¬ (freeAt p.store.cells : Int) = (p.colours.length : Int) := by have := HCL.out; omega
        clear hfr
        go_upto_region 10 with fail
        refine wp_gen (fun W => (∃ S cS, PPx W0.heap.size W wx.heap.size ⟨(execM p.store ⟨1, oa, ob, oc⟩ (freeAt p.store.cells)), colsP p ⟨1, oa, ob, oc⟩, p.active⟩ E f E' f' os5 S cS) ∧ Below W0.heap.size W0 W) ⟨⟨B2, d2, by rw [HCO.out]; exact HPA.out⟩, Y⟩ ?_
        clear a0 a1 a2 a3 b0 b1 b2 b3 r0 r1 r2 r3 rf0 rf1 rf2 rf3 Y sY q0 q1 q2 q3 qf2 hga ng2 hl2 HPA; rintro WS ⟨⟨S, cS, hP9⟩, Y⟩; have sY := Y.size; obtain ⟨a0, a1, a2, a3, b0, b1, b2, b3⟩ := HF0.out _ Y; obtain ⟨r0, r1, r2, r3, rf⟩ := HG0.out _ Y; have rf0 := rf 0; have rf1 := rf 1; have rf2 := rf 2; have rf3 := rf 3; clear rf; have q0 := hP9.q0; have q1 := hP9.q1; have q2 := hP9.q2; have q3 := hP9.q3; have hga := hP9.lt; have HP9 := Lib.hid hP9; clear hP9
        rw [HAC.out] at a3
        have hi4 : oa.toNat < ((execM p.store ⟨1, oa, ob, oc⟩ (freeAt p.store.cells))).roots.length := by rw [HXR.out]; have := HV2.out; omega
        obtain ⟨k6, o6, x6, hk6, g6, m6, hb6⟩ := (HP9.out.own.rhs HP9.out.map).roots.at_ hi4
        rw [rootAt_get hi4] at g6
        injection g6 with g6
        subst g6
        have n6 : WS.cell? ⟨k6, o6 + oa.toNat, none⟩ = some (.int .i64 (rootAt (execM p.store ⟨1, oa, ob, oc⟩ (freeAt p.store.cells)) oa)) := m6
        have hi5 : oa < (((execM p.store ⟨1, oa, ob, oc⟩ (freeAt p.store.cells))).roots.length : Int) := by omega
        have hlt6 : rootAt (execM p.store ⟨1, oa, ob, oc⟩ (freeAt p.store.cells)) oa < ((colsP p ⟨1, oa, ob, oc⟩).length : Int) := by rw [colsP_len HCL.out]; exact leadsM_lt (rootAt_leads HVX.out _)
        subst hk6
        clear m6 hi4
        go_upto_region 15 with fail
        go_still_tail 8, (by kernel_rfl)
        change wpList _ _ _ _ _ WS.drew
        go_wp2_with fail
        (with_reducible refine (l18Grey_any E _ S _ _ f f' cS p.active (colsP p ⟨1, oa, ob, oc⟩) (rootAt (execM p.store ⟨1, oa, ob, oc⟩ (freeAt p.store.cells)) oa) _ HP9.out.cs.drew hlt6 HP9.out.cl).mono ?_)
        rintro e w7 ⟨rfl, hO7, hOn7⟩
        have hP7 := (HP9.out.below (Below.drew (Below.refl _ _))).paint hO7 (grey1_len _ _) hOn7
        have Y7 : Below W0.heap.size W0 w7 := Below.trans (Below.drew Y) (hOn7.below (by simp; omega) HP9.out.l2)
        have HP7 := Lib.hid hP7
        clear hO7 hOn7 hP7 Y q0 q1 q2 q3 hga a0 a1 a2 a3 b0 b1 b2 b3 r0 r1 r2 r3 rf0 rf1 rf2 rf3 sY n6
        have Y := Y7
        clear Y7
        have sY := Y.size
        obtain ⟨r0, r1, r2, r3, rf⟩ := HG0.out _ Y; have rf0 := rf 0; have rf1 := rf 1; have rf2 := rf 2; have rf3 := rf 3; clear rf
        have q0 := HP7.out.q0
        have q1 := HP7.out.q1
        have q2 := HP7.out.q2
        have q3 := HP7.out.q3
        go_upto_region 18 with fail; (repeat go_step); have X := hW0.trans (Y.mono hW0.size); refine bodyPost_ret (v := .tuple #[.agg #[.slice E ((execM p.store ⟨1, oa, ob, oc⟩ (freeAt p.store.cells))).cells.length f, .slice (some ⟨k6, o6, none⟩) ((execM p.store ⟨1, oa, ob, oc⟩ (freeAt p.store.cells))).roots.length f', .slice S (grey1 (colsP p ⟨1, oa, ob, oc⟩) (rootAt (execM p.store ⟨1, oa, ob, oc⟩ (freeAt p.store.cells)) oa)).length cS, .bool p.active], .bool true]) (by simp [results, Try.results29, go_sem, r0, r1, r2, r3]) rfl ⟨_, by rw [HE.out], ?_, blw_⟩; rw [HE.out, HPD.out]; exact ((((HP7.out.opt.setlt (by simp; omega) _).setlt (by simp; omega) _).setlt (by simp; omega) _).setlt (by simp; omega) _).lo_ (by omega)
      · have HCO : Hid (colsP p ⟨1, oa, ob, oc⟩ = p.colours) := colsP_same (fun h => hfr h.2)
        have HPD : Hid (paintDo p ⟨1, oa, ob, oc⟩ = ⟨(execM p.store ⟨1, oa, ob, oc⟩ (freeAt p.store.cells)), colsP p ⟨1, oa, ob, oc⟩, p.active⟩) := paintDo_idle hac
        have HAC := Lib.hid hac
        clear hac
        have hfl : ¬ (freeAt p.store.cells : Int) = (p.colours.length : Int) := by have := HCL.out; omega
        clear hfr
        go_upto_region 10 with fail
        refine wp_gen (fun W => (∃ S cS, PPx W0.heap.size W wx.heap.size ⟨(execM p.store ⟨1, oa, ob, oc⟩ (freeAt p.store.cells)), colsP p ⟨1, oa, ob, oc⟩, p.active⟩ E f E' f' os5 S cS) ∧ Below W0.heap.size W0 W) ⟨⟨B2, d2, by rw [HCO.out]; exact HPA.out⟩, Y⟩ ?_
        clear a0 a1 a2 a3 b0 b1 b2 b3 r0 r1 r2 r3 rf0 rf1 rf2 rf3 Y sY q0 q1 q2 q3 qf2 hga ng2 hl2 HPA; rintro WS ⟨⟨S, cS, hP9⟩, Y⟩; have sY := Y.size; obtain ⟨a0, a1, a2, a3, b0, b1, b2, b3⟩ := HF0.out _ Y; obtain ⟨r0, r1, r2, r3, rf⟩ := HG0.out _ Y; have rf0 := rf 0; have rf1 := rf 1; have rf2 := rf 2; have rf3 := rf 3; clear rf; have q0 := hP9.q0; have q1 := hP9.q1; have q2 := hP9.q2; have q3 := hP9.q3; have hga := hP9.lt; have HP9 := Lib.hid hP9; clear hP9
        rw [HAC.out] at a3
        go_upto_region 18 with fail; (repeat go_step); have X := hW0.trans (Y.mono hW0.size); refine bodyPost_ret (v := .tuple #[.agg #[.slice E ((execM p.store ⟨1, oa, ob, oc⟩ (freeAt p.store.cells))).cells.length f, .slice E' ((execM p.store ⟨1, oa, ob, oc⟩ (freeAt p.store.cells))).roots.length f', .slice S (colsP p ⟨1, oa, ob, oc⟩).length cS, .bool p.active], .bool true]) (by simp [results, Try.results29, go_sem, r0, r1, r2, r3]) rfl ⟨_, by rw [HE.out], ?_, blw_⟩; rw [HE.out, HPD.out]; exact ((((HP9.out.opt.setlt (by simp; omega) _).setlt (by simp; omega) _).setlt (by simp; omega) _).setlt (by simp; omega) _).lo_ (by omega)
  · have hcf : canF p.store ⟨op, oa, ob, oc⟩ = true := canF_old hps hop
    have HE := Lib.hid (HCF2.out hcf)
    have HVX := Lib.hid (HVX.out hcf)
    have HXR := Lib.hid (exec_rootsLen p.store ⟨op, oa, ob, oc⟩ (freeAt p.store.cells))
    clear hcf hps hfull
    go_wp2_with fail; (with_reducible refine (do_any _ p.store ⟨op, oa, ob, oc⟩ (freeAt p.store.cells) _ ((hh0.below blw_).rh _ _) HVS.out HO.out HPO.out (freeAt_le _)).mono ?_); rintro e w2 ⟨v4, rfl, ⟨E, f, E', f', os5, rfl, o5⟩, hB4⟩; (have z_hB4 := Below.size hB4); (try simp only [World.size_alloc, World.size_setCell, World.size_drew, World.heap_drewN] at z_hB4); have Z2 : Below wy.heap.size wy w2 := blw_; clear hB4; have t0 := cell_below HP2.out.q0 Z2; have t1 := cell_below HP2.out.q1 Z2; have tf0 := ((bcell Z2).2.1 _ _ hgl).trans (HP2.out.qf 0); have tf1 := ((bcell Z2).2.1 _ _ hgl).trans (HP2.out.qf 1); have hlo5 : ∀ b ∈ hblks E os5 E', wy.heap.size ≤ b := (fun b hb => by have h7 := o5.2.2 b hb; (try simp only [World.size_alloc, World.size_setCell, World.size_drew, World.heap_drewN] at h7); omega); have HPA := Lib.hid (HP2.out.heap_ (h' := (execM p.store ⟨op, oa, ob, oc⟩ (freeAt p.store.cells))) Z2 o5.1 o5.2.1 hlo5); have HBA := Lib.hid (((Y.trans (Z2.mono sY)).setCell (p := ⟨wx.heap.size, 0, none⟩) hgx (.slice E ((execM p.store ⟨op, oa, ob, oc⟩ (freeAt p.store.cells))).cells.length f)).setCell (p := ⟨wx.heap.size, 1, none⟩) hgx (.slice E' ((execM p.store ⟨op, oa, ob, oc⟩ (freeAt p.store.cells))).roots.length f')); go_upto_region 8 with fail; refine wp_gen (fun W => PPx W0.heap.size W wx.heap.size ⟨(execM p.store ⟨op, oa, ob, oc⟩ (freeAt p.store.cells)), p.colours, p.active⟩ E f E' f' os5 B2 d2 ∧ Below W0.heap.size W0 W) ⟨HPA.out, HBA.out⟩ ?_; clear a0 a1 a2 a3 b0 b1 b2 b3 r0 r1 r2 r3 rf0 rf1 rf2 rf3 Y sY HP2 HPX HP1 HPA HBA q0 q1 q2 q3 t0 t1 tf0 tf1 Z2 o5 hlo5; rintro wa ⟨hPA, Y⟩; have sY := Y.size; obtain ⟨a0, a1, a2, a3, b0, b1, b2, b3⟩ := HF0.out _ Y; obtain ⟨r0, r1, r2, r3, rf⟩ := HG0.out _ Y; have rf0 := rf 0; have rf1 := rf 1; have rf2 := rf 2; have rf3 := rf 3; clear rf; have q0 := hPA.q0; have q1 := hPA.q1; have q2 := hPA.q2; have q3 := hPA.q3; have qf2 := hPA.qf 2; have hga := hPA.lt; have ng2 := hPA.g2; have hl2 := hPA.l2; have HPA := Lib.hid hPA; clear hPA
    have hn1 := hop
    rcases (by omega : op = 2 ∨ op = 3 ∨ op = 4 ∨ (op ≠ 2 ∧ op ≠ 3 ∧ op ≠ 4)) with h2 | h2 | h2 | ⟨hn2, hn3, hn4⟩
    · subst h2
      rcases (bool_ft p.active).symm with hac | hac
      · have HCO : Hid (colsP p ⟨2, oa, ob, oc⟩ = p.colours) := colsP_same (fun h => absurd h.1 hn1)
        have HPD : Hid (paintDo p ⟨2, oa, ob, oc⟩ = ⟨(execM p.store ⟨2, oa, ob, oc⟩ (freeAt p.store.cells)), grey1 (colsP p ⟨2, oa, ob, oc⟩) (rootAt (execM p.store ⟨2, oa, ob, oc⟩ (freeAt p.store.cells)) oa), p.active⟩) := by unfold Hid; rw [paintDo_act hac, barM_root (by simp)]; rfl
        have HAC := Lib.hid hac
        clear hac
        go_upto_region 10 with fail
        refine wp_gen (fun W => (∃ S cS, PPx W0.heap.size W wx.heap.size ⟨(execM p.store ⟨2, oa, ob, oc⟩ (freeAt p.store.cells)), colsP p ⟨2, oa, ob, oc⟩, p.active⟩ E f E' f' os5 S cS) ∧ Below W0.heap.size W0 W) ⟨⟨B2, d2, by rw [HCO.out]; exact HPA.out⟩, Y⟩ ?_
        clear a0 a1 a2 a3 b0 b1 b2 b3 r0 r1 r2 r3 rf0 rf1 rf2 rf3 Y sY q0 q1 q2 q3 qf2 hga ng2 hl2 HPA; rintro WS ⟨⟨S, cS, hP9⟩, Y⟩; have sY := Y.size; obtain ⟨a0, a1, a2, a3, b0, b1, b2, b3⟩ := HF0.out _ Y; obtain ⟨r0, r1, r2, r3, rf⟩ := HG0.out _ Y; have rf0 := rf 0; have rf1 := rf 1; have rf2 := rf 2; have rf3 := rf 3; clear rf; have q0 := hP9.q0; have q1 := hP9.q1; have q2 := hP9.q2; have q3 := hP9.q3; have hga := hP9.lt; have HP9 := Lib.hid hP9; clear hP9
        rw [HAC.out] at a3
        have hi4 : oa.toNat < ((execM p.store ⟨2, oa, ob, oc⟩ (freeAt p.store.cells))).roots.length := by rw [HXR.out]; have := HV2.out; omega
        obtain ⟨k6, o6, x6, hk6, g6, m6, hb6⟩ := (HP9.out.own.rhs HP9.out.map).roots.at_ hi4
        rw [rootAt_get hi4] at g6
        injection g6 with g6
        subst g6
        have n6 : WS.cell? ⟨k6, o6 + oa.toNat, none⟩ = some (.int .i64 (rootAt (execM p.store ⟨2, oa, ob, oc⟩ (freeAt p.store.cells)) oa)) := m6
        have hi5 : oa < (((execM p.store ⟨2, oa, ob, oc⟩ (freeAt p.store.cells))).roots.length : Int) := by omega
        have hlt6 : rootAt (execM p.store ⟨2, oa, ob, oc⟩ (freeAt p.store.cells)) oa < ((colsP p ⟨2, oa, ob, oc⟩).length : Int) := by rw [colsP_len HCL.out]; exact leadsM_lt (rootAt_leads HVX.out _)
        subst hk6
        clear m6 hi4
        go_upto_region 15 with fail
        go_still_tail 8, (by kernel_rfl)
        change wpList _ _ _ _ _ WS.drew
        go_wp2_with fail
        (with_reducible refine (l18Grey_any E _ S _ _ f f' cS p.active (colsP p ⟨2, oa, ob, oc⟩) (rootAt (execM p.store ⟨2, oa, ob, oc⟩ (freeAt p.store.cells)) oa) _ HP9.out.cs.drew hlt6 HP9.out.cl).mono ?_)
        rintro e w7 ⟨rfl, hO7, hOn7⟩
        have hP7 := (HP9.out.below (Below.drew (Below.refl _ _))).paint hO7 (grey1_len _ _) hOn7
        have Y7 : Below W0.heap.size W0 w7 := Below.trans (Below.drew Y) (hOn7.below (by simp; omega) HP9.out.l2)
        have HP7 := Lib.hid hP7
        clear hO7 hOn7 hP7 Y q0 q1 q2 q3 hga a0 a1 a2 a3 b0 b1 b2 b3 r0 r1 r2 r3 rf0 rf1 rf2 rf3 sY n6
        have Y := Y7
        clear Y7
        have sY := Y.size
        obtain ⟨r0, r1, r2, r3, rf⟩ := HG0.out _ Y; have rf0 := rf 0; have rf1 := rf 1; have rf2 := rf 2; have rf3 := rf 3; clear rf
        have q0 := HP7.out.q0
        have q1 := HP7.out.q1
        have q2 := HP7.out.q2
        have q3 := HP7.out.q3
        go_upto_region 18 with fail; (repeat go_step); have X := hW0.trans (Y.mono hW0.size); refine bodyPost_ret (v := .tuple #[.agg #[.slice E ((execM p.store ⟨2, oa, ob, oc⟩ (freeAt p.store.cells))).cells.length f, .slice (some ⟨k6, o6, none⟩) ((execM p.store ⟨2, oa, ob, oc⟩ (freeAt p.store.cells))).roots.length f', .slice S (grey1 (colsP p ⟨2, oa, ob, oc⟩) (rootAt (execM p.store ⟨2, oa, ob, oc⟩ (freeAt p.store.cells)) oa)).length cS, .bool p.active], .bool true]) (by simp [results, Try.results29, go_sem, r0, r1, r2, r3]) rfl ⟨_, by rw [HE.out], ?_, blw_⟩; rw [HE.out, HPD.out]; exact ((((HP7.out.opt.setlt (by simp; omega) _).setlt (by simp; omega) _).setlt (by simp; omega) _).setlt (by simp; omega) _).lo_ (by omega)
      · have HCO : Hid (colsP p ⟨2, oa, ob, oc⟩ = p.colours) := colsP_same (fun h => absurd h.1 hn1)
        have HPD : Hid (paintDo p ⟨2, oa, ob, oc⟩ = ⟨(execM p.store ⟨2, oa, ob, oc⟩ (freeAt p.store.cells)), colsP p ⟨2, oa, ob, oc⟩, p.active⟩) := paintDo_idle hac
        have HAC := Lib.hid hac
        clear hac
        go_upto_region 10 with fail
        refine wp_gen (fun W => (∃ S cS, PPx W0.heap.size W wx.heap.size ⟨(execM p.store ⟨2, oa, ob, oc⟩ (freeAt p.store.cells)), colsP p ⟨2, oa, ob, oc⟩, p.active⟩ E f E' f' os5 S cS) ∧ Below W0.heap.size W0 W) ⟨⟨B2, d2, by rw [HCO.out]; exact HPA.out⟩, Y⟩ ?_
        clear a0 a1 a2 a3 b0 b1 b2 b3 r0 r1 r2 r3 rf0 rf1 rf2 rf3 Y sY q0 q1 q2 q3 qf2 hga ng2 hl2 HPA; rintro WS ⟨⟨S, cS, hP9⟩, Y⟩; have sY := Y.size; obtain ⟨a0, a1, a2, a3, b0, b1, b2, b3⟩ := HF0.out _ Y; obtain ⟨r0, r1, r2, r3, rf⟩ := HG0.out _ Y; have rf0 := rf 0; have rf1 := rf 1; have rf2 := rf 2; have rf3 := rf 3; clear rf; have q0 := hP9.q0; have q1 := hP9.q1; have q2 := hP9.q2; have q3 := hP9.q3; have hga := hP9.lt; have HP9 := Lib.hid hP9; clear hP9
        rw [HAC.out] at a3
        go_upto_region 18 with fail; (repeat go_step); have X := hW0.trans (Y.mono hW0.size); refine bodyPost_ret (v := .tuple #[.agg #[.slice E ((execM p.store ⟨2, oa, ob, oc⟩ (freeAt p.store.cells))).cells.length f, .slice E' ((execM p.store ⟨2, oa, ob, oc⟩ (freeAt p.store.cells))).roots.length f', .slice S (colsP p ⟨2, oa, ob, oc⟩).length cS, .bool p.active], .bool true]) (by simp [results, Try.results29, go_sem, r0, r1, r2, r3]) rfl ⟨_, by rw [HE.out], ?_, blw_⟩; rw [HE.out, HPD.out]; exact ((((HP9.out.opt.setlt (by simp; omega) _).setlt (by simp; omega) _).setlt (by simp; omega) _).setlt (by simp; omega) _).lo_ (by omega)
    · subst h2
      rcases (bool_ft p.active).symm with hac | hac
      · have HCO : Hid (colsP p ⟨3, oa, ob, oc⟩ = p.colours) := colsP_same (fun h => absurd h.1 hn1)
        have HPD : Hid (paintDo p ⟨3, oa, ob, oc⟩ = ⟨(execM p.store ⟨3, oa, ob, oc⟩ (freeAt p.store.cells)), grey1 (colsP p ⟨3, oa, ob, oc⟩) (rootAt (execM p.store ⟨3, oa, ob, oc⟩ (freeAt p.store.cells)) ob), p.active⟩) := by unfold Hid; rw [paintDo_act hac, barM_ref rfl]; rfl
        have HAC := Lib.hid hac
        clear hac
        go_upto_region 10 with fail
        refine wp_gen (fun W => (∃ S cS, PPx W0.heap.size W wx.heap.size ⟨(execM p.store ⟨3, oa, ob, oc⟩ (freeAt p.store.cells)), colsP p ⟨3, oa, ob, oc⟩, p.active⟩ E f E' f' os5 S cS) ∧ Below W0.heap.size W0 W) ⟨⟨B2, d2, by rw [HCO.out]; exact HPA.out⟩, Y⟩ ?_
        clear a0 a1 a2 a3 b0 b1 b2 b3 r0 r1 r2 r3 rf0 rf1 rf2 rf3 Y sY q0 q1 q2 q3 qf2 hga ng2 hl2 HPA; rintro WS ⟨⟨S, cS, hP9⟩, Y⟩; have sY := Y.size; obtain ⟨a0, a1, a2, a3, b0, b1, b2, b3⟩ := HF0.out _ Y; obtain ⟨r0, r1, r2, r3, rf⟩ := HG0.out _ Y; have rf0 := rf 0; have rf1 := rf 1; have rf2 := rf 2; have rf3 := rf 3; clear rf; have q0 := hP9.q0; have q1 := hP9.q1; have q2 := hP9.q2; have q3 := hP9.q3; have hga := hP9.lt; have HP9 := Lib.hid hP9; clear hP9
        rw [HAC.out] at a3
        have hi4 : ob.toNat < ((execM p.store ⟨3, oa, ob, oc⟩ (freeAt p.store.cells))).roots.length := by rw [HXR.out]; have := HV2.out; have h9 : ob ≤ 3 := (by simpa [maxB] using d3); omega
        obtain ⟨k6, o6, x6, hk6, g6, m6, hb6⟩ := (HP9.out.own.rhs HP9.out.map).roots.at_ hi4
        rw [rootAt_get hi4] at g6
        injection g6 with g6
        subst g6
        have n6 : WS.cell? ⟨k6, o6 + ob.toNat, none⟩ = some (.int .i64 (rootAt (execM p.store ⟨3, oa, ob, oc⟩ (freeAt p.store.cells)) ob)) := m6
        have hi5 : ob < (((execM p.store ⟨3, oa, ob, oc⟩ (freeAt p.store.cells))).roots.length : Int) := by omega
        have hlt6 : rootAt (execM p.store ⟨3, oa, ob, oc⟩ (freeAt p.store.cells)) ob < ((colsP p ⟨3, oa, ob, oc⟩).length : Int) := by rw [colsP_len HCL.out]; exact leadsM_lt (rootAt_leads HVX.out _)
        subst hk6
        clear m6 hi4
        go_upto_region 17 with fail
        go_still_tail 8, (by kernel_rfl)
        change wpList _ _ _ _ _ WS.drew
        go_wp2_with fail
        (with_reducible refine (l18Grey_any E _ S _ _ f f' cS p.active (colsP p ⟨3, oa, ob, oc⟩) (rootAt (execM p.store ⟨3, oa, ob, oc⟩ (freeAt p.store.cells)) ob) _ HP9.out.cs.drew hlt6 HP9.out.cl).mono ?_)
        rintro e w7 ⟨rfl, hO7, hOn7⟩
        have hP7 := (HP9.out.below (Below.drew (Below.refl _ _))).paint hO7 (grey1_len _ _) hOn7
        have Y7 : Below W0.heap.size W0 w7 := Below.trans (Below.drew Y) (hOn7.below (by simp; omega) HP9.out.l2)
        have HP7 := Lib.hid hP7
        clear hO7 hOn7 hP7 Y q0 q1 q2 q3 hga a0 a1 a2 a3 b0 b1 b2 b3 r0 r1 r2 r3 rf0 rf1 rf2 rf3 sY n6
        have Y := Y7
        clear Y7
        have sY := Y.size
        obtain ⟨r0, r1, r2, r3, rf⟩ := HG0.out _ Y; have rf0 := rf 0; have rf1 := rf 1; have rf2 := rf 2; have rf3 := rf 3; clear rf
        have q0 := HP7.out.q0
        have q1 := HP7.out.q1
        have q2 := HP7.out.q2
        have q3 := HP7.out.q3
        go_upto_region 18 with fail; (repeat go_step); have X := hW0.trans (Y.mono hW0.size); refine bodyPost_ret (v := .tuple #[.agg #[.slice E ((execM p.store ⟨3, oa, ob, oc⟩ (freeAt p.store.cells))).cells.length f, .slice (some ⟨k6, o6, none⟩) ((execM p.store ⟨3, oa, ob, oc⟩ (freeAt p.store.cells))).roots.length f', .slice S (grey1 (colsP p ⟨3, oa, ob, oc⟩) (rootAt (execM p.store ⟨3, oa, ob, oc⟩ (freeAt p.store.cells)) ob)).length cS, .bool p.active], .bool true]) (by simp [results, Try.results29, go_sem, r0, r1, r2, r3]) rfl ⟨_, by rw [HE.out], ?_, blw_⟩; rw [HE.out, HPD.out]; exact ((((HP7.out.opt.setlt (by simp; omega) _).setlt (by simp; omega) _).setlt (by simp; omega) _).setlt (by simp; omega) _).lo_ (by omega)
      · have HCO : Hid (colsP p ⟨3, oa, ob, oc⟩ = p.colours) := colsP_same (fun h => absurd h.1 hn1)
        have HPD : Hid (paintDo p ⟨3, oa, ob, oc⟩ = ⟨(execM p.store ⟨3, oa, ob, oc⟩ (freeAt p.store.cells)), colsP p ⟨3, oa, ob, oc⟩, p.active⟩) := paintDo_idle hac
        have HAC := Lib.hid hac
        clear hac
        go_upto_region 10 with fail
        refine wp_gen (fun W => (∃ S cS, PPx W0.heap.size W wx.heap.size ⟨(execM p.store ⟨3, oa, ob, oc⟩ (freeAt p.store.cells)), colsP p ⟨3, oa, ob, oc⟩, p.active⟩ E f E' f' os5 S cS) ∧ Below W0.heap.size W0 W) ⟨⟨B2, d2, by rw [HCO.out]; exact HPA.out⟩, Y⟩ ?_
        clear a0 a1 a2 a3 b0 b1 b2 b3 r0 r1 r2 r3 rf0 rf1 rf2 rf3 Y sY q0 q1 q2 q3 qf2 hga ng2 hl2 HPA; rintro WS ⟨⟨S, cS, hP9⟩, Y⟩; have sY := Y.size; obtain ⟨a0, a1, a2, a3, b0, b1, b2, b3⟩ := HF0.out _ Y; obtain ⟨r0, r1, r2, r3, rf⟩ := HG0.out _ Y; have rf0 := rf 0; have rf1 := rf 1; have rf2 := rf 2; have rf3 := rf 3; clear rf; have q0 := hP9.q0; have q1 := hP9.q1; have q2 := hP9.q2; have q3 := hP9.q3; have hga := hP9.lt; have HP9 := Lib.hid hP9; clear hP9
        rw [HAC.out] at a3
        go_upto_region 18 with fail; (repeat go_step); have X := hW0.trans (Y.mono hW0.size); refine bodyPost_ret (v := .tuple #[.agg #[.slice E ((execM p.store ⟨3, oa, ob, oc⟩ (freeAt p.store.cells))).cells.length f, .slice E' ((execM p.store ⟨3, oa, ob, oc⟩ (freeAt p.store.cells))).roots.length f', .slice S (colsP p ⟨3, oa, ob, oc⟩).length cS, .bool p.active], .bool true]) (by simp [results, Try.results29, go_sem, r0, r1, r2, r3]) rfl ⟨_, by rw [HE.out], ?_, blw_⟩; rw [HE.out, HPD.out]; exact ((((HP9.out.opt.setlt (by simp; omega) _).setlt (by simp; omega) _).setlt (by simp; omega) _).setlt (by simp; omega) _).lo_ (by omega)
    · subst h2
      rcases (bool_ft p.active).symm with hac | hac
      · have HCO : Hid (colsP p ⟨4, oa, ob, oc⟩ = p.colours) := colsP_same (fun h => absurd h.1 hn1)
        have HPD : Hid (paintDo p ⟨4, oa, ob, oc⟩ = ⟨(execM p.store ⟨4, oa, ob, oc⟩ (freeAt p.store.cells)), grey1 (colsP p ⟨4, oa, ob, oc⟩) (rootAt (execM p.store ⟨4, oa, ob, oc⟩ (freeAt p.store.cells)) oa), p.active⟩) := by unfold Hid; rw [paintDo_act hac, barM_root (by simp)]; rfl
        have HAC := Lib.hid hac
        clear hac
        go_upto_region 10 with fail
        refine wp_gen (fun W => (∃ S cS, PPx W0.heap.size W wx.heap.size ⟨(execM p.store ⟨4, oa, ob, oc⟩ (freeAt p.store.cells)), colsP p ⟨4, oa, ob, oc⟩, p.active⟩ E f E' f' os5 S cS) ∧ Below W0.heap.size W0 W) ⟨⟨B2, d2, by rw [HCO.out]; exact HPA.out⟩, Y⟩ ?_
        clear a0 a1 a2 a3 b0 b1 b2 b3 r0 r1 r2 r3 rf0 rf1 rf2 rf3 Y sY q0 q1 q2 q3 qf2 hga ng2 hl2 HPA; rintro WS ⟨⟨S, cS, hP9⟩, Y⟩; have sY := Y.size; obtain ⟨a0, a1, a2, a3, b0, b1, b2, b3⟩ := HF0.out _ Y; obtain ⟨r0, r1, r2, r3, rf⟩ := HG0.out _ Y; have rf0 := rf 0; have rf1 := rf 1; have rf2 := rf 2; have rf3 := rf 3; clear rf; have q0 := hP9.q0; have q1 := hP9.q1; have q2 := hP9.q2; have q3 := hP9.q3; have hga := hP9.lt; have HP9 := Lib.hid hP9; clear hP9
        rw [HAC.out] at a3
        have hi4 : oa.toNat < ((execM p.store ⟨4, oa, ob, oc⟩ (freeAt p.store.cells))).roots.length := by rw [HXR.out]; have := HV2.out; omega
        obtain ⟨k6, o6, x6, hk6, g6, m6, hb6⟩ := (HP9.out.own.rhs HP9.out.map).roots.at_ hi4
        rw [rootAt_get hi4] at g6
        injection g6 with g6
        subst g6
        have n6 : WS.cell? ⟨k6, o6 + oa.toNat, none⟩ = some (.int .i64 (rootAt (execM p.store ⟨4, oa, ob, oc⟩ (freeAt p.store.cells)) oa)) := m6
        have hi5 : oa < (((execM p.store ⟨4, oa, ob, oc⟩ (freeAt p.store.cells))).roots.length : Int) := by omega
        have hlt6 : rootAt (execM p.store ⟨4, oa, ob, oc⟩ (freeAt p.store.cells)) oa < ((colsP p ⟨4, oa, ob, oc⟩).length : Int) := by rw [colsP_len HCL.out]; exact leadsM_lt (rootAt_leads HVX.out _)
        subst hk6
        clear m6 hi4
        go_upto_region 15 with fail
        go_still_tail 8, (by kernel_rfl)
        change wpList _ _ _ _ _ WS.drew
        go_wp2_with fail
        (with_reducible refine (l18Grey_any E _ S _ _ f f' cS p.active (colsP p ⟨4, oa, ob, oc⟩) (rootAt (execM p.store ⟨4, oa, ob, oc⟩ (freeAt p.store.cells)) oa) _ HP9.out.cs.drew hlt6 HP9.out.cl).mono ?_)
        rintro e w7 ⟨rfl, hO7, hOn7⟩
        have hP7 := (HP9.out.below (Below.drew (Below.refl _ _))).paint hO7 (grey1_len _ _) hOn7
        have Y7 : Below W0.heap.size W0 w7 := Below.trans (Below.drew Y) (hOn7.below (by simp; omega) HP9.out.l2)
        have HP7 := Lib.hid hP7
        clear hO7 hOn7 hP7 Y q0 q1 q2 q3 hga a0 a1 a2 a3 b0 b1 b2 b3 r0 r1 r2 r3 rf0 rf1 rf2 rf3 sY n6
        have Y := Y7
        clear Y7
        have sY := Y.size
        obtain ⟨r0, r1, r2, r3, rf⟩ := HG0.out _ Y; have rf0 := rf 0; have rf1 := rf 1; have rf2 := rf 2; have rf3 := rf 3; clear rf
        have q0 := HP7.out.q0
        have q1 := HP7.out.q1
        have q2 := HP7.out.q2
        have q3 := HP7.out.q3
        go_upto_region 18 with fail; (repeat go_step); have X := hW0.trans (Y.mono hW0.size); refine bodyPost_ret (v := .tuple #[.agg #[.slice E ((execM p.store ⟨4, oa, ob, oc⟩ (freeAt p.store.cells))).cells.length f, .slice (some ⟨k6, o6, none⟩) ((execM p.store ⟨4, oa, ob, oc⟩ (freeAt p.store.cells))).roots.length f', .slice S (grey1 (colsP p ⟨4, oa, ob, oc⟩) (rootAt (execM p.store ⟨4, oa, ob, oc⟩ (freeAt p.store.cells)) oa)).length cS, .bool p.active], .bool true]) (by simp [results, Try.results29, go_sem, r0, r1, r2, r3]) rfl ⟨_, by rw [HE.out], ?_, blw_⟩; rw [HE.out, HPD.out]; exact ((((HP7.out.opt.setlt (by simp; omega) _).setlt (by simp; omega) _).setlt (by simp; omega) _).setlt (by simp; omega) _).lo_ (by omega)
      · have HCO : Hid (colsP p ⟨4, oa, ob, oc⟩ = p.colours) := colsP_same (fun h => absurd h.1 hn1)
        have HPD : Hid (paintDo p ⟨4, oa, ob, oc⟩ = ⟨(execM p.store ⟨4, oa, ob, oc⟩ (freeAt p.store.cells)), colsP p ⟨4, oa, ob, oc⟩, p.active⟩) := paintDo_idle hac
        have HAC := Lib.hid hac
        clear hac
        go_upto_region 10 with fail
        refine wp_gen (fun W => (∃ S cS, PPx W0.heap.size W wx.heap.size ⟨(execM p.store ⟨4, oa, ob, oc⟩ (freeAt p.store.cells)), colsP p ⟨4, oa, ob, oc⟩, p.active⟩ E f E' f' os5 S cS) ∧ Below W0.heap.size W0 W) ⟨⟨B2, d2, by rw [HCO.out]; exact HPA.out⟩, Y⟩ ?_
        clear a0 a1 a2 a3 b0 b1 b2 b3 r0 r1 r2 r3 rf0 rf1 rf2 rf3 Y sY q0 q1 q2 q3 qf2 hga ng2 hl2 HPA; rintro WS ⟨⟨S, cS, hP9⟩, Y⟩; have sY := Y.size; obtain ⟨a0, a1, a2, a3, b0, b1, b2, b3⟩ := HF0.out _ Y; obtain ⟨r0, r1, r2, r3, rf⟩ := HG0.out _ Y; have rf0 := rf 0; have rf1 := rf 1; have rf2 := rf 2; have rf3 := rf 3; clear rf; have q0 := hP9.q0; have q1 := hP9.q1; have q2 := hP9.q2; have q3 := hP9.q3; have hga := hP9.lt; have HP9 := Lib.hid hP9; clear hP9
        rw [HAC.out] at a3
        go_upto_region 18 with fail; (repeat go_step); have X := hW0.trans (Y.mono hW0.size); refine bodyPost_ret (v := .tuple #[.agg #[.slice E ((execM p.store ⟨4, oa, ob, oc⟩ (freeAt p.store.cells))).cells.length f, .slice E' ((execM p.store ⟨4, oa, ob, oc⟩ (freeAt p.store.cells))).roots.length f', .slice S (colsP p ⟨4, oa, ob, oc⟩).length cS, .bool p.active], .bool true]) (by simp [results, Try.results29, go_sem, r0, r1, r2, r3]) rfl ⟨_, by rw [HE.out], ?_, blw_⟩; rw [HE.out, HPD.out]; exact ((((HP9.out.opt.setlt (by simp; omega) _).setlt (by simp; omega) _).setlt (by simp; omega) _).setlt (by simp; omega) _).lo_ (by omega)
    · rcases (bool_ft p.active).symm with hac | hac
      · have HCO : Hid (colsP p ⟨op, oa, ob, oc⟩ = p.colours) := colsP_same (fun h => absurd h.1 hn1)
        have HPD : Hid (paintDo p ⟨op, oa, ob, oc⟩ = ⟨(execM p.store ⟨op, oa, ob, oc⟩ (freeAt p.store.cells)), colsP p ⟨op, oa, ob, oc⟩, p.active⟩) := by rcases bool_ft p.active with h | h; exact paintDo_idle h; unfold Hid; rw [paintDo_act h, barM_none (fun h => by rcases h with h | h | h; exact hn1 h; exact hn2 h; exact hn4 h) hn3]; rfl
        have HAC := Lib.hid hac
        clear hac
        go_upto_region 10 with fail
        refine wp_gen (fun W => (∃ S cS, PPx W0.heap.size W wx.heap.size ⟨(execM p.store ⟨op, oa, ob, oc⟩ (freeAt p.store.cells)), colsP p ⟨op, oa, ob, oc⟩, p.active⟩ E f E' f' os5 S cS) ∧ Below W0.heap.size W0 W) ⟨⟨B2, d2, by rw [HCO.out]; exact HPA.out⟩, Y⟩ ?_
        clear a0 a1 a2 a3 b0 b1 b2 b3 r0 r1 r2 r3 rf0 rf1 rf2 rf3 Y sY q0 q1 q2 q3 qf2 hga ng2 hl2 HPA; rintro WS ⟨⟨S, cS, hP9⟩, Y⟩; have sY := Y.size; obtain ⟨a0, a1, a2, a3, b0, b1, b2, b3⟩ := HF0.out _ Y; obtain ⟨r0, r1, r2, r3, rf⟩ := HG0.out _ Y; have rf0 := rf 0; have rf1 := rf 1; have rf2 := rf 2; have rf3 := rf 3; clear rf; have q0 := hP9.q0; have q1 := hP9.q1; have q2 := hP9.q2; have q3 := hP9.q3; have hga := hP9.lt; have HP9 := Lib.hid hP9; clear hP9
        rw [HAC.out] at a3
        go_upto_region 18 with fail; (repeat go_step); have X := hW0.trans (Y.mono hW0.size); refine bodyPost_ret (v := .tuple #[.agg #[.slice E ((execM p.store ⟨op, oa, ob, oc⟩ (freeAt p.store.cells))).cells.length f, .slice E' ((execM p.store ⟨op, oa, ob, oc⟩ (freeAt p.store.cells))).roots.length f', .slice S (colsP p ⟨op, oa, ob, oc⟩).length cS, .bool p.active], .bool true]) (by simp [results, Try.results29, go_sem, r0, r1, r2, r3]) rfl ⟨_, by rw [HE.out], ?_, blw_⟩; rw [HE.out, HPD.out]; exact ((((HP9.out.opt.setlt (by simp; omega) _).setlt (by simp; omega) _).setlt (by simp; omega) _).setlt (by simp; omega) _).lo_ (by omega)
      · have HCO : Hid (colsP p ⟨op, oa, ob, oc⟩ = p.colours) := colsP_same (fun h => absurd h.1 hn1)
        have HPD : Hid (paintDo p ⟨op, oa, ob, oc⟩ = ⟨(execM p.store ⟨op, oa, ob, oc⟩ (freeAt p.store.cells)), colsP p ⟨op, oa, ob, oc⟩, p.active⟩) := by rcases bool_ft p.active with h | h; exact paintDo_idle h; unfold Hid; rw [paintDo_act h, barM_none (fun h => by rcases h with h | h | h; exact hn1 h; exact hn2 h; exact hn4 h) hn3]; rfl
        have HAC := Lib.hid hac
        clear hac
        go_upto_region 10 with fail
        refine wp_gen (fun W => (∃ S cS, PPx W0.heap.size W wx.heap.size ⟨(execM p.store ⟨op, oa, ob, oc⟩ (freeAt p.store.cells)), colsP p ⟨op, oa, ob, oc⟩, p.active⟩ E f E' f' os5 S cS) ∧ Below W0.heap.size W0 W) ⟨⟨B2, d2, by rw [HCO.out]; exact HPA.out⟩, Y⟩ ?_
        clear a0 a1 a2 a3 b0 b1 b2 b3 r0 r1 r2 r3 rf0 rf1 rf2 rf3 Y sY q0 q1 q2 q3 qf2 hga ng2 hl2 HPA; rintro WS ⟨⟨S, cS, hP9⟩, Y⟩; have sY := Y.size; obtain ⟨a0, a1, a2, a3, b0, b1, b2, b3⟩ := HF0.out _ Y; obtain ⟨r0, r1, r2, r3, rf⟩ := HG0.out _ Y; have rf0 := rf 0; have rf1 := rf 1; have rf2 := rf 2; have rf3 := rf 3; clear rf; have q0 := hP9.q0; have q1 := hP9.q1; have q2 := hP9.q2; have q3 := hP9.q3; have hga := hP9.lt; have HP9 := Lib.hid hP9; clear hP9
        rw [HAC.out] at a3
        go_upto_region 18 with fail; (repeat go_step); have X := hW0.trans (Y.mono hW0.size); refine bodyPost_ret (v := .tuple #[.agg #[.slice E ((execM p.store ⟨op, oa, ob, oc⟩ (freeAt p.store.cells))).cells.length f, .slice E' ((execM p.store ⟨op, oa, ob, oc⟩ (freeAt p.store.cells))).roots.length f', .slice S (colsP p ⟨op, oa, ob, oc⟩).length cS, .bool p.active], .bool true]) (by simp [results, Try.results29, go_sem, r0, r1, r2, r3]) rfl ⟨_, by rw [HE.out], ?_, blw_⟩; rw [HE.out, HPD.out]; exact ((((HP9.out.opt.setlt (by simp; omega) _).setlt (by simp; omega) _).setlt (by simp; omega) _).setlt (by simp; omega) _).lo_ (by omega)
end Go.Proofs.Ytopbngfghpgbnaa
