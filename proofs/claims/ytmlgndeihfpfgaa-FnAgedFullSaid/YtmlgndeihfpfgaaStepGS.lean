/- StepAged of the reference returns agedCmdM, in new memory. -/
import Derived.Test.YtmlgndeihfpfgaaChecked
import Derived.Deep.RegionHeld3
import Derived.Deep.DeepCutAuto
import Derived.Test.YtmlgndeihfpfgaaGrKeep
import Derived.Test.YtmlgndeihfpfgaaGrSnap
import Derived.Test.YtmlgndeihfpfgaaGrCopy
import Derived.Test.YtmlgndeihfpfgaaGrExecS
import Derived.Test.YtmlgndeihfpfgaaGrCmd
import Derived.Test.YtmlgndeihfpfgaaGrStep
import Derived.Test.YtmlgndeihfpfgaaStepG1
import Derived.Test.YtmlgndeihfpfgaaStepG3
namespace Go.Proofs.Ytmlgndeihfpfgaa
open Go.RowKit
set_option maxRecDepth 100000
set_option linter.unusedSimpArgs false
set_option linter.unusedVariables false

set_option maxHeartbeats 8000000 in
theorem specStepAged_any (v : Value) (p : TwoM) (o : CmdM) (w : World) (hv : RTw w v p) :
    Calls Try.prog 54 #[v, .agg #[.int .i64 o.op, .int .i64 o.a, .int .i64 o.b, .int .i64 o.c]] w fun e w' => ∃ v', e = .returned (.tuple #[v', .bool (agedCmdM p o).2]) ∧ OTw w.heap.size w' v' (agedCmdM p o).1 ∧ Below w.heap.size w w' := by
  rcases Classical.em (o.op = 3 ∧ agedM p = true ∧ cmdOk o = true ∧ possO p.store o = true) with h3 | h3
  · exact specStepAged_op3 v p o w hv h3
  rcases Classical.em (o.op = 1 ∧ agedM p = true ∧ cmdOk o = true ∧ possO p.store o = true) with h1 | h1
  · exact specStepAged_op1 v p o w hv h1
  have hv00 := hv
  obtain ⟨A, c, A', c', A2, c2, A3, c3, rfl, hh, hx, -, -, -⟩ := hv
  obtain ⟨op, oa, ob, oc⟩ := o
  dsimp only at h1 h3 ⊢
  have H1 := Lib.hid h1
  have H3 := Lib.hid h3
  clear h1 h3
  have HF0 : Hid (∀ W, Below ((((w.alloc (.cells #[.slice A p.store.cells.length c, .slice A' p.store.roots.length c', .slice A2 p.x.length c2, .slice A3 p.y.length c3] 45)).alloc (.cells #[.int .i64 op, .int .i64 oa, .int .i64 ob, .int .i64 oc] 62)).alloc (.cells #[.slice none 0 0, .slice none 0 0, .slice none 0 0, .slice none 0 0] 45))).heap.size ((((w.alloc (.cells #[.slice A p.store.cells.length c, .slice A' p.store.roots.length c', .slice A2 p.x.length c2, .slice A3 p.y.length c3] 45)).alloc (.cells #[.int .i64 op, .int .i64 oa, .int .i64 ob, .int .i64 oc] 62)).alloc (.cells #[.slice none 0 0, .slice none 0 0, .slice none 0 0, .slice none 0 0] 45))) W → (W.cell? ⟨w.heap.size, 0, none⟩ = some (.slice A p.store.cells.length c) ∧ W.cell? ⟨w.heap.size, 1, none⟩ = some (.slice A' p.store.roots.length c') ∧ W.cell? ⟨w.heap.size, 2, none⟩ = some (.slice A2 p.x.length c2) ∧ W.cell? ⟨w.heap.size, 3, none⟩ = some (.slice A3 p.y.length c3) ∧ W.cell? ⟨w.heap.size + 1, 0, none⟩ = some (.int .i64 op) ∧ W.cell? ⟨w.heap.size + 1, 1, none⟩ = some (.int .i64 oa) ∧ W.cell? ⟨w.heap.size + 1, 2, none⟩ = some (.int .i64 ob) ∧ W.cell? ⟨w.heap.size + 1, 3, none⟩ = some (.int .i64 oc))) := fun W hW => ⟨cell_below (by simp [go_sem]) hW, cell_below (by simp [go_sem]) hW, cell_below (by simp [go_sem]) hW, cell_below (by simp [go_sem]) hW, cell_below (by simp [go_sem]) hW, cell_below (by simp [go_sem]) hW, cell_below (by simp [go_sem]) hW, cell_below (by simp [go_sem]) hW⟩
  have HG0 : Hid (∀ W, Below ((((w.alloc (.cells #[.slice A p.store.cells.length c, .slice A' p.store.roots.length c', .slice A2 p.x.length c2, .slice A3 p.y.length c3] 45)).alloc (.cells #[.int .i64 op, .int .i64 oa, .int .i64 ob, .int .i64 oc] 62)).alloc (.cells #[.slice none 0 0, .slice none 0 0, .slice none 0 0, .slice none 0 0] 45))).heap.size ((((w.alloc (.cells #[.slice A p.store.cells.length c, .slice A' p.store.roots.length c', .slice A2 p.x.length c2, .slice A3 p.y.length c3] 45)).alloc (.cells #[.int .i64 op, .int .i64 oa, .int .i64 ob, .int .i64 oc] 62)).alloc (.cells #[.slice none 0 0, .slice none 0 0, .slice none 0 0, .slice none 0 0] 45))) W → (W.cell? ⟨w.heap.size + 2, 0, none⟩ = some (.slice none 0 0) ∧ W.cell? ⟨w.heap.size + 2, 1, none⟩ = some (.slice none 0 0) ∧ W.cell? ⟨w.heap.size + 2, 2, none⟩ = some (.slice none 0 0) ∧ W.cell? ⟨w.heap.size + 2, 3, none⟩ = some (.slice none 0 0) ∧ ∀ o, W.frozen? ⟨w.heap.size + 2, o, none⟩ = false)) := fun W hW => ⟨cell_below (by simp [go_sem]) hW, cell_below (by simp [go_sem]) hW, cell_below (by simp [go_sem]) hW, cell_below (by simp [go_sem]) hW, fun o => ((bcell hW).2.1 _ _ (by simp)).trans (by simp [go_sem])⟩
  have hz0 : ((((w.alloc (.cells #[.slice A p.store.cells.length c, .slice A' p.store.roots.length c', .slice A2 p.x.length c2, .slice A3 p.y.length c3] 45)).alloc (.cells #[.int .i64 op, .int .i64 oa, .int .i64 ob, .int .i64 oc] 62)).alloc (.cells #[.slice none 0 0, .slice none 0 0, .slice none 0 0, .slice none 0 0] 45))).heap.size = w.heap.size + 3 := by simp
  have hW0 : Below w.heap.size w ((((w.alloc (.cells #[.slice A p.store.cells.length c, .slice A' p.store.roots.length c', .slice A2 p.x.length c2, .slice A3 p.y.length c3] 45)).alloc (.cells #[.int .i64 op, .int .i64 oa, .int .i64 ob, .int .i64 oc] 62)).alloc (.cells #[.slice none 0 0, .slice none 0 0, .slice none 0 0, .slice none 0 0] 45))) := blw_
  have hv0 := hv00.below hW0
  have hh0 := hh.below hW0
  have HX0 := Lib.hid (hx.below hW0)
  clear hv00 hh hx
  cases hva : agedM p
  · have HV := Lib.hid hva
    have HE := Lib.hid (aged_bad (p := p) (o := ⟨op, oa, ob, oc⟩) (by rw [hva]; rfl))
    clear hva
    go_enter Try.func54, Try.ntmps54; go_wp2_with fail; generalize ((((w.alloc (.cells #[.slice A p.store.cells.length c, .slice A' p.store.roots.length c', .slice A2 p.x.length c2, .slice A3 p.y.length c3] 45)).alloc (.cells #[.int .i64 op, .int .i64 oa, .int .i64 ob, .int .i64 oc] 62)).alloc (.cells #[.slice none 0 0, .slice none 0 0, .slice none 0 0, .slice none 0 0] 45))) = W0 at *; have Y := Below.refl W0.heap.size W0; have sY := Y.size; obtain ⟨a0, a1, a2, a3, b0, b1, b2, b3⟩ := HF0.out _ Y; obtain ⟨r0, r1, r2, r3, rf⟩ := HG0.out _ Y; have rf0 := rf 0; have rf1 := rf 1; have rf2 := rf 2; have rf3 := rf 3; clear rf
    ((with_reducible refine (specAgedValid_any _ p _ (hv0.below blw_)).mono ?_); rw [HV.out]; rintro e w2 ⟨rfl, hB⟩; (have z_hB := Below.size hB); (try simp only [World.size_alloc, World.size_setCell, World.size_drew, World.heap_drewN] at z_hB); have Y2 : Below W0.heap.size W0 w2 := blw_; clear hB; clear Y a0 a1 a2 a3 b0 b1 b2 b3 r0 r1 r2 r3 rf0 rf1 rf2 rf3; have Y := Y2; clear Y2; have sY := Y.size; obtain ⟨a0, a1, a2, a3, b0, b1, b2, b3⟩ := HF0.out _ Y; obtain ⟨r0, r1, r2, r3, rf⟩ := HG0.out _ Y; have rf0 := rf 0; have rf1 := rf 1; have rf2 := rf 2; have rf3 := rf 3; clear rf)
    go_wp2_with fail
    have X := hW0.trans (Y.mono hW0.size); refine bodyPost_ret (v := .tuple #[.agg #[.slice none 0 0, .slice none 0 0, .slice none 0 0, .slice none 0 0], .bool false]) (by simp [results, Try.results54, go_sem, r0, r1, r2, r3]) rfl ⟨_, by rw [HE.out], ?_, blw_⟩; rw [HE.out]; exact OTw.zero
  have HV := Lib.hid hva
  obtain ⟨hvs, hxl, hyl⟩ := agedM_parts hva
  have HVS := Lib.hid hvs
  obtain ⟨v1, v2, v3⟩ := valid_small hvs
  have v2' : p.store.roots.length ≤ 4 := by omega
  have HV3 := Lib.hid v3
  have HV2 := Lib.hid v2
  have x40 : p.x.length ≤ 40 := by omega
  have y40 : p.y.length ≤ 40 := by omega
  have HXL := Lib.hid hxl
  have HYL := Lib.hid hyl
  clear v2 v3 hvs hxl hyl
  cases hok : cmdOk ⟨op, oa, ob, oc⟩
  · have HO := Lib.hid hok
    have HE := Lib.hid (aged_bad (p := p) (o := ⟨op, oa, ob, oc⟩) (by rw [hva, hok]; rfl))
    clear hva hok
    go_enter Try.func54, Try.ntmps54; go_wp2_with fail; generalize ((((w.alloc (.cells #[.slice A p.store.cells.length c, .slice A' p.store.roots.length c', .slice A2 p.x.length c2, .slice A3 p.y.length c3] 45)).alloc (.cells #[.int .i64 op, .int .i64 oa, .int .i64 ob, .int .i64 oc] 62)).alloc (.cells #[.slice none 0 0, .slice none 0 0, .slice none 0 0, .slice none 0 0] 45))) = W0 at *; have Y := Below.refl W0.heap.size W0; have sY := Y.size; obtain ⟨a0, a1, a2, a3, b0, b1, b2, b3⟩ := HF0.out _ Y; obtain ⟨r0, r1, r2, r3, rf⟩ := HG0.out _ Y; have rf0 := rf 0; have rf1 := rf 1; have rf2 := rf 2; have rf3 := rf 3; clear rf
    ((with_reducible refine (specAgedValid_any _ p _ (hv0.below blw_)).mono ?_); rw [HV.out]; rintro e w2 ⟨rfl, hB⟩; (have z_hB := Below.size hB); (try simp only [World.size_alloc, World.size_setCell, World.size_drew, World.heap_drewN] at z_hB); have Y2 : Below W0.heap.size W0 w2 := blw_; clear hB; clear Y a0 a1 a2 a3 b0 b1 b2 b3 r0 r1 r2 r3 rf0 rf1 rf2 rf3; have Y := Y2; clear Y2; have sY := Y.size; obtain ⟨a0, a1, a2, a3, b0, b1, b2, b3⟩ := HF0.out _ Y; obtain ⟨r0, r1, r2, r3, rf⟩ := HG0.out _ Y; have rf0 := rf 0; have rf1 := rf 1; have rf2 := rf 2; have rf3 := rf 3; clear rf)
    go_wp2_with fail
    ((with_reducible refine (specCommandValid_any ⟨op, oa, ob, oc⟩ _).mono ?_); rw [HO.out]; rintro e w2 ⟨rfl, hB⟩; (have z_hB := Below.size hB); (try simp only [World.size_alloc, World.size_setCell, World.size_drew, World.heap_drewN] at z_hB); have Y2 : Below W0.heap.size W0 w2 := blw_; clear hB; clear Y a0 a1 a2 a3 b0 b1 b2 b3 r0 r1 r2 r3 rf0 rf1 rf2 rf3; have Y := Y2; clear Y2; have sY := Y.size; obtain ⟨a0, a1, a2, a3, b0, b1, b2, b3⟩ := HF0.out _ Y; obtain ⟨r0, r1, r2, r3, rf⟩ := HG0.out _ Y; have rf0 := rf 0; have rf1 := rf 1; have rf2 := rf 2; have rf3 := rf 3; clear rf)
    go_wp2_with fail
    have X := hW0.trans (Y.mono hW0.size); refine bodyPost_ret (v := .tuple #[.agg #[.slice none 0 0, .slice none 0 0, .slice none 0 0, .slice none 0 0], .bool false]) (by simp [results, Try.results54, go_sem, r0, r1, r2, r3]) rfl ⟨_, by rw [HE.out], ?_, blw_⟩; rw [HE.out]; exact OTw.zero
  have HO := Lib.hid hok
  have h40 := freeAt_le p.store.cells
  cases hps : possO p.store ⟨op, oa, ob, oc⟩
  · have HP := Lib.hid (possO_hid hps HVS.out hok)
    have HE : Hid (agedCmdM p ⟨op, oa, ob, oc⟩ = (p, false)) := by
      rcases aged_cases (o := ⟨op, oa, ob, oc⟩) hva hok with h | h | h
      · exact h.2
      · rw [hps] at h; cases h.2.1
      · rw [hps] at h; cases h.2.1
    clear hva hok hps
    go_enter Try.func54, Try.ntmps54; go_wp2_with fail; generalize ((((w.alloc (.cells #[.slice A p.store.cells.length c, .slice A' p.store.roots.length c', .slice A2 p.x.length c2, .slice A3 p.y.length c3] 45)).alloc (.cells #[.int .i64 op, .int .i64 oa, .int .i64 ob, .int .i64 oc] 62)).alloc (.cells #[.slice none 0 0, .slice none 0 0, .slice none 0 0, .slice none 0 0] 45))) = W0 at *; have Y := Below.refl W0.heap.size W0; have sY := Y.size; obtain ⟨a0, a1, a2, a3, b0, b1, b2, b3⟩ := HF0.out _ Y; obtain ⟨r0, r1, r2, r3, rf⟩ := HG0.out _ Y; have rf0 := rf 0; have rf1 := rf 1; have rf2 := rf 2; have rf3 := rf 3; clear rf; ((with_reducible refine (specAgedValid_any _ p _ (hv0.below blw_)).mono ?_); rw [HV.out]; rintro e w2 ⟨rfl, hB⟩; (have z_hB := Below.size hB); (try simp only [World.size_alloc, World.size_setCell, World.size_drew, World.heap_drewN] at z_hB); have Y2 : Below W0.heap.size W0 w2 := blw_; clear hB; clear Y a0 a1 a2 a3 b0 b1 b2 b3 r0 r1 r2 r3 rf0 rf1 rf2 rf3; have Y := Y2; clear Y2; have sY := Y.size; obtain ⟨a0, a1, a2, a3, b0, b1, b2, b3⟩ := HF0.out _ Y; obtain ⟨r0, r1, r2, r3, rf⟩ := HG0.out _ Y; have rf0 := rf 0; have rf1 := rf 1; have rf2 := rf 2; have rf3 := rf 3; clear rf); go_wp2_with fail; ((with_reducible refine (specCommandValid_any ⟨op, oa, ob, oc⟩ _).mono ?_); rw [HO.out]; rintro e w2 ⟨rfl, hB⟩; (have z_hB := Below.size hB); (try simp only [World.size_alloc, World.size_setCell, World.size_drew, World.heap_drewN] at z_hB); have Y2 : Below W0.heap.size W0 w2 := blw_; clear hB; clear Y a0 a1 a2 a3 b0 b1 b2 b3 r0 r1 r2 r3 rf0 rf1 rf2 rf3; have Y := Y2; clear Y2; have sY := Y.size; obtain ⟨a0, a1, a2, a3, b0, b1, b2, b3⟩ := HF0.out _ Y; obtain ⟨r0, r1, r2, r3, rf⟩ := HG0.out _ Y; have rf0 := rf 0; have rf1 := rf 1; have rf2 := rf 2; have rf3 := rf 3; clear rf); go_wp2_with fail; ((with_reducible refine (l17Copy_any _ p _ (hv0.below blw_) (by omega) (fun d hd => Nat.le_trans (HV3.out d hd) (by omega)) (by omega) (by omega) (by omega)).mono ?_); rintro e w2 ⟨v4, rfl, ⟨B, d, B', d', os, B2, d2, B3, d3, rfl, o4⟩, hB⟩; (have z_hB := Below.size hB); (try simp only [World.size_alloc, World.size_setCell, World.size_drew, World.heap_drewN] at z_hB); have Y2 : Below W0.heap.size W0 w2 := blw_; clear hB; clear Y a0 a1 a2 a3 b0 b1 b2 b3 r0 r1 r2 r3 rf0 rf1 rf2 rf3; have Y := Y2; clear Y2; have sY := Y.size; obtain ⟨a0, a1, a2, a3, b0, b1, b2, b3⟩ := HF0.out _ Y; obtain ⟨r0, r1, r2, r3, rf⟩ := HG0.out _ Y; have rf0 := rf 0; have rf1 := rf 1; have rf2 := rf 2; have rf3 := rf 3; clear rf); obtain ⟨wx, rfl⟩ : ∃ wx, wx = w2 := ⟨_, rfl⟩; have hx0 : w.heap.size < wx.heap.size := (by omega); have hx1 : w.heap.size + 1 < wx.heap.size := (by omega); have hlo4 : ∀ b ∈ hblks B os B' ++ blk B2 ++ blk B3, W0.heap.size ≤ b := (fun b hb => by have h7 := o4.2.2.2.2.2.1 b hb; (try simp only [World.size_alloc, World.size_setCell, World.size_drew, World.heap_drewN] at h7); omega); have HPX := Lib.hid (PTx.mk_ (p := p) o4.1 o4.2.1 o4.2.2.1 o4.2.2.2.1 o4.2.2.2.2.1 hlo4 (by omega) (by omega) sY 45); clear o4 hlo4; go_wp2_with fail; ((with_reducible refine (l10Place_any _ p.store _ ((hh0.below blw_).rh _ _) (by omega)).mono ?_); rintro e w2 ⟨rfl, hB⟩; have HP1 := Lib.hid (HPX.out.below hB); (have z_hB := Below.size hB); (try simp only [World.size_alloc, World.size_setCell, World.size_drew, World.heap_drewN] at z_hB); have Y2 : Below W0.heap.size W0 w2 := blw_; clear hB; clear Y a0 a1 a2 a3 b0 b1 b2 b3 r0 r1 r2 r3 rf0 rf1 rf2 rf3; have Y := Y2; clear Y2; have sY := Y.size; obtain ⟨a0, a1, a2, a3, b0, b1, b2, b3⟩ := HF0.out _ Y; obtain ⟨r0, r1, r2, r3, rf⟩ := HG0.out _ Y; have rf0 := rf 0; have rf1 := rf 1; have rf2 := rf 2; have rf3 := rf 3; clear rf); obtain ⟨wz, rfl⟩ : ∃ wz, wz = w2 := ⟨_, rfl⟩; go_wp2_with fail; ((with_reducible refine (specCommandPossible_any _ p.store ⟨op, oa, ob, oc⟩ _ ((hh0.below blw_).rh _ _)).mono ?_); rw [HP.out]; rintro e w2 ⟨rfl, hB⟩; have HP2 := Lib.hid (HP1.out.below hB); (have z_hB := Below.size hB); (try simp only [World.size_alloc, World.size_setCell, World.size_drew, World.heap_drewN] at z_hB); have Y2 : Below W0.heap.size W0 w2 := blw_; clear hB; clear Y a0 a1 a2 a3 b0 b1 b2 b3 r0 r1 r2 r3 rf0 rf1 rf2 rf3; have Y := Y2; clear Y2; have sY := Y.size; obtain ⟨a0, a1, a2, a3, b0, b1, b2, b3⟩ := HF0.out _ Y; obtain ⟨r0, r1, r2, r3, rf⟩ := HG0.out _ Y; have rf0 := rf 0; have rf1 := rf 1; have rf2 := rf 2; have rf3 := rf 3; clear rf); have q0 := HP2.out.q0; have q1 := HP2.out.q1; have q2 := HP2.out.q2; have q3 := HP2.out.q3
    go_wp2_with fail
    have X := hW0.trans (Y.mono hW0.size); refine bodyPost_ret (v := .tuple #[.agg #[.slice B p.store.cells.length d, .slice B' p.store.roots.length d', .slice B2 p.x.length d2, .slice B3 p.y.length d3], .bool false]) (by simp [results, Try.results54, go_sem, r0, r1, r2, r3]) rfl ⟨_, by rw [HE.out], ?_, blw_⟩; rw [HE.out]; exact ((((HP2.out.opt.setlt (by simp; omega) _).setlt (by simp; omega) _).setlt (by simp; omega) _).setlt (by simp; omega) _).lo_ (by omega)
  have HP := Lib.hid (possO_hid hps HVS.out hok)
  have HPO := Lib.hid hps
  have hop : ¬ op = 1 := fun e => H1.out ⟨e, hva, hok, hps⟩
  have hop3 : ¬ op = 3 := fun e => H3.out ⟨e, hva, hok, hps⟩
  have hcf : canF p.store ⟨op, oa, ob, oc⟩ = true := canF_old hps hop
  have HCS := Lib.hid (aged_cases (o := ⟨op, oa, ob, oc⟩) hva hok)
  have HCF := Lib.hid hcf
  have hfull : True := trivial
  clear hcf
  rcases HCS.out with h | ⟨-, -, hgr, -, -⟩ | ⟨-, -, hgr, hE⟩
  · rw [HCF.out] at h; cases h.1
  · unfold growB at hgr; simp [hop] at hgr
  · have hno : noteM p ⟨op, oa, ob, oc⟩ = p.y := by unfold noteM; rw [if_neg (fun hh => hop3 hh.1)]
    rw [hno] at hE
    have HE := Lib.hid hE
    clear hE hgr hno hva hok hps hfull
    go_enter Try.func54, Try.ntmps54; go_wp2_with fail; generalize ((((w.alloc (.cells #[.slice A p.store.cells.length c, .slice A' p.store.roots.length c', .slice A2 p.x.length c2, .slice A3 p.y.length c3] 45)).alloc (.cells #[.int .i64 op, .int .i64 oa, .int .i64 ob, .int .i64 oc] 62)).alloc (.cells #[.slice none 0 0, .slice none 0 0, .slice none 0 0, .slice none 0 0] 45))) = W0 at *; have Y := Below.refl W0.heap.size W0; have sY := Y.size; obtain ⟨a0, a1, a2, a3, b0, b1, b2, b3⟩ := HF0.out _ Y; obtain ⟨r0, r1, r2, r3, rf⟩ := HG0.out _ Y; have rf0 := rf 0; have rf1 := rf 1; have rf2 := rf 2; have rf3 := rf 3; clear rf; ((with_reducible refine (specAgedValid_any _ p _ (hv0.below blw_)).mono ?_); rw [HV.out]; rintro e w2 ⟨rfl, hB⟩; (have z_hB := Below.size hB); (try simp only [World.size_alloc, World.size_setCell, World.size_drew, World.heap_drewN] at z_hB); have Y2 : Below W0.heap.size W0 w2 := blw_; clear hB; clear Y a0 a1 a2 a3 b0 b1 b2 b3 r0 r1 r2 r3 rf0 rf1 rf2 rf3; have Y := Y2; clear Y2; have sY := Y.size; obtain ⟨a0, a1, a2, a3, b0, b1, b2, b3⟩ := HF0.out _ Y; obtain ⟨r0, r1, r2, r3, rf⟩ := HG0.out _ Y; have rf0 := rf 0; have rf1 := rf 1; have rf2 := rf 2; have rf3 := rf 3; clear rf); go_wp2_with fail; ((with_reducible refine (specCommandValid_any ⟨op, oa, ob, oc⟩ _).mono ?_); rw [HO.out]; rintro e w2 ⟨rfl, hB⟩; (have z_hB := Below.size hB); (try simp only [World.size_alloc, World.size_setCell, World.size_drew, World.heap_drewN] at z_hB); have Y2 : Below W0.heap.size W0 w2 := blw_; clear hB; clear Y a0 a1 a2 a3 b0 b1 b2 b3 r0 r1 r2 r3 rf0 rf1 rf2 rf3; have Y := Y2; clear Y2; have sY := Y.size; obtain ⟨a0, a1, a2, a3, b0, b1, b2, b3⟩ := HF0.out _ Y; obtain ⟨r0, r1, r2, r3, rf⟩ := HG0.out _ Y; have rf0 := rf 0; have rf1 := rf 1; have rf2 := rf 2; have rf3 := rf 3; clear rf); go_wp2_with fail; ((with_reducible refine (l17Copy_any _ p _ (hv0.below blw_) (by omega) (fun d hd => Nat.le_trans (HV3.out d hd) (by omega)) (by omega) (by omega) (by omega)).mono ?_); rintro e w2 ⟨v4, rfl, ⟨B, d, B', d', os, B2, d2, B3, d3, rfl, o4⟩, hB⟩; (have z_hB := Below.size hB); (try simp only [World.size_alloc, World.size_setCell, World.size_drew, World.heap_drewN] at z_hB); have Y2 : Below W0.heap.size W0 w2 := blw_; clear hB; clear Y a0 a1 a2 a3 b0 b1 b2 b3 r0 r1 r2 r3 rf0 rf1 rf2 rf3; have Y := Y2; clear Y2; have sY := Y.size; obtain ⟨a0, a1, a2, a3, b0, b1, b2, b3⟩ := HF0.out _ Y; obtain ⟨r0, r1, r2, r3, rf⟩ := HG0.out _ Y; have rf0 := rf 0; have rf1 := rf 1; have rf2 := rf 2; have rf3 := rf 3; clear rf); obtain ⟨wx, rfl⟩ : ∃ wx, wx = w2 := ⟨_, rfl⟩; have hx0 : w.heap.size < wx.heap.size := (by omega); have hx1 : w.heap.size + 1 < wx.heap.size := (by omega); have hlo4 : ∀ b ∈ hblks B os B' ++ blk B2 ++ blk B3, W0.heap.size ≤ b := (fun b hb => by have h7 := o4.2.2.2.2.2.1 b hb; (try simp only [World.size_alloc, World.size_setCell, World.size_drew, World.heap_drewN] at h7); omega); have HPX := Lib.hid (PTx.mk_ (p := p) o4.1 o4.2.1 o4.2.2.1 o4.2.2.2.1 o4.2.2.2.2.1 hlo4 (by omega) (by omega) sY 45); clear o4 hlo4; go_wp2_with fail; ((with_reducible refine (l10Place_any _ p.store _ ((hh0.below blw_).rh _ _) (by omega)).mono ?_); rintro e w2 ⟨rfl, hB⟩; have HP1 := Lib.hid (HPX.out.below hB); (have z_hB := Below.size hB); (try simp only [World.size_alloc, World.size_setCell, World.size_drew, World.heap_drewN] at z_hB); have Y2 : Below W0.heap.size W0 w2 := blw_; clear hB; clear Y a0 a1 a2 a3 b0 b1 b2 b3 r0 r1 r2 r3 rf0 rf1 rf2 rf3; have Y := Y2; clear Y2; have sY := Y.size; obtain ⟨a0, a1, a2, a3, b0, b1, b2, b3⟩ := HF0.out _ Y; obtain ⟨r0, r1, r2, r3, rf⟩ := HG0.out _ Y; have rf0 := rf 0; have rf1 := rf 1; have rf2 := rf 2; have rf3 := rf 3; clear rf); obtain ⟨wz, rfl⟩ : ∃ wz, wz = w2 := ⟨_, rfl⟩; go_wp2_with fail; ((with_reducible refine (specCommandPossible_any _ p.store ⟨op, oa, ob, oc⟩ _ ((hh0.below blw_).rh _ _)).mono ?_); rw [HP.out]; rintro e w2 ⟨rfl, hB⟩; have HP2 := Lib.hid (HP1.out.below hB); (have z_hB := Below.size hB); (try simp only [World.size_alloc, World.size_setCell, World.size_drew, World.heap_drewN] at z_hB); have Y2 : Below W0.heap.size W0 w2 := blw_; clear hB; clear Y a0 a1 a2 a3 b0 b1 b2 b3 r0 r1 r2 r3 rf0 rf1 rf2 rf3; have Y := Y2; clear Y2; have sY := Y.size; obtain ⟨a0, a1, a2, a3, b0, b1, b2, b3⟩ := HF0.out _ Y; obtain ⟨r0, r1, r2, r3, rf⟩ := HG0.out _ Y; have rf0 := rf 0; have rf1 := rf 1; have rf2 := rf 2; have rf3 := rf 3; clear rf); have q0 := HP2.out.q0; have q1 := HP2.out.q1; have q2 := HP2.out.q2; have q3 := HP2.out.q3
    obtain ⟨wy, rfl⟩ : ∃ wy, wy = w2 := ⟨_, rfl⟩
    have hgx : W0.heap.size ≤ wx.heap.size := HP2.out.lo_
    have hgl := HP2.out.lt
    have hnx0 : wx.heap.size ≠ w.heap.size := by omega
    have hnx1 : w.heap.size ≠ wx.heap.size := by omega
    have hnx2 : wx.heap.size ≠ w.heap.size + 1 := by omega
    have hnx3 : w.heap.size + 1 ≠ wx.heap.size := by omega
    have hnx4 : wx.heap.size ≠ w.heap.size + 2 := by omega
    have hnx5 : w.heap.size + 2 ≠ wx.heap.size := by omega
    go_upto_region 7 with fail
    go_cut [7] (fun s7 wc => s7 = .int .i64 (freeAt p.store.cells : Int) ∧ ∃ E f E' f' os5, PTx W0.heap.size wc wx.heap.size ⟨execM p.store ⟨op, oa, ob, oc⟩ (freeAt p.store.cells), p.x, p.y⟩ E f E' f' os5 B2 d2 B3 d3 ∧ Below W0.heap.size W0 wc)
    case first =>
      go_wp2_with fail
      (with_reducible refine (do_any _ p.store ⟨op, oa, ob, oc⟩ (freeAt p.store.cells) _ ((hh0.below blw_).rh _ _) HVS.out HO.out HPO.out (freeAt_le _)).mono ?_)
      rintro e w2 ⟨v4, rfl, ⟨E, f, E', f', os5, rfl, o5⟩, hB4⟩
      (have z_hB4 := Below.size hB4); (try simp only [World.size_alloc, World.size_setCell, World.size_drew, World.heap_drewN] at z_hB4)
      have Z2 : Below wy.heap.size wy w2 := blw_
      clear hB4
      have t0 := cell_below HP2.out.q0 Z2
      have t1 := cell_below HP2.out.q1 Z2
      have tf0 := ((bcell Z2).2.1 _ _ hgl).trans (HP2.out.qf 0)
      have tf1 := ((bcell Z2).2.1 _ _ hgl).trans (HP2.out.qf 1)
      have hlo5 : ∀ b ∈ hblks E os5 E', wy.heap.size ≤ b := fun b hb => by have h7 := o5.2.2 b hb; (try simp only [World.size_alloc, World.size_setCell, World.size_drew, World.heap_drewN] at h7); omega
      have hPA := HP2.out.heap_ (h' := execM p.store ⟨op, oa, ob, oc⟩ (freeAt p.store.cells)) Z2 o5.1 o5.2.1 hlo5
      have hBA := ((Y.trans (Z2.mono sY)).setCell (p := ⟨wx.heap.size, 0, none⟩) hgx (.slice E (execM p.store ⟨op, oa, ob, oc⟩ (freeAt p.store.cells)).cells.length f)).setCell (p := ⟨wx.heap.size, 1, none⟩) hgx (.slice E' (execM p.store ⟨op, oa, ob, oc⟩ (freeAt p.store.cells)).roots.length f')
      have HPA := Lib.hid hPA
      have HBA := Lib.hid hBA
      clear hPA hBA
      go_wp2_with fail
      go_meet
      exact ⟨rfl, E, f, E', f', os5, HPA.out, HBA.out⟩
    case rest =>
      obtain ⟨rfl, E, f, E', f', os5, hPA, hBA⟩ := hcut
      obtain ⟨wa, rfl⟩ : ∃ x, x = wc := ⟨_, rfl⟩
      clear a0 a1 a2 a3 b0 b1 b2 b3 r0 r1 r2 r3 rf0 rf1 rf2 rf3 Y sY HP1 HP2 HPX q0 q1 q2 q3
      have Y := hBA
      have sY := Y.size
      obtain ⟨a0, a1, a2, a3, b0, b1, b2, b3⟩ := HF0.out _ Y; obtain ⟨r0, r1, r2, r3, rf⟩ := HG0.out _ Y; have rf0 := rf 0; have rf1 := rf 1; have rf2 := rf 2; have rf3 := rf 3; clear rf
      have q0 := hPA.q0
      have q1 := hPA.q1
      have q2 := hPA.q2
      have q3 := hPA.q3
      have qf2 := hPA.qf 2
      have qf3 := hPA.qf 3
      have hga := hPA.lt
      have ng2 := hPA.g2
      have hl2 := hPA.l2
      have HPA := Lib.hid hPA
      clear hPA hBA
      go_wp2_with fail
      have X := hW0.trans (Y.mono hW0.size)
      refine bodyPost_ret (v := .tuple #[.agg #[.slice E (execM p.store ⟨op, oa, ob, oc⟩ (freeAt p.store.cells)).cells.length f, .slice E' (execM p.store ⟨op, oa, ob, oc⟩ (freeAt p.store.cells)).roots.length f', .slice B2 p.x.length d2, .slice B3 p.y.length d3], .bool true]) (by simp [results, Try.results54, go_sem, r0, r1, r2, r3]) rfl ⟨_, by rw [HE.out], ?_, blw_⟩
      rw [HE.out]
      exact ((((HPA.out.opt.setlt (by simp; omega) _).setlt (by simp; omega) _).setlt (by simp; omega) _).setlt (by simp; omega) _).lo_ (by omega)
end Go.Proofs.Ytmlgndeihfpfgaa
