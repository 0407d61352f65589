/- StepAged of the reference, for a possible OpSet. -/
import Derived.Test.YtmlgndeihfpfgaaChecked
import Derived.Deep.RegionHeld3
import Derived.Deep.DeepCutAuto
import Derived.Test.YtmlgndeihfpfgaaGrKeep
import Derived.Test.YtmlgndeihfpfgaaGrSnap
import Derived.Test.YtmlgndeihfpfgaaGrCopy
import Derived.Test.YtmlgndeihfpfgaaGrExecS
import Derived.Test.YtmlgndeihfpfgaaGrCmd
import Derived.Test.YtmlgndeihfpfgaaGrStep
namespace Go.Proofs.Ytmlgndeihfpfgaa
open Go.RowKit
set_option maxRecDepth 100000
set_option linter.unusedSimpArgs false
set_option linter.unusedVariables false
theorem note_set {p : TwoM} {o : CmdM} {n : Nat} {yb : Bool} (h3 : o.op = 3) (hn : (rootAt p.store o.a).toNat = n) (hy : p.y[n]? = some yb) : p.y.set n (yb || noteB p o) = noteM p o := by
  unfold noteM
  rcases bool_ft (noteB p o) with e | e
  · rw [e, if_neg (by simp), Bool.or_false]
    obtain ⟨hl, rfl⟩ := List.getElem?_eq_some_iff.1 hy
    exact List.set_getElem_self hl
  · rw [e, if_pos ⟨h3, rfl⟩, hn, Bool.or_true]

set_option maxHeartbeats 8000000 in
theorem specStepAged_op3 (v : Value) (p : TwoM) (o : CmdM) (w : World) (hv : RTw w v p) (hsel : o.op = 3 ∧ agedM p = true ∧ cmdOk o = true ∧ possO p.store o = true) :
    Calls Try.prog 54 #[v, .agg #[.int .i64 o.op, .int .i64 o.a, .int .i64 o.b, .int .i64 o.c]] w fun e w' => ∃ v', e = .returned (.tuple #[v', .bool (agedCmdM p o).2]) ∧ OTw w.heap.size w' v' (agedCmdM p o).1 ∧ Below w.heap.size w w' := by
  have hv00 := hv
  obtain ⟨A, c, A', c', A2, c2, A3, c3, rfl, hh, hx, -, -, -⟩ := hv
  obtain ⟨op, oa, ob, oc⟩ := o
  dsimp only
  have HF0 : Hid (∀ W, Below ((((w.alloc (.cells #[.slice A p.store.cells.length c, .slice A' p.store.roots.length c', .slice A2 p.x.length c2, .slice A3 p.y.length c3] 45)).alloc (.cells #[.int .i64 op, .int .i64 oa, .int .i64 ob, .int .i64 oc] 62)).alloc (.cells #[.slice none 0 0, .slice none 0 0, .slice none 0 0, .slice none 0 0] 45))).heap.size ((((w.alloc (.cells #[.slice A p.store.cells.length c, .slice A' p.store.roots.length c', .slice A2 p.x.length c2, .slice A3 p.y.length c3] 45)).alloc (.cells #[.int .i64 op, .int .i64 oa, .int .i64 ob, .int .i64 oc] 62)).alloc (.cells #[.slice none 0 0, .slice none 0 0, .slice none 0 0, .slice none 0 0] 45))) W → (W.cell? ⟨w.heap.size, 0, none⟩ = some (.slice A p.store.cells.length c) ∧ W.cell? ⟨w.heap.size, 1, none⟩ = some (.slice A' p.store.roots.length c') ∧ W.cell? ⟨w.heap.size, 2, none⟩ = some (.slice A2 p.x.length c2) ∧ W.cell? ⟨w.heap.size, 3, none⟩ = some (.slice A3 p.y.length c3) ∧ W.cell? ⟨w.heap.size + 1, 0, none⟩ = some (.int .i64 op) ∧ W.cell? ⟨w.heap.size + 1, 1, none⟩ = some (.int .i64 oa) ∧ W.cell? ⟨w.heap.size + 1, 2, none⟩ = some (.int .i64 ob) ∧ W.cell? ⟨w.heap.size + 1, 3, none⟩ = some (.int .i64 oc))) := fun W hW => ⟨cell_below (by simp [go_sem]) hW, cell_below (by simp [go_sem]) hW, cell_below (by simp [go_sem]) hW, cell_below (by simp [go_sem]) hW, cell_below (by simp [go_sem]) hW, cell_below (by simp [go_sem]) hW, cell_below (by simp [go_sem]) hW, cell_below (by simp [go_sem]) hW⟩
  have HG0 : Hid (∀ W, Below ((((w.alloc (.cells #[.slice A p.store.cells.length c, .slice A' p.store.roots.length c', .slice A2 p.x.length c2, .slice A3 p.y.length c3] 45)).alloc (.cells #[.int .i64 op, .int .i64 oa, .int .i64 ob, .int .i64 oc] 62)).alloc (.cells #[.slice none 0 0, .slice none 0 0, .slice none 0 0, .slice none 0 0] 45))).heap.size ((((w.alloc (.cells #[.slice A p.store.cells.length c, .slice A' p.store.roots.length c', .slice A2 p.x.length c2, .slice A3 p.y.length c3] 45)).alloc (.cells #[.int .i64 op, .int .i64 oa, .int .i64 ob, .int .i64 oc] 62)).alloc (.cells #[.slice none 0 0, .slice none 0 0, .slice none 0 0, .slice none 0 0] 45))) W → (W.cell? ⟨w.heap.size + 2, 0, none⟩ = some (.slice none 0 0) ∧ W.cell? ⟨w.heap.size + 2, 1, none⟩ = some (.slice none 0 0) ∧ W.cell? ⟨w.heap.size + 2, 2, none⟩ = some (.slice none 0 0) ∧ W.cell? ⟨w.heap.size + 2, 3, none⟩ = some (.slice none 0 0) ∧ ∀ o, W.frozen? ⟨w.heap.size + 2, o, none⟩ = false)) := fun W hW => ⟨cell_below (by simp [go_sem]) hW, cell_below (by simp [go_sem]) hW, cell_below (by simp [go_sem]) hW, cell_below (by simp [go_sem]) hW, fun o => ((bcell hW).2.1 _ _ (by simp)).trans (by simp [go_sem])⟩
  have hz0 : ((((w.alloc (.cells #[.slice A p.store.cells.length c, .slice A' p.store.roots.length c', .slice A2 p.x.length c2, .slice A3 p.y.length c3] 45)).alloc (.cells #[.int .i64 op, .int .i64 oa, .int .i64 ob, .int .i64 oc] 62)).alloc (.cells #[.slice none 0 0, .slice none 0 0, .slice none 0 0, .slice none 0 0] 45))).heap.size = w.heap.size + 3 := by simp
  have hW0 : Below w.heap.size w ((((w.alloc (.cells #[.slice A p.store.cells.length c, .slice A' p.store.roots.length c', .slice A2 p.x.length c2, .slice A3 p.y.length c3] 45)).alloc (.cells #[.int .i64 op, .int .i64 oa, .int .i64 ob, .int .i64 oc] 62)).alloc (.cells #[.slice none 0 0, .slice none 0 0, .slice none 0 0, .slice none 0 0] 45))) := blw_
  have hv0 := hv00.below hW0
  have hh0 := hh.below hW0
  have HX0 := Lib.hid (hx.below hW0)
  clear hv00 hh hx
  obtain ⟨hs1, hva, hok, hps⟩ := hsel
  replace hs1 : op = 3 := hs1
  have HV := Lib.hid hva
  obtain ⟨hvs, hxl, hyl⟩ := agedM_parts hva
  have HVS := Lib.hid hvs
  obtain ⟨v1, v2, v3⟩ := valid_small hvs
  have v2' : p.store.roots.length ≤ 4 := by omega
  have HV3 := Lib.hid v3
  have HV2 := Lib.hid v2
  have x40 : p.x.length ≤ 40 := by omega
  have y40 : p.y.length ≤ 40 := by omega
  have HXL := Lib.hid hxl
  have HYL := Lib.hid hyl
  clear v2 v3 hvs hxl hyl
  have HO := Lib.hid hok
  have h40 := freeAt_le p.store.cells
  have HP := Lib.hid (possO_hid hps HVS.out hok)
  have HPO := Lib.hid hps
  have hop : ¬ op = 1 := by omega
  have hcf : canF p.store ⟨op, oa, ob, oc⟩ = true := canF_old hps hop
  have HCS := Lib.hid (aged_cases (o := ⟨op, oa, ob, oc⟩) hva hok)
  have HCF := Lib.hid hcf
  have hfull : True := trivial
  clear hcf
  rcases HCS.out with h | ⟨-, -, hgr, -, -⟩ | ⟨-, -, hgr, hE⟩
  · rw [HCF.out] at h; cases h.1
  · unfold growB at hgr; simp [hop] at hgr
  have hop3 : op = 3 := hs1
  clear hs1
  subst hop3
  have HE := Lib.hid hE
  clear hE hgr hva hok hfull hop
  obtain ⟨-, -, c0, c3, d0, d3, -, -⟩ := cmdOk_parts HO.out
  dsimp only at c0 c3 d0 d3
  have d3' : ob ≤ 3 := d3
  have hr4 := HV2.out
  obtain ⟨ra, hra⟩ : ∃ ra, p.store.roots[oa.toNat]? = some ra := ⟨_, List.getElem?_eq_getElem (by omega)⟩
  obtain ⟨rb, hrb⟩ : ∃ rb, p.store.roots[ob.toNat]? = some rb := ⟨_, List.getElem?_eq_getElem (by omega)⟩
  have era : rootAt p.store oa = ra := by unfold rootAt; rw [hra]
  have erb : rootAt p.store ob = rb := by unfold rootAt; rw [hrb]
  have hrA : 0 ≤ ra := by
    unfold possO placeOk at hps
    simp [era] at hps
    exact hps.1
  obtain ⟨n, rfl⟩ := Int.eq_ofNat_of_zero_le hrA
  have hnc : n < p.x.length := by have := (validM_lt HVS.out).2 _ (List.mem_of_getElem? hra); have := HXL.out; omega
  have hny : n < p.y.length := by have := HXL.out; have := HYL.out; omega
  have hrb2 : rb < p.x.length := by have := (validM_lt HVS.out).2 _ (List.mem_of_getElem? hrb); have := HXL.out; omega
  obtain ⟨xb, hxb⟩ : ∃ b, p.x[n]? = some b := ⟨_, List.getElem?_eq_getElem hnc⟩
  obtain ⟨yb, hyb⟩ : ∃ b, p.y[n]? = some b := ⟨_, List.getElem?_eq_getElem hny⟩
  have hxd : p.x.getD n false = xb := by rw [List.getD, hxb]; rfl
  have HNS : Hid (∀ val, val = (yb || (xb && (decide (0 ≤ rb) && !p.x.getD rb.toNat false))) → p.y.set n val = noteM p ⟨3, oa, ob, oc⟩) := fun val hval => by
    rw [hval, ← note_set (p := p) (o := ⟨3, oa, ob, oc⟩) rfl (by show (rootAt p.store oa).toNat = n; rw [era]; simp) hyb]
    congr 2
    unfold noteB youngRef
    show _ = (p.x.getD (rootAt p.store oa).toNat false && _)
    rw [era, erb, Int.toNat_natCast, hxd]
  have HRA := Lib.hid hra
  have HRB := Lib.hid hrb
  have HXB := Lib.hid hxb
  have HYB := Lib.hid hyb
  clear hra hrb era erb hxb hyb hxd hps c3 d3 d3' hr4 hrA
  go_enter Try.func54, Try.ntmps54; go_wp2_with fail; generalize ((((w.alloc (.cells #[.slice A p.store.cells.length c, .slice A' p.store.roots.length c', .slice A2 p.x.length c2, .slice A3 p.y.length c3] 45)).alloc (.cells #[.int .i64 3, .int .i64 oa, .int .i64 ob, .int .i64 oc] 62)).alloc (.cells #[.slice none 0 0, .slice none 0 0, .slice none 0 0, .slice none 0 0] 45))) = W0 at *; have Y := Below.refl W0.heap.size W0; have sY := Y.size; obtain ⟨a0, a1, a2, a3, b0, b1, b2, b3⟩ := HF0.out _ Y; obtain ⟨r0, r1, r2, r3, rf⟩ := HG0.out _ Y; have rf0 := rf 0; have rf1 := rf 1; have rf2 := rf 2; have rf3 := rf 3; clear rf; ((with_reducible refine (specAgedValid_any _ p _ (hv0.below blw_)).mono ?_); rw [HV.out]; rintro e w2 ⟨rfl, hB⟩; (have z_hB := Below.size hB); (try simp only [World.size_alloc, World.size_setCell, World.size_drew, World.heap_drewN] at z_hB); have Y2 : Below W0.heap.size W0 w2 := blw_; clear hB; clear Y a0 a1 a2 a3 b0 b1 b2 b3 r0 r1 r2 r3 rf0 rf1 rf2 rf3; have Y := Y2; clear Y2; have sY := Y.size; obtain ⟨a0, a1, a2, a3, b0, b1, b2, b3⟩ := HF0.out _ Y; obtain ⟨r0, r1, r2, r3, rf⟩ := HG0.out _ Y; have rf0 := rf 0; have rf1 := rf 1; have rf2 := rf 2; have rf3 := rf 3; clear rf); go_wp2_with fail; ((with_reducible refine (specCommandValid_any ⟨3, oa, ob, oc⟩ _).mono ?_); rw [HO.out]; rintro e w2 ⟨rfl, hB⟩; (have z_hB := Below.size hB); (try simp only [World.size_alloc, World.size_setCell, World.size_drew, World.heap_drewN] at z_hB); have Y2 : Below W0.heap.size W0 w2 := blw_; clear hB; clear Y a0 a1 a2 a3 b0 b1 b2 b3 r0 r1 r2 r3 rf0 rf1 rf2 rf3; have Y := Y2; clear Y2; have sY := Y.size; obtain ⟨a0, a1, a2, a3, b0, b1, b2, b3⟩ := HF0.out _ Y; obtain ⟨r0, r1, r2, r3, rf⟩ := HG0.out _ Y; have rf0 := rf 0; have rf1 := rf 1; have rf2 := rf 2; have rf3 := rf 3; clear rf); go_wp2_with fail; ((with_reducible refine (l17Copy_any _ p _ (hv0.below blw_) (by omega) (fun d hd => Nat.le_trans (HV3.out d hd) (by omega)) (by omega) (by omega) (by omega)).mono ?_); rintro e w2 ⟨v4, rfl, ⟨B, d, B', d', os, B2, d2, B3, d3, rfl, o4⟩, hB⟩; (have z_hB := Below.size hB); (try simp only [World.size_alloc, World.size_setCell, World.size_drew, World.heap_drewN] at z_hB); have Y2 : Below W0.heap.size W0 w2 := blw_; clear hB; clear Y a0 a1 a2 a3 b0 b1 b2 b3 r0 r1 r2 r3 rf0 rf1 rf2 rf3; have Y := Y2; clear Y2; have sY := Y.size; obtain ⟨a0, a1, a2, a3, b0, b1, b2, b3⟩ := HF0.out _ Y; obtain ⟨r0, r1, r2, r3, rf⟩ := HG0.out _ Y; have rf0 := rf 0; have rf1 := rf 1; have rf2 := rf 2; have rf3 := rf 3; clear rf); obtain ⟨wx, rfl⟩ : ∃ wx, wx = w2 := ⟨_, rfl⟩; have hx0 : w.heap.size < wx.heap.size := (by omega); have hx1 : w.heap.size + 1 < wx.heap.size := (by omega); have hlo4 : ∀ b ∈ hblks B os B' ++ blk B2 ++ blk B3, W0.heap.size ≤ b := (fun b hb => by have h7 := o4.2.2.2.2.2.1 b hb; (try simp only [World.size_alloc, World.size_setCell, World.size_drew, World.heap_drewN] at h7); omega); have HPX := Lib.hid (PTx.mk_ (p := p) o4.1 o4.2.1 o4.2.2.1 o4.2.2.2.1 o4.2.2.2.2.1 hlo4 (by omega) (by omega) sY 45); clear o4 hlo4; go_wp2_with fail; ((with_reducible refine (l10Place_any _ p.store _ ((hh0.below blw_).rh _ _) (by omega)).mono ?_); rintro e w2 ⟨rfl, hB⟩; have HP1 := Lib.hid (HPX.out.below hB); (have z_hB := Below.size hB); (try simp only [World.size_alloc, World.size_setCell, World.size_drew, World.heap_drewN] at z_hB); have Y2 : Below W0.heap.size W0 w2 := blw_; clear hB; clear Y a0 a1 a2 a3 b0 b1 b2 b3 r0 r1 r2 r3 rf0 rf1 rf2 rf3; have Y := Y2; clear Y2; have sY := Y.size; obtain ⟨a0, a1, a2, a3, b0, b1, b2, b3⟩ := HF0.out _ Y; obtain ⟨r0, r1, r2, r3, rf⟩ := HG0.out _ Y; have rf0 := rf 0; have rf1 := rf 1; have rf2 := rf 2; have rf3 := rf 3; clear rf); obtain ⟨wz, rfl⟩ : ∃ wz, wz = w2 := ⟨_, rfl⟩; go_wp2_with fail; ((with_reducible refine (specCommandPossible_any _ p.store ⟨3, oa, ob, oc⟩ _ ((hh0.below blw_).rh _ _)).mono ?_); rw [HP.out]; rintro e w2 ⟨rfl, hB⟩; have HP2 := Lib.hid (HP1.out.below hB); (have z_hB := Below.size hB); (try simp only [World.size_alloc, World.size_setCell, World.size_drew, World.heap_drewN] at z_hB); have Y2 : Below W0.heap.size W0 w2 := blw_; clear hB; clear Y a0 a1 a2 a3 b0 b1 b2 b3 r0 r1 r2 r3 rf0 rf1 rf2 rf3; have Y := Y2; clear Y2; have sY := Y.size; obtain ⟨a0, a1, a2, a3, b0, b1, b2, b3⟩ := HF0.out _ Y; obtain ⟨r0, r1, r2, r3, rf⟩ := HG0.out _ Y; have rf0 := rf 0; have rf1 := rf 1; have rf2 := rf 2; have rf3 := rf 3; clear rf); have q0 := HP2.out.q0; have q1 := HP2.out.q1; have q2 := HP2.out.q2; have q3 := HP2.out.q3
  obtain ⟨wy, rfl⟩ : ∃ wy, wy = w2 := ⟨_, rfl⟩
  have hgx : W0.heap.size ≤ wx.heap.size := HP2.out.lo_
  have hgl := HP2.out.lt
  have hnx0 : wx.heap.size ≠ w.heap.size := by omega
  have hnx1 : w.heap.size ≠ wx.heap.size := by omega
  have hnx2 : wx.heap.size ≠ w.heap.size + 1 := by omega
  have hnx3 : w.heap.size + 1 ≠ wx.heap.size := by omega
  have hnx4 : wx.heap.size ≠ w.heap.size + 2 := by omega
  have hnx5 : w.heap.size + 2 ≠ wx.heap.size := by omega
  go_upto_region 7 with fail
  go_cut [7] (fun s7 wc => s7 = .int .i64 (freeAt p.store.cells : Int) ∧ ∃ E f E' f' os5, PTx W0.heap.size wc wx.heap.size ⟨execM p.store ⟨3, oa, ob, oc⟩ (freeAt p.store.cells), p.x, p.y⟩ E f E' f' os5 B2 d2 B3 d3 ∧ Below W0.heap.size W0 wc)
  case first =>
    go_wp2_with fail
    (with_reducible refine (do_any _ p.store ⟨3, oa, ob, oc⟩ (freeAt p.store.cells) _ ((hh0.below blw_).rh _ _) HVS.out HO.out HPO.out (freeAt_le _)).mono ?_)
    rintro e w2 ⟨v4, rfl, ⟨E, f, E', f', os5, rfl, o5⟩, hB4⟩
    (have z_hB4 := Below.size hB4); (try simp only [World.size_alloc, World.size_setCell, World.size_drew, World.heap_drewN] at z_hB4)
    have Z2 : Below wy.heap.size wy w2 := blw_
    clear hB4
    have t0 := cell_below HP2.out.q0 Z2
    have t1 := cell_below HP2.out.q1 Z2
    have tf0 := ((bcell Z2).2.1 _ _ hgl).trans (HP2.out.qf 0)
    have tf1 := ((bcell Z2).2.1 _ _ hgl).trans (HP2.out.qf 1)
    have hlo5 : ∀ b ∈ hblks E os5 E', wy.heap.size ≤ b := fun b hb => by have h7 := o5.2.2 b hb; (try simp only [World.size_alloc, World.size_setCell, World.size_drew, World.heap_drewN] at h7); omega
    have hPA := HP2.out.heap_ (h' := execM p.store ⟨3, oa, ob, oc⟩ (freeAt p.store.cells)) Z2 o5.1 o5.2.1 hlo5
    have hBA := ((Y.trans (Z2.mono sY)).setCell (p := ⟨wx.heap.size, 0, none⟩) hgx (.slice E (execM p.store ⟨3, oa, ob, oc⟩ (freeAt p.store.cells)).cells.length f)).setCell (p := ⟨wx.heap.size, 1, none⟩) hgx (.slice E' (execM p.store ⟨3, oa, ob, oc⟩ (freeAt p.store.cells)).roots.length f')
    have HPA := Lib.hid hPA
    have HBA := Lib.hid hBA
    clear hPA hBA
    go_wp2_with fail
    go_meet
    exact ⟨rfl, E, f, E', f', os5, HPA.out, HBA.out⟩
  case rest =>
    obtain ⟨rfl, E, f, E', f', os5, hPA, hBA⟩ := hcut
    obtain ⟨wa, rfl⟩ : ∃ x, x = wc := ⟨_, rfl⟩
    clear a0 a1 a2 a3 b0 b1 b2 b3 r0 r1 r2 r3 rf0 rf1 rf2 rf3 Y sY HP1 HP2 HPX q0 q1 q2 q3
    have Y := hBA
    have sY := Y.size
    obtain ⟨a0, a1, a2, a3, b0, b1, b2, b3⟩ := HF0.out _ Y; obtain ⟨r0, r1, r2, r3, rf⟩ := HG0.out _ Y; have rf0 := rf 0; have rf1 := rf 1; have rf2 := rf 2; have rf3 := rf 3; clear rf
    have q0 := hPA.q0
    have q1 := hPA.q1
    have q2 := hPA.q2
    have q3 := hPA.q3
    have qf2 := hPA.qf 2
    have qf3 := hPA.qf 3
    have hga := hPA.lt
    have ng2 := hPA.g2
    have hl2 := hPA.l2
    have HPA := Lib.hid hPA
    clear hPA hBA
    have hHW := hh0.below Y
    have ha4 : oa.toNat < p.store.roots.length := (List.getElem?_eq_some_iff.1 HRA.out).1
    have hb4 : ob.toNat < p.store.roots.length := (List.getElem?_eq_some_iff.1 HRB.out).1
    obtain ⟨k1, o1, x1, rfl, g1, m1, k1l⟩ := hHW.roots.at_ ha4
    rw [HRA.out] at g1
    injection g1 with g1
    subst g1
    obtain ⟨k2, o2, x2, e2, g2, m2, -⟩ := hHW.roots.at_ hb4
    rw [HRB.out] at g2
    injection g2 with g2
    subst g2
    injection e2 with e2
    injection e2 with e21 e22
    subst e21
    subst e22
    have n1 : wa.cell? ⟨k1, o1 + oa.toNat, none⟩ = some (.int .i64 (n : Int)) := m1
    have n2 : wa.cell? ⟨k1, o1 + ob.toNat, none⟩ = some (.int .i64 rb) := m2
    clear m1 m2
    have hXW := HX0.out.below Y
    obtain ⟨k3, o3, x3, rfl, g3, m3, k3l⟩ := hXW.at_ hnc
    rw [HXB.out] at g3
    injection g3 with g3
    subst g3
    have n3 : wa.cell? ⟨k3, o3 + n, none⟩ = some (.bool xb) := m3
    clear m3
    have HXW := Lib.hid hXW
    obtain ⟨gy, hgy, -⟩ := HPA.out.ys.some_ (j := n) hny
    subst hgy
    have m4 : wa.cell? ⟨gy, n, none⟩ = some (.bool yb) := HPA.out.ys.cell HYB.out
    have f4 := HPA.out.ys.frozen n
    have hoa : oa < (p.store.roots.length : Int) := by omega
    have hob : ob < (p.store.roots.length : Int) := by omega
    have hgyx : gy ≠ wx.heap.size := fun e => HPA.out.g3 (by simp [blk, e])
    have hgyx2 : wx.heap.size ≠ gy := hgyx.symm
    have hgyW : W0.heap.size ≤ gy := HPA.out.los4 gy (List.mem_append_right _ (by simp [blk]))
    have hgy2 : gy ≠ w.heap.size + 2 := by omega
    have hgy3 : w.heap.size + 2 ≠ gy := by omega
    have HSET : Hid (∀ val, PTx W0.heap.size (wa.setCell ⟨gy, n, none⟩ (.bool val)) wx.heap.size ⟨execM p.store ⟨3, oa, ob, oc⟩ (freeAt p.store.cells), p.x, p.y.set n val⟩ E f E' f' os5 B2 d2 (some ⟨gy, 0, none⟩) d3) := fun val => HPA.out.lists (HPA.out.xs.ne_ (HPA.out.d2 gy (by simp [blk]))) (HPA.out.ys.set_ n val) rfl (by simp) ((Only.refl _ _).setCell (.inl (List.mem_append_right _ (by simp [blk]))) _)
    clear hHW hXW HPA
    have hcases : (yb = true) ∨ (yb = false ∧ xb = false) ∨ (yb = false ∧ xb = true ∧ rb < 0) ∨ (yb = false ∧ xb = true ∧ 0 ≤ rb ∧ p.x[rb.toNat]? = some true) ∨ (yb = false ∧ xb = true ∧ 0 ≤ rb ∧ p.x[rb.toNat]? = some false) := by
      rcases bool_ft yb with e1 | e1
      · rcases bool_ft xb with e2 | e2
        · exact .inr (.inl ⟨e1, e2⟩)
        · rcases Classical.em (rb < 0) with e3 | e3
          · exact .inr (.inr (.inl ⟨e1, e2, e3⟩))
          · have h9 := List.getElem?_eq_getElem (l := p.x) (i := rb.toNat) (by omega)
            rcases bool_ft (p.x[rb.toNat]'(by omega)) with e4 | e4
            · exact .inr (.inr (.inr (.inr ⟨e1, e2, by omega, by rw [h9, e4]⟩)))
            · exact .inr (.inr (.inr (.inl ⟨e1, e2, by omega, by rw [h9, e4]⟩)))
      · exact .inl e1
    rcases hcases with rfl | ⟨rfl, rfl⟩ | ⟨rfl, rfl, h0⟩ | ⟨rfl, rfl, h0, hz⟩ | ⟨rfl, rfl, h0, hz⟩
    · have HN := Lib.hid (HNS.out true (by first | rfl | (simp; done) | (simp; omega) | (simp [List.getD, hz, h0]; done) | (simp [List.getD, hz]; omega)))
      go_wp2_with fail
      refine wp_region_still_tail 28 (by kernel_rfl) (by kernel_rfl) ?_
      simp only [List.take_succ_cons, List.take_zero, List.drop_succ_cons, List.drop_zero]
      have hny2 : (n : Int) < (p.y.length : Int) := by omega
      have hn0 : (0 : Int) ≤ (n : Int) := by omega
      have hnx2 : (n : Int) < (p.x.length : Int) := by omega
      (with_reducible refine wpStill_step (fun K hK => ?_)); go_simp; (try rw [if_neg (by intro h9; cases h9)]); (with_reducible refine hK _ ?_); clear hK K
      (with_reducible refine wpStill_step (fun K hK => ?_)); go_simp; (try rw [if_neg (by intro h9; cases h9)]); (with_reducible refine hK _ ?_); clear hK K
      (with_reducible refine wpStill_step (fun K hK => ?_)); go_simp; (try rw [if_neg (by intro h9; cases h9)]); (with_reducible refine hK _ ?_); clear hK K
      (with_reducible refine wpStill_step (fun K hK => ?_)); go_simp; (try rw [if_neg (by intro h9; cases h9)]); (with_reducible refine hK _ ?_); clear hK K
      (with_reducible refine wpStill_step (fun K hK => ?_)); go_simp; (try rw [if_neg (by intro h9; cases h9)]); (with_reducible refine hK _ ?_); clear hK K
      (with_reducible refine wpStill_step (fun K hK => ?_)); go_simp; (try rw [if_neg (by intro h9; cases h9)]); (with_reducible refine hK _ ?_); clear hK K
      (with_reducible refine wpStill_step (fun K hK => ?_)); go_simp; (try rw [if_neg (by intro h9; cases h9)]); (with_reducible refine hK _ ?_); clear hK K
      (with_reducible refine wpStill_step (fun K hK => ?_)); go_simp; (try rw [if_neg (by intro h9; cases h9)]); (with_reducible refine hK _ ?_); clear hK K
      (with_reducible refine wpStill_step (fun K hK => ?_)); go_simp; (try rw [if_neg (by intro h9; cases h9)]); (with_reducible refine hK _ ?_); clear hK K
      (with_reducible refine wpStill_step (fun K hK => ?_)); go_simp; (try rw [if_neg (by intro h9; cases h9)]); (with_reducible refine hK _ ?_); clear hK K
      (with_reducible refine wpStill_step (fun K hK => ?_)); go_simp; (try rw [if_neg (by intro h9; cases h9)]); (with_reducible refine hK _ ?_); clear hK K
      (with_reducible refine wpStill_step (fun K hK => ?_)); go_simp; (try rw [if_neg (by intro h9; cases h9)]); (with_reducible refine hK _ ?_); clear hK K
      (with_reducible refine wpStill_step (fun K hK => ?_)); go_simp; (try rw [if_neg (by intro h9; cases h9)]); (with_reducible refine hK _ ?_); clear hK K
      (with_reducible refine wpStill_step (fun K hK => ?_)); go_simp; (try rw [if_neg (by intro h9; cases h9)]); (with_reducible refine hK _ ?_); clear hK K
      (with_reducible refine wpStill_step (fun K hK => ?_)); go_simp; (try rw [if_neg (by intro h9; cases h9)]); (with_reducible refine hK _ ?_); clear hK K
      (with_reducible refine wpStill_step (fun K hK => ?_)); go_simp; (try rw [if_neg (by intro h9; cases h9)]); (with_reducible refine hK _ ?_); clear hK K
      (with_reducible refine wpStill_step (fun K hK => ?_)); go_simp; (try rw [if_neg (by intro h9; cases h9)]); (with_reducible refine hK _ ?_); clear hK K
      (with_reducible refine wpStill_step (fun K hK => ?_)); go_simp; (try rw [if_neg (by intro h9; cases h9)]); (with_reducible refine hK _ ?_); clear hK K
      (with_reducible refine wpStill_step (fun K hK => ?_)); go_simp; (try rw [if_neg (by intro h9; cases h9)]); (with_reducible refine hK _ ?_); clear hK K
      (with_reducible refine wpStill_step (fun K hK => ?_)); go_simp; (try rw [if_neg (by intro h9; cases h9)]); (with_reducible refine hK _ ?_); clear hK K
      (with_reducible refine wpStill_step (fun K hK => ?_)); go_simp; (try rw [if_neg (by intro h9; cases h9)]); (with_reducible refine hK _ ?_); clear hK K
      (with_reducible refine wpStill_step (fun K hK => ?_)); go_simp; (try rw [if_neg (by intro h9; cases h9)]); (with_reducible refine hK _ ?_); clear hK K
      (with_reducible refine wpStill_step (fun K hK => ?_)); go_simp; (try rw [if_neg (by intro h9; cases h9)]); (with_reducible refine hK _ ?_); clear hK K
      (with_reducible refine wpStill_step (fun K hK => ?_)); go_simp; (try rw [if_neg (by intro h9; cases h9)]); (with_reducible refine hK _ ?_); clear hK K
      (with_reducible refine wpStill_step (fun K hK => ?_)); go_simp; (try rw [if_neg (by intro h9; cases h9)]); (with_reducible refine hK _ ?_); clear hK K
      (with_reducible refine wpStill_step (fun K hK => ?_)); go_simp; (try rw [if_neg (by intro h9; cases h9)]); (with_reducible refine hK _ ?_); clear hK K
      (with_reducible refine wpStill_step (fun K hK => ?_)); go_simp; (try rw [if_neg (by intro h9; cases h9)]); (with_reducible refine hK _ ?_); clear hK K
      (with_reducible refine wpStill_step (fun K hK => ?_)); go_simp; (try rw [if_neg (by intro h9; cases h9)]); (with_reducible refine hK _ ?_); clear hK K
      refine wpStill_nil ?_
      change wpList _ _ _ _ _ wa.drew
      have hPS := (HSET.out true).below (w' := (wa.setCell ⟨gy, n, none⟩ (.bool true)).drew) (Below.drew (Below.refl _ _))
      have YS : Below W0.heap.size W0 ((wa.setCell ⟨gy, n, none⟩ (.bool true)).drew) := (Y.setCell hgyW _).drew
      have HPS : Hid (PTx W0.heap.size ((wa.setCell ⟨gy, n, none⟩ (.bool true)).drew) wx.heap.size ⟨execM p.store ⟨3, oa, ob, oc⟩ (freeAt p.store.cells), p.x, p.y.set n true⟩ E f E' f' os5 B2 d2 (some ⟨gy, 0, none⟩) d3) := hPS
      clear hPS HNS HSET HX0 HXW HRA HRB HXB HYB HCS HPO n1 n2 n3 a0 a1 a2 a3 b1 b2 b3 q0 q1 q2 q3 r0 r1 r2 r3 rf0 rf1 rf2 rf3
      go_step
      go_step
      generalize ((wa.setCell ⟨gy, n, none⟩ (.bool true)).drew) = WS at *
      have q0 : WS.cell? ⟨wx.heap.size, 0, none⟩ = some (.slice E (execM p.store ⟨3, oa, ob, oc⟩ (freeAt p.store.cells)).cells.length f) := HPS.out.q0
      have q1 : WS.cell? ⟨wx.heap.size, 1, none⟩ = some (.slice E' (execM p.store ⟨3, oa, ob, oc⟩ (freeAt p.store.cells)).roots.length f') := HPS.out.q1
      have q2 : WS.cell? ⟨wx.heap.size, 2, none⟩ = some (.slice B2 p.x.length d2) := HPS.out.q2
      have q3 : WS.cell? ⟨wx.heap.size, 3, none⟩ = some (.slice (some ⟨gy, 0, none⟩) p.y.length d3) := by have h9 := HPS.out.q3; simpa using h9
      obtain ⟨r0, r1, r2, r3, rf⟩ := HG0.out _ YS
      have rf0 := rf 0
      have rf1 := rf 1
      have rf2 := rf 2
      have rf3 := rf 3
      clear rf m4 f4
      have sYS := YS.size
      rename_i K9 hK9
      refine hK9 _ _ ?_
      clear hK9 K9
      go_step
      go_step
      go_step
      go_step
      go_step
      go_step
      go_step
      go_step
      go_step
      go_step
      go_step
      go_step
      go_step
      go_step
      go_step
      go_step
      rename_i K9 hK9
      refine hK9 _ _ ?_
      clear hK9 K9
      refine wp_ret ?_
      have X := hW0.trans (YS.mono hW0.size)
      have hopt := HPS.out.opt
      simp only [List.length_set] at hopt
      refine bodyPost_ret (v := .tuple #[.agg #[.slice E (execM p.store ⟨3, oa, ob, oc⟩ (freeAt p.store.cells)).cells.length f, .slice E' (execM p.store ⟨3, oa, ob, oc⟩ (freeAt p.store.cells)).roots.length f', .slice B2 p.x.length d2, .slice (some ⟨gy, 0, none⟩) p.y.length d3], .bool true]) (by simp [results, Try.results54, go_sem, r0, r1, r2, r3]) rfl ⟨_, by rw [HE.out], ?_, blw_⟩
      rw [HE.out, ← HN.out]
      exact ((((hopt.setlt (by simp; omega) _).setlt (by simp; omega) _).setlt (by simp; omega) _).setlt (by simp; omega) _).lo_ (by omega)
    · have HN := Lib.hid (HNS.out false (by first | rfl | (simp; done) | (simp; omega) | (simp [List.getD, hz, h0]; done) | (simp [List.getD, hz]; omega)))
      go_wp2_with fail
      refine wp_region_still_tail 28 (by kernel_rfl) (by kernel_rfl) ?_
      simp only [List.take_succ_cons, List.take_zero, List.drop_succ_cons, List.drop_zero]
      have hny2 : (n : Int) < (p.y.length : Int) := by omega
      have hn0 : (0 : Int) ≤ (n : Int) := by omega
      have hnx2 : (n : Int) < (p.x.length : Int) := by omega
      (with_reducible refine wpStill_step (fun K hK => ?_)); go_simp; (try rw [if_neg (by intro h9; cases h9)]); (with_reducible refine hK _ ?_); clear hK K
      (with_reducible refine wpStill_step (fun K hK => ?_)); go_simp; (try rw [if_neg (by intro h9; cases h9)]); (with_reducible refine hK _ ?_); clear hK K
      (with_reducible refine wpStill_step (fun K hK => ?_)); go_simp; (try rw [if_neg (by intro h9; cases h9)]); (with_reducible refine hK _ ?_); clear hK K
      (with_reducible refine wpStill_step (fun K hK => ?_)); go_simp; (try rw [if_neg (by intro h9; cases h9)]); (with_reducible refine hK _ ?_); clear hK K
      (with_reducible refine wpStill_step (fun K hK => ?_)); go_simp; (try rw [if_neg (by intro h9; cases h9)]); (with_reducible refine hK _ ?_); clear hK K
      (with_reducible refine wpStill_step (fun K hK => ?_)); go_simp; (try rw [if_neg (by intro h9; cases h9)]); (with_reducible refine hK _ ?_); clear hK K
      (with_reducible refine wpStill_step (fun K hK => ?_)); go_simp; (try rw [if_neg (by intro h9; cases h9)]); (with_reducible refine hK _ ?_); clear hK K
      (with_reducible refine wpStill_step (fun K hK => ?_)); go_simp; (try rw [if_neg (by intro h9; cases h9)]); (with_reducible refine hK _ ?_); clear hK K
      (with_reducible refine wpStill_step (fun K hK => ?_)); go_simp; (try rw [if_neg (by intro h9; cases h9)]); (with_reducible refine hK _ ?_); clear hK K
      (with_reducible refine wpStill_step (fun K hK => ?_)); go_simp; (try rw [if_neg (by intro h9; cases h9)]); (with_reducible refine hK _ ?_); clear hK K
      (with_reducible refine wpStill_step (fun K hK => ?_)); go_simp; (try rw [if_neg (by intro h9; cases h9)]); (with_reducible refine hK _ ?_); clear hK K
      (with_reducible refine wpStill_step (fun K hK => ?_)); go_simp; (try rw [if_neg (by intro h9; cases h9)]); (with_reducible refine hK _ ?_); clear hK K
      (with_reducible refine wpStill_step (fun K hK => ?_)); go_simp; (try rw [if_neg (by intro h9; cases h9)]); (with_reducible refine hK _ ?_); clear hK K
      (with_reducible refine wpStill_step (fun K hK => ?_)); go_simp; (try rw [if_neg (by intro h9; cases h9)]); (with_reducible refine hK _ ?_); clear hK K
      (with_reducible refine wpStill_step (fun K hK => ?_)); go_simp; (try rw [if_neg (by intro h9; cases h9)]); (with_reducible refine hK _ ?_); clear hK K
      (with_reducible refine wpStill_step (fun K hK => ?_)); go_simp; (try rw [if_neg (by intro h9; cases h9)]); (with_reducible refine hK _ ?_); clear hK K
      (with_reducible refine wpStill_step (fun K hK => ?_)); go_simp; (try rw [if_neg (by intro h9; cases h9)]); (with_reducible refine hK _ ?_); clear hK K
      (with_reducible refine wpStill_step (fun K hK => ?_)); go_simp; (try rw [if_neg (by intro h9; cases h9)]); (with_reducible refine hK _ ?_); clear hK K
      (with_reducible refine wpStill_step (fun K hK => ?_)); go_simp; (try rw [if_neg (by intro h9; cases h9)]); (with_reducible refine hK _ ?_); clear hK K
      (with_reducible refine wpStill_step (fun K hK => ?_)); go_simp; (try rw [if_neg (by intro h9; cases h9)]); (with_reducible refine hK _ ?_); clear hK K
      (with_reducible refine wpStill_step (fun K hK => ?_)); go_simp; (try rw [if_neg (by intro h9; cases h9)]); (with_reducible refine hK _ ?_); clear hK K
      (with_reducible refine wpStill_step (fun K hK => ?_)); go_simp; (try rw [if_neg (by intro h9; cases h9)]); (with_reducible refine hK _ ?_); clear hK K
      (with_reducible refine wpStill_step (fun K hK => ?_)); go_simp; (try rw [if_neg (by intro h9; cases h9)]); (with_reducible refine hK _ ?_); clear hK K
      (with_reducible refine wpStill_step (fun K hK => ?_)); go_simp; (try rw [if_neg (by intro h9; cases h9)]); (with_reducible refine hK _ ?_); clear hK K
      (with_reducible refine wpStill_step (fun K hK => ?_)); go_simp; (try rw [if_neg (by intro h9; cases h9)]); (with_reducible refine hK _ ?_); clear hK K
      (with_reducible refine wpStill_step (fun K hK => ?_)); go_simp; (try rw [if_neg (by intro h9; cases h9)]); (with_reducible refine hK _ ?_); clear hK K
      (with_reducible refine wpStill_step (fun K hK => ?_)); go_simp; (try rw [if_neg (by intro h9; cases h9)]); (with_reducible refine hK _ ?_); clear hK K
      (with_reducible refine wpStill_step (fun K hK => ?_)); go_simp; (try rw [if_neg (by intro h9; cases h9)]); (with_reducible refine hK _ ?_); clear hK K
      refine wpStill_nil ?_
      change wpList _ _ _ _ _ wa.drew
      have hPS := (HSET.out false).below (w' := (wa.setCell ⟨gy, n, none⟩ (.bool false)).drew) (Below.drew (Below.refl _ _))
      have YS : Below W0.heap.size W0 ((wa.setCell ⟨gy, n, none⟩ (.bool false)).drew) := (Y.setCell hgyW _).drew
      have HPS : Hid (PTx W0.heap.size ((wa.setCell ⟨gy, n, none⟩ (.bool false)).drew) wx.heap.size ⟨execM p.store ⟨3, oa, ob, oc⟩ (freeAt p.store.cells), p.x, p.y.set n false⟩ E f E' f' os5 B2 d2 (some ⟨gy, 0, none⟩) d3) := hPS
      clear hPS HNS HSET HX0 HXW HRA HRB HXB HYB HCS HPO n1 n2 n3 a0 a1 a2 a3 b1 b2 b3 q0 q1 q2 q3 r0 r1 r2 r3 rf0 rf1 rf2 rf3
      go_step
      go_step
      generalize ((wa.setCell ⟨gy, n, none⟩ (.bool false)).drew) = WS at *
      have q0 : WS.cell? ⟨wx.heap.size, 0, none⟩ = some (.slice E (execM p.store ⟨3, oa, ob, oc⟩ (freeAt p.store.cells)).cells.length f) := HPS.out.q0
      have q1 : WS.cell? ⟨wx.heap.size, 1, none⟩ = some (.slice E' (execM p.store ⟨3, oa, ob, oc⟩ (freeAt p.store.cells)).roots.length f') := HPS.out.q1
      have q2 : WS.cell? ⟨wx.heap.size, 2, none⟩ = some (.slice B2 p.x.length d2) := HPS.out.q2
      have q3 : WS.cell? ⟨wx.heap.size, 3, none⟩ = some (.slice (some ⟨gy, 0, none⟩) p.y.length d3) := by have h9 := HPS.out.q3; simpa using h9
      obtain ⟨r0, r1, r2, r3, rf⟩ := HG0.out _ YS
      have rf0 := rf 0
      have rf1 := rf 1
      have rf2 := rf 2
      have rf3 := rf 3
      clear rf m4 f4
      have sYS := YS.size
      rename_i K9 hK9
      refine hK9 _ _ ?_
      clear hK9 K9
      go_step
      go_step
      go_step
      go_step
      go_step
      go_step
      go_step
      go_step
      go_step
      go_step
      go_step
      go_step
      go_step
      go_step
      go_step
      go_step
      rename_i K9 hK9
      refine hK9 _ _ ?_
      clear hK9 K9
      refine wp_ret ?_
      have X := hW0.trans (YS.mono hW0.size)
      have hopt := HPS.out.opt
      simp only [List.length_set] at hopt
      refine bodyPost_ret (v := .tuple #[.agg #[.slice E (execM p.store ⟨3, oa, ob, oc⟩ (freeAt p.store.cells)).cells.length f, .slice E' (execM p.store ⟨3, oa, ob, oc⟩ (freeAt p.store.cells)).roots.length f', .slice B2 p.x.length d2, .slice (some ⟨gy, 0, none⟩) p.y.length d3], .bool true]) (by simp [results, Try.results54, go_sem, r0, r1, r2, r3]) rfl ⟨_, by rw [HE.out], ?_, blw_⟩
      rw [HE.out, ← HN.out]
      exact ((((hopt.setlt (by simp; omega) _).setlt (by simp; omega) _).setlt (by simp; omega) _).setlt (by simp; omega) _).lo_ (by omega)
    · have HN := Lib.hid (HNS.out false (by first | rfl | (simp; done) | (simp; omega) | (simp [List.getD, hz, h0]; done) | (simp [List.getD, hz]; omega)))
      go_wp2_with fail
      refine wp_region_still_tail 28 (by kernel_rfl) (by kernel_rfl) ?_
      simp only [List.take_succ_cons, List.take_zero, List.drop_succ_cons, List.drop_zero]
      have hny2 : (n : Int) < (p.y.length : Int) := by omega
      have hn0 : (0 : Int) ≤ (n : Int) := by omega
      have hnx2 : (n : Int) < (p.x.length : Int) := by omega
      (with_reducible refine wpStill_step (fun K hK => ?_)); go_simp; (try rw [if_neg (by intro h9; cases h9)]); (try rw [if_neg (show ¬ (0 : Int) ≤ rb from Int.not_le.2 h0)]); (with_reducible refine hK _ ?_); clear hK K
      (with_reducible refine wpStill_step (fun K hK => ?_)); go_simp; (try rw [if_neg (by intro h9; cases h9)]); (try rw [if_neg (show ¬ (0 : Int) ≤ rb from Int.not_le.2 h0)]); (with_reducible refine hK _ ?_); clear hK K
      (with_reducible refine wpStill_step (fun K hK => ?_)); go_simp; (try rw [if_neg (by intro h9; cases h9)]); (try rw [if_neg (show ¬ (0 : Int) ≤ rb from Int.not_le.2 h0)]); (with_reducible refine hK _ ?_); clear hK K
      (with_reducible refine wpStill_step (fun K hK => ?_)); go_simp; (try rw [if_neg (by intro h9; cases h9)]); (try rw [if_neg (show ¬ (0 : Int) ≤ rb from Int.not_le.2 h0)]); (with_reducible refine hK _ ?_); clear hK K
      (with_reducible refine wpStill_step (fun K hK => ?_)); go_simp; (try rw [if_neg (by intro h9; cases h9)]); (try rw [if_neg (show ¬ (0 : Int) ≤ rb from Int.not_le.2 h0)]); (with_reducible refine hK _ ?_); clear hK K
      (with_reducible refine wpStill_step (fun K hK => ?_)); go_simp; (try rw [if_neg (by intro h9; cases h9)]); (try rw [if_neg (show ¬ (0 : Int) ≤ rb from Int.not_le.2 h0)]); (with_reducible refine hK _ ?_); clear hK K
      (with_reducible refine wpStill_step (fun K hK => ?_)); go_simp; (try rw [if_neg (by intro h9; cases h9)]); (try rw [if_neg (show ¬ (0 : Int) ≤ rb from Int.not_le.2 h0)]); (with_reducible refine hK _ ?_); clear hK K
      (with_reducible refine wpStill_step (fun K hK => ?_)); go_simp; (try rw [if_neg (by intro h9; cases h9)]); (try rw [if_neg (show ¬ (0 : Int) ≤ rb from Int.not_le.2 h0)]); (with_reducible refine hK _ ?_); clear hK K
      (with_reducible refine wpStill_step (fun K hK => ?_)); go_simp; (try rw [if_neg (by intro h9; cases h9)]); (try rw [if_neg (show ¬ (0 : Int) ≤ rb from Int.not_le.2 h0)]); (with_reducible refine hK _ ?_); clear hK K
      (with_reducible refine wpStill_step (fun K hK => ?_)); go_simp; (try rw [if_neg (by intro h9; cases h9)]); (try rw [if_neg (show ¬ (0 : Int) ≤ rb from Int.not_le.2 h0)]); (with_reducible refine hK _ ?_); clear hK K
      (with_reducible refine wpStill_step (fun K hK => ?_)); go_simp; (try rw [if_neg (by intro h9; cases h9)]); (try rw [if_neg (show ¬ (0 : Int) ≤ rb from Int.not_le.2 h0)]); (with_reducible refine hK _ ?_); clear hK K
      (with_reducible refine wpStill_step (fun K hK => ?_)); go_simp; (try rw [if_neg (by intro h9; cases h9)]); (try rw [if_neg (show ¬ (0 : Int) ≤ rb from Int.not_le.2 h0)]); (with_reducible refine hK _ ?_); clear hK K
      (with_reducible refine wpStill_step (fun K hK => ?_)); go_simp; (try rw [if_neg (by intro h9; cases h9)]); (try rw [if_neg (show ¬ (0 : Int) ≤ rb from Int.not_le.2 h0)]); (with_reducible refine hK _ ?_); clear hK K
      (with_reducible refine wpStill_step (fun K hK => ?_)); go_simp; (try rw [if_neg (by intro h9; cases h9)]); (try rw [if_neg (show ¬ (0 : Int) ≤ rb from Int.not_le.2 h0)]); (with_reducible refine hK _ ?_); clear hK K
      (with_reducible refine wpStill_step (fun K hK => ?_)); go_simp; (try rw [if_neg (by intro h9; cases h9)]); (try rw [if_neg (show ¬ (0 : Int) ≤ rb from Int.not_le.2 h0)]); (with_reducible refine hK _ ?_); clear hK K
      (with_reducible refine wpStill_step (fun K hK => ?_)); go_simp; (try rw [if_neg (by intro h9; cases h9)]); (try rw [if_neg (show ¬ (0 : Int) ≤ rb from Int.not_le.2 h0)]); (with_reducible refine hK _ ?_); clear hK K
      (with_reducible refine wpStill_step (fun K hK => ?_)); go_simp; (try rw [if_neg (by intro h9; cases h9)]); (try rw [if_neg (show ¬ (0 : Int) ≤ rb from Int.not_le.2 h0)]); (with_reducible refine hK _ ?_); clear hK K
      (with_reducible refine wpStill_step (fun K hK => ?_)); go_simp; (try rw [if_neg (by intro h9; cases h9)]); (try rw [if_neg (show ¬ (0 : Int) ≤ rb from Int.not_le.2 h0)]); (with_reducible refine hK _ ?_); clear hK K
      (with_reducible refine wpStill_step (fun K hK => ?_)); go_simp; (try rw [if_neg (by intro h9; cases h9)]); (try rw [if_neg (show ¬ (0 : Int) ≤ rb from Int.not_le.2 h0)]); (with_reducible refine hK _ ?_); clear hK K
      (with_reducible refine wpStill_step (fun K hK => ?_)); go_simp; (try rw [if_neg (by intro h9; cases h9)]); (try rw [if_neg (show ¬ (0 : Int) ≤ rb from Int.not_le.2 h0)]); (with_reducible refine hK _ ?_); clear hK K
      (with_reducible refine wpStill_step (fun K hK => ?_)); go_simp; (try rw [if_neg (by intro h9; cases h9)]); (try rw [if_neg (show ¬ (0 : Int) ≤ rb from Int.not_le.2 h0)]); (with_reducible refine hK _ ?_); clear hK K
      (with_reducible refine wpStill_step (fun K hK => ?_)); go_simp; (try rw [if_neg (by intro h9; cases h9)]); (try rw [if_neg (show ¬ (0 : Int) ≤ rb from Int.not_le.2 h0)]); (with_reducible refine hK _ ?_); clear hK K
      (with_reducible refine wpStill_step (fun K hK => ?_)); go_simp; (try rw [if_neg (by intro h9; cases h9)]); (try rw [if_neg (show ¬ (0 : Int) ≤ rb from Int.not_le.2 h0)]); (with_reducible refine hK _ ?_); clear hK K
      (with_reducible refine wpStill_step (fun K hK => ?_)); go_simp; (try rw [if_neg (by intro h9; cases h9)]); (try rw [if_neg (show ¬ (0 : Int) ≤ rb from Int.not_le.2 h0)]); (with_reducible refine hK _ ?_); clear hK K
      (with_reducible refine wpStill_step (fun K hK => ?_)); go_simp; (try rw [if_neg (by intro h9; cases h9)]); (try rw [if_neg (show ¬ (0 : Int) ≤ rb from Int.not_le.2 h0)]); (with_reducible refine hK _ ?_); clear hK K
      (with_reducible refine wpStill_step (fun K hK => ?_)); go_simp; (try rw [if_neg (by intro h9; cases h9)]); (try rw [if_neg (show ¬ (0 : Int) ≤ rb from Int.not_le.2 h0)]); (with_reducible refine hK _ ?_); clear hK K
      (with_reducible refine wpStill_step (fun K hK => ?_)); go_simp; (try rw [if_neg (by intro h9; cases h9)]); (try rw [if_neg (show ¬ (0 : Int) ≤ rb from Int.not_le.2 h0)]); (with_reducible refine hK _ ?_); clear hK K
      (with_reducible refine wpStill_step (fun K hK => ?_)); go_simp; (try rw [if_neg (by intro h9; cases h9)]); (try rw [if_neg (show ¬ (0 : Int) ≤ rb from Int.not_le.2 h0)]); (with_reducible refine hK _ ?_); clear hK K
      refine wpStill_nil ?_
      change wpList _ _ _ _ _ wa.drew
      have hPS := (HSET.out false).below (w' := (wa.setCell ⟨gy, n, none⟩ (.bool false)).drew) (Below.drew (Below.refl _ _))
      have YS : Below W0.heap.size W0 ((wa.setCell ⟨gy, n, none⟩ (.bool false)).drew) := (Y.setCell hgyW _).drew
      have HPS : Hid (PTx W0.heap.size ((wa.setCell ⟨gy, n, none⟩ (.bool false)).drew) wx.heap.size ⟨execM p.store ⟨3, oa, ob, oc⟩ (freeAt p.store.cells), p.x, p.y.set n false⟩ E f E' f' os5 B2 d2 (some ⟨gy, 0, none⟩) d3) := hPS
      clear hPS HNS HSET HX0 HXW HRA HRB HXB HYB HCS HPO n1 n2 n3 a0 a1 a2 a3 b1 b2 b3 q0 q1 q2 q3 r0 r1 r2 r3 rf0 rf1 rf2 rf3
      go_step
      go_step
      generalize ((wa.setCell ⟨gy, n, none⟩ (.bool false)).drew) = WS at *
      have q0 : WS.cell? ⟨wx.heap.size, 0, none⟩ = some (.slice E (execM p.store ⟨3, oa, ob, oc⟩ (freeAt p.store.cells)).cells.length f) := HPS.out.q0
      have q1 : WS.cell? ⟨wx.heap.size, 1, none⟩ = some (.slice E' (execM p.store ⟨3, oa, ob, oc⟩ (freeAt p.store.cells)).roots.length f') := HPS.out.q1
      have q2 : WS.cell? ⟨wx.heap.size, 2, none⟩ = some (.slice B2 p.x.length d2) := HPS.out.q2
      have q3 : WS.cell? ⟨wx.heap.size, 3, none⟩ = some (.slice (some ⟨gy, 0, none⟩) p.y.length d3) := by have h9 := HPS.out.q3; simpa using h9
      obtain ⟨r0, r1, r2, r3, rf⟩ := HG0.out _ YS
      have rf0 := rf 0
      have rf1 := rf 1
      have rf2 := rf 2
      have rf3 := rf 3
      clear rf m4 f4
      have sYS := YS.size
      rename_i K9 hK9
      refine hK9 _ _ ?_
      clear hK9 K9
      go_step
      go_step
      go_step
      go_step
      go_step
      go_step
      go_step
      go_step
      go_step
      go_step
      go_step
      go_step
      go_step
      go_step
      go_step
      go_step
      rename_i K9 hK9
      refine hK9 _ _ ?_
      clear hK9 K9
      refine wp_ret ?_
      have X := hW0.trans (YS.mono hW0.size)
      have hopt := HPS.out.opt
      simp only [List.length_set] at hopt
      refine bodyPost_ret (v := .tuple #[.agg #[.slice E (execM p.store ⟨3, oa, ob, oc⟩ (freeAt p.store.cells)).cells.length f, .slice E' (execM p.store ⟨3, oa, ob, oc⟩ (freeAt p.store.cells)).roots.length f', .slice B2 p.x.length d2, .slice (some ⟨gy, 0, none⟩) p.y.length d3], .bool true]) (by simp [results, Try.results54, go_sem, r0, r1, r2, r3]) rfl ⟨_, by rw [HE.out], ?_, blw_⟩
      rw [HE.out, ← HN.out]
      exact ((((hopt.setlt (by simp; omega) _).setlt (by simp; omega) _).setlt (by simp; omega) _).setlt (by simp; omega) _).lo_ (by omega)
    · have HN := Lib.hid (HNS.out false (by first | rfl | (simp; done) | (simp; omega) | (simp [List.getD, hz, h0]; done) | (simp [List.getD, hz]; omega)))
      have hrbn : rb.toNat < p.x.length := by omega
      obtain ⟨k5, o5, x5, e5, g5, m5, -⟩ := HXW.out.at_ hrbn
      rw [hz] at g5
      injection g5 with g5
      subst g5
      injection e5 with e5
      injection e5 with e51 e52
      subst e51
      subst e52
      have n5 : wa.cell? ⟨k3, o3 + rb.toNat, none⟩ = some (.bool true) := m5
      clear hz m5
      go_wp2_with fail
      refine wp_region_still_tail 28 (by kernel_rfl) (by kernel_rfl) ?_
      simp only [List.take_succ_cons, List.take_zero, List.drop_succ_cons, List.drop_zero]
      have hny2 : (n : Int) < (p.y.length : Int) := by omega
      have hn0 : (0 : Int) ≤ (n : Int) := by omega
      have hnx2 : (n : Int) < (p.x.length : Int) := by omega
      (with_reducible refine wpStill_step (fun K hK => ?_)); go_simp; (try rw [if_neg (by intro h9; cases h9)]); (with_reducible refine hK _ ?_); clear hK K
      (with_reducible refine wpStill_step (fun K hK => ?_)); go_simp; (try rw [if_neg (by intro h9; cases h9)]); (with_reducible refine hK _ ?_); clear hK K
      (with_reducible refine wpStill_step (fun K hK => ?_)); go_simp; (try rw [if_neg (by intro h9; cases h9)]); (with_reducible refine hK _ ?_); clear hK K
      (with_reducible refine wpStill_step (fun K hK => ?_)); go_simp; (try rw [if_neg (by intro h9; cases h9)]); (with_reducible refine hK _ ?_); clear hK K
      (with_reducible refine wpStill_step (fun K hK => ?_)); go_simp; (try rw [if_neg (by intro h9; cases h9)]); (with_reducible refine hK _ ?_); clear hK K
      (with_reducible refine wpStill_step (fun K hK => ?_)); go_simp; (try rw [if_neg (by intro h9; cases h9)]); (with_reducible refine hK _ ?_); clear hK K
      (with_reducible refine wpStill_step (fun K hK => ?_)); go_simp; (try rw [if_neg (by intro h9; cases h9)]); (with_reducible refine hK _ ?_); clear hK K
      (with_reducible refine wpStill_step (fun K hK => ?_)); go_simp; (try rw [if_neg (by intro h9; cases h9)]); (with_reducible refine hK _ ?_); clear hK K
      (with_reducible refine wpStill_step (fun K hK => ?_)); go_simp; (try rw [if_neg (by intro h9; cases h9)]); (with_reducible refine hK _ ?_); clear hK K
      (with_reducible refine wpStill_step (fun K hK => ?_)); go_simp; (try rw [if_neg (by intro h9; cases h9)]); (with_reducible refine hK _ ?_); clear hK K
      (with_reducible refine wpStill_step (fun K hK => ?_)); go_simp; (try rw [if_neg (by intro h9; cases h9)]); (with_reducible refine hK _ ?_); clear hK K
      (with_reducible refine wpStill_step (fun K hK => ?_)); go_simp; (try rw [if_neg (by intro h9; cases h9)]); (with_reducible refine hK _ ?_); clear hK K
      (with_reducible refine wpStill_step (fun K hK => ?_)); go_simp; (try rw [if_neg (by intro h9; cases h9)]); (with_reducible refine hK _ ?_); clear hK K
      (with_reducible refine wpStill_step (fun K hK => ?_)); go_simp; (try rw [if_neg (by intro h9; cases h9)]); (with_reducible refine hK _ ?_); clear hK K
      (with_reducible refine wpStill_step (fun K hK => ?_)); go_simp; (try rw [if_neg (by intro h9; cases h9)]); (with_reducible refine hK _ ?_); clear hK K
      (with_reducible refine wpStill_step (fun K hK => ?_)); go_simp; (try rw [if_neg (by intro h9; cases h9)]); (with_reducible refine hK _ ?_); clear hK K
      (with_reducible refine wpStill_step (fun K hK => ?_)); go_simp; (try rw [if_neg (by intro h9; cases h9)]); (with_reducible refine hK _ ?_); clear hK K
      (with_reducible refine wpStill_step (fun K hK => ?_)); go_simp; (try rw [if_neg (by intro h9; cases h9)]); (with_reducible refine hK _ ?_); clear hK K
      (with_reducible refine wpStill_step (fun K hK => ?_)); go_simp; (try rw [if_neg (by intro h9; cases h9)]); (with_reducible refine hK _ ?_); clear hK K
      (with_reducible refine wpStill_step (fun K hK => ?_)); go_simp; (try rw [if_neg (by intro h9; cases h9)]); (with_reducible refine hK _ ?_); clear hK K
      (with_reducible refine wpStill_step (fun K hK => ?_)); go_simp; (try rw [if_neg (by intro h9; cases h9)]); (with_reducible refine hK _ ?_); clear hK K
      (with_reducible refine wpStill_step (fun K hK => ?_)); go_simp; (try rw [if_neg (by intro h9; cases h9)]); (with_reducible refine hK _ ?_); clear hK K
      (with_reducible refine wpStill_step (fun K hK => ?_)); go_simp; (try rw [if_neg (by intro h9; cases h9)]); (with_reducible refine hK _ ?_); clear hK K
      (with_reducible refine wpStill_step (fun K hK => ?_)); go_simp; (try rw [if_neg (by intro h9; cases h9)]); (with_reducible refine hK _ ?_); clear hK K
      (with_reducible refine wpStill_step (fun K hK => ?_)); go_simp; (try rw [if_neg (by intro h9; cases h9)]); (with_reducible refine hK _ ?_); clear hK K
      (with_reducible refine wpStill_step (fun K hK => ?_)); go_simp; (try rw [if_neg (by intro h9; cases h9)]); (with_reducible refine hK _ ?_); clear hK K
      (with_reducible refine wpStill_step (fun K hK => ?_)); go_simp; (try rw [if_neg (by intro h9; cases h9)]); (with_reducible refine hK _ ?_); clear hK K
      (with_reducible refine wpStill_step (fun K hK => ?_)); go_simp; (try rw [if_neg (by intro h9; cases h9)]); (with_reducible refine hK _ ?_); clear hK K
      refine wpStill_nil ?_
      change wpList _ _ _ _ _ wa.drew
      have hPS := (HSET.out false).below (w' := (wa.setCell ⟨gy, n, none⟩ (.bool false)).drew) (Below.drew (Below.refl _ _))
      have YS : Below W0.heap.size W0 ((wa.setCell ⟨gy, n, none⟩ (.bool false)).drew) := (Y.setCell hgyW _).drew
      have HPS : Hid (PTx W0.heap.size ((wa.setCell ⟨gy, n, none⟩ (.bool false)).drew) wx.heap.size ⟨execM p.store ⟨3, oa, ob, oc⟩ (freeAt p.store.cells), p.x, p.y.set n false⟩ E f E' f' os5 B2 d2 (some ⟨gy, 0, none⟩) d3) := hPS
      clear hPS HNS HSET HX0 HXW HRA HRB HXB HYB HCS HPO n1 n2 n3 n5 a0 a1 a2 a3 b1 b2 b3 q0 q1 q2 q3 r0 r1 r2 r3 rf0 rf1 rf2 rf3
      go_step
      go_step
      generalize ((wa.setCell ⟨gy, n, none⟩ (.bool false)).drew) = WS at *
      have q0 : WS.cell? ⟨wx.heap.size, 0, none⟩ = some (.slice E (execM p.store ⟨3, oa, ob, oc⟩ (freeAt p.store.cells)).cells.length f) := HPS.out.q0
      have q1 : WS.cell? ⟨wx.heap.size, 1, none⟩ = some (.slice E' (execM p.store ⟨3, oa, ob, oc⟩ (freeAt p.store.cells)).roots.length f') := HPS.out.q1
      have q2 : WS.cell? ⟨wx.heap.size, 2, none⟩ = some (.slice B2 p.x.length d2) := HPS.out.q2
      have q3 : WS.cell? ⟨wx.heap.size, 3, none⟩ = some (.slice (some ⟨gy, 0, none⟩) p.y.length d3) := by have h9 := HPS.out.q3; simpa using h9
      obtain ⟨r0, r1, r2, r3, rf⟩ := HG0.out _ YS
      have rf0 := rf 0
      have rf1 := rf 1
      have rf2 := rf 2
      have rf3 := rf 3
      clear rf m4 f4
      have sYS := YS.size
      rename_i K9 hK9
      refine hK9 _ _ ?_
      clear hK9 K9
      go_step
      go_step
      go_step
      go_step
      go_step
      go_step
      go_step
      go_step
      go_step
      go_step
      go_step
      go_step
      go_step
      go_step
      go_step
      go_step
      rename_i K9 hK9
      refine hK9 _ _ ?_
      clear hK9 K9
      refine wp_ret ?_
      have X := hW0.trans (YS.mono hW0.size)
      have hopt := HPS.out.opt
      simp only [List.length_set] at hopt
      refine bodyPost_ret (v := .tuple #[.agg #[.slice E (execM p.store ⟨3, oa, ob, oc⟩ (freeAt p.store.cells)).cells.length f, .slice E' (execM p.store ⟨3, oa, ob, oc⟩ (freeAt p.store.cells)).roots.length f', .slice B2 p.x.length d2, .slice (some ⟨gy, 0, none⟩) p.y.length d3], .bool true]) (by simp [results, Try.results54, go_sem, r0, r1, r2, r3]) rfl ⟨_, by rw [HE.out], ?_, blw_⟩
      rw [HE.out, ← HN.out]
      exact ((((hopt.setlt (by simp; omega) _).setlt (by simp; omega) _).setlt (by simp; omega) _).setlt (by simp; omega) _).lo_ (by omega)
    · have HN := Lib.hid (HNS.out true (by first | rfl | (simp; done) | (simp; omega) | (simp [List.getD, hz, h0]; done) | (simp [List.getD, hz]; omega)))
      have hrbn : rb.toNat < p.x.length := by omega
      obtain ⟨k5, o5, x5, e5, g5, m5, -⟩ := HXW.out.at_ hrbn
      rw [hz] at g5
      injection g5 with g5
      subst g5
      injection e5 with e5
      injection e5 with e51 e52
      subst e51
      subst e52
      have n5 : wa.cell? ⟨k3, o3 + rb.toNat, none⟩ = some (.bool false) := m5
      clear hz m5
      go_wp2_with fail
      refine wp_region_still_tail 28 (by kernel_rfl) (by kernel_rfl) ?_
      simp only [List.take_succ_cons, List.take_zero, List.drop_succ_cons, List.drop_zero]
      have hny2 : (n : Int) < (p.y.length : Int) := by omega
      have hn0 : (0 : Int) ≤ (n : Int) := by omega
      have hnx2 : (n : Int) < (p.x.length : Int) := by omega
      (with_reducible refine wpStill_step (fun K hK => ?_)); go_simp; (try rw [if_neg (by intro h9; cases h9)]); (with_reducible refine hK _ ?_); clear hK K
      (with_reducible refine wpStill_step (fun K hK => ?_)); go_simp; (try rw [if_neg (by intro h9; cases h9)]); (with_reducible refine hK _ ?_); clear hK K
      (with_reducible refine wpStill_step (fun K hK => ?_)); go_simp; (try rw [if_neg (by intro h9; cases h9)]); (with_reducible refine hK _ ?_); clear hK K
      (with_reducible refine wpStill_step (fun K hK => ?_)); go_simp; (try rw [if_neg (by intro h9; cases h9)]); (with_reducible refine hK _ ?_); clear hK K
      (with_reducible refine wpStill_step (fun K hK => ?_)); go_simp; (try rw [if_neg (by intro h9; cases h9)]); (with_reducible refine hK _ ?_); clear hK K
      (with_reducible refine wpStill_step (fun K hK => ?_)); go_simp; (try rw [if_neg (by intro h9; cases h9)]); (with_reducible refine hK _ ?_); clear hK K
      (with_reducible refine wpStill_step (fun K hK => ?_)); go_simp; (try rw [if_neg (by intro h9; cases h9)]); (with_reducible refine hK _ ?_); clear hK K
      (with_reducible refine wpStill_step (fun K hK => ?_)); go_simp; (try rw [if_neg (by intro h9; cases h9)]); (with_reducible refine hK _ ?_); clear hK K
      (with_reducible refine wpStill_step (fun K hK => ?_)); go_simp; (try rw [if_neg (by intro h9; cases h9)]); (with_reducible refine hK _ ?_); clear hK K
      (with_reducible refine wpStill_step (fun K hK => ?_)); go_simp; (try rw [if_neg (by intro h9; cases h9)]); (with_reducible refine hK _ ?_); clear hK K
      (with_reducible refine wpStill_step (fun K hK => ?_)); go_simp; (try rw [if_neg (by intro h9; cases h9)]); (with_reducible refine hK _ ?_); clear hK K
      (with_reducible refine wpStill_step (fun K hK => ?_)); go_simp; (try rw [if_neg (by intro h9; cases h9)]); (with_reducible refine hK _ ?_); clear hK K
      (with_reducible refine wpStill_step (fun K hK => ?_)); go_simp; (try rw [if_neg (by intro h9; cases h9)]); (with_reducible refine hK _ ?_); clear hK K
      (with_reducible refine wpStill_step (fun K hK => ?_)); go_simp; (try rw [if_neg (by intro h9; cases h9)]); (with_reducible refine hK _ ?_); clear hK K
      (with_reducible refine wpStill_step (fun K hK => ?_)); go_simp; (try rw [if_neg (by intro h9; cases h9)]); (with_reducible refine hK _ ?_); clear hK K
      (with_reducible refine wpStill_step (fun K hK => ?_)); go_simp; (try rw [if_neg (by intro h9; cases h9)]); (with_reducible refine hK _ ?_); clear hK K
      (with_reducible refine wpStill_step (fun K hK => ?_)); go_simp; (try rw [if_neg (by intro h9; cases h9)]); (with_reducible refine hK _ ?_); clear hK K
      (with_reducible refine wpStill_step (fun K hK => ?_)); go_simp; (try rw [if_neg (by intro h9; cases h9)]); (with_reducible refine hK _ ?_); clear hK K
      (with_reducible refine wpStill_step (fun K hK => ?_)); go_simp; (try rw [if_neg (by intro h9; cases h9)]); (with_reducible refine hK _ ?_); clear hK K
      (with_reducible refine wpStill_step (fun K hK => ?_)); go_simp; (try rw [if_neg (by intro h9; cases h9)]); (with_reducible refine hK _ ?_); clear hK K
      (with_reducible refine wpStill_step (fun K hK => ?_)); go_simp; (try rw [if_neg (by intro h9; cases h9)]); (with_reducible refine hK _ ?_); clear hK K
      (with_reducible refine wpStill_step (fun K hK => ?_)); go_simp; (try rw [if_neg (by intro h9; cases h9)]); (with_reducible refine hK _ ?_); clear hK K
      (with_reducible refine wpStill_step (fun K hK => ?_)); go_simp; (try rw [if_neg (by intro h9; cases h9)]); (with_reducible refine hK _ ?_); clear hK K
      (with_reducible refine wpStill_step (fun K hK => ?_)); go_simp; (try rw [if_neg (by intro h9; cases h9)]); (with_reducible refine hK _ ?_); clear hK K
      (with_reducible refine wpStill_step (fun K hK => ?_)); go_simp; (try rw [if_neg (by intro h9; cases h9)]); (with_reducible refine hK _ ?_); clear hK K
      (with_reducible refine wpStill_step (fun K hK => ?_)); go_simp; (try rw [if_neg (by intro h9; cases h9)]); (with_reducible refine hK _ ?_); clear hK K
      (with_reducible refine wpStill_step (fun K hK => ?_)); go_simp; (try rw [if_neg (by intro h9; cases h9)]); (with_reducible refine hK _ ?_); clear hK K
      (with_reducible refine wpStill_step (fun K hK => ?_)); go_simp; (try rw [if_neg (by intro h9; cases h9)]); (with_reducible refine hK _ ?_); clear hK K
      refine wpStill_nil ?_
      change wpList _ _ _ _ _ wa.drew
      have hPS := (HSET.out true).below (w' := (wa.setCell ⟨gy, n, none⟩ (.bool true)).drew) (Below.drew (Below.refl _ _))
      have YS : Below W0.heap.size W0 ((wa.setCell ⟨gy, n, none⟩ (.bool true)).drew) := (Y.setCell hgyW _).drew
      have HPS : Hid (PTx W0.heap.size ((wa.setCell ⟨gy, n, none⟩ (.bool true)).drew) wx.heap.size ⟨execM p.store ⟨3, oa, ob, oc⟩ (freeAt p.store.cells), p.x, p.y.set n true⟩ E f E' f' os5 B2 d2 (some ⟨gy, 0, none⟩) d3) := hPS
      clear hPS HNS HSET HX0 HXW HRA HRB HXB HYB HCS HPO n1 n2 n3 n5 a0 a1 a2 a3 b1 b2 b3 q0 q1 q2 q3 r0 r1 r2 r3 rf0 rf1 rf2 rf3
      go_step
      go_step
      generalize ((wa.setCell ⟨gy, n, none⟩ (.bool true)).drew) = WS at *
      have q0 : WS.cell? ⟨wx.heap.size, 0, none⟩ = some (.slice E (execM p.store ⟨3, oa, ob, oc⟩ (freeAt p.store.cells)).cells.length f) := HPS.out.q0
      have q1 : WS.cell? ⟨wx.heap.size, 1, none⟩ = some (.slice E' (execM p.store ⟨3, oa, ob, oc⟩ (freeAt p.store.cells)).roots.length f') := HPS.out.q1
      have q2 : WS.cell? ⟨wx.heap.size, 2, none⟩ = some (.slice B2 p.x.length d2) := HPS.out.q2
      have q3 : WS.cell? ⟨wx.heap.size, 3, none⟩ = some (.slice (some ⟨gy, 0, none⟩) p.y.length d3) := by have h9 := HPS.out.q3; simpa using h9
      obtain ⟨r0, r1, r2, r3, rf⟩ := HG0.out _ YS
      have rf0 := rf 0
      have rf1 := rf 1
      have rf2 := rf 2
      have rf3 := rf 3
      clear rf m4 f4
      have sYS := YS.size
      rename_i K9 hK9
      refine hK9 _ _ ?_
      clear hK9 K9
      go_step
      go_step
      go_step
      go_step
      go_step
      go_step
      go_step
      go_step
      go_step
      go_step
      go_step
      go_step
      go_step
      go_step
      go_step
      go_step
      rename_i K9 hK9
      refine hK9 _ _ ?_
      clear hK9 K9
      refine wp_ret ?_
      have X := hW0.trans (YS.mono hW0.size)
      have hopt := HPS.out.opt
      simp only [List.length_set] at hopt
      refine bodyPost_ret (v := .tuple #[.agg #[.slice E (execM p.store ⟨3, oa, ob, oc⟩ (freeAt p.store.cells)).cells.length f, .slice E' (execM p.store ⟨3, oa, ob, oc⟩ (freeAt p.store.cells)).roots.length f', .slice B2 p.x.length d2, .slice (some ⟨gy, 0, none⟩) p.y.length d3], .bool true]) (by simp [results, Try.results54, go_sem, r0, r1, r2, r3]) rfl ⟨_, by rw [HE.out], ?_, blw_⟩
      rw [HE.out, ← HN.out]
      exact ((((hopt.setlt (by simp; omega) _).setlt (by simp; omega) _).setlt (by simp; omega) _).setlt (by simp; omega) _).lo_ (by omega)
end Go.Proofs.Ytmlgndeihfpfgaa
