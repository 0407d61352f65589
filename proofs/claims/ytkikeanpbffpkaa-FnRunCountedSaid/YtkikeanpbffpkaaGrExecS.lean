/- Texts of one family, one behind the other: ExecS, ExecSN. -/
import Derived.Test.YtkikeanpbffpkaaChecked
import Derived.Deep.DeepCutAuto
import Derived.Test.YtkikeanpbffpkaaGrExec
import Derived.Test.YtkikeanpbffpkaaGrCopy
import Derived.Test.YtkikeanpbffpkaaGrCmd
/- The reference's l8Do returns execM, in new memory: all instructions but OpNew. -/
namespace Go.Proofs.Ytkikeanpbffpkaa
open Go.RowKit
set_option maxRecDepth 100000
set_option linter.unusedSimpArgs false
set_option linter.unusedVariables false
theorem setRef_length (cs : List CellM) (k j : Nat) (r : Int) : (setRef cs k j r).length = cs.length := by
  unfold setRef; split <;> simp
theorem setData_length (cs : List CellM) (k : Nat) (r : Int) : (setData cs k r).length = cs.length := by
  unfold setData; split <;> simp
set_option maxHeartbeats 4000000 in
theorem doOld_any (v : Value) (h : HeapM) (o : CmdM) (at_ : Nat) (w : World) (hv : RH w v h) (hva : validM h = true) (hok : cmdOk o = true) (hps : possO h o = true) (hne : o.op ≠ 1) :
    Calls Try.prog 37 #[v, .agg #[.int .i64 o.op, .int .i64 o.a, .int .i64 o.b, .int .i64 o.c], .int .i64 at_] w fun e w' => ∃ v', e = .returned v' ∧ OH w.heap.size w' v' (execM h o at_) ∧ Below w.heap.size w w' := by
  have hv0 := hv
  obtain ⟨A, c, A', c', rfl, hc, hr, hl1, hl2⟩ := hv
  have HRS : Hid (RHs w A A' h) := ⟨hc, hr, hl1, hl2⟩
  obtain ⟨v1, v2, v3⟩ := valid_small hva
  have hltr := (validM_lt hva).2
  obtain ⟨⟨o1, o6⟩, ⟨a0, a3⟩, ⟨b0, b9⟩, ⟨c0, c9⟩⟩ := cmdOk_iff.1 hok
  have HV3 := Lib.hid v3
  have HLT := Lib.hid hltr
  have HPS := Lib.hid hps
  have r4 : 4 ≤ h.roots.length := by omega
  have r5 : h.roots.length ≤ 4 := by omega
  clear hva hok hps v2 v3 hltr hc hr
  obtain ⟨op, oa, ob, oc⟩ := o
  dsimp only at *
  have ha1 : oa < h.roots.length := by omega
  rcases (by omega : op = 2 ∨ op = 3 ∨ op = 4 ∨ op = 5 ∨ op = 6) with rfl | rfl | rfl | rfl | rfl
  · have HE : Hid (execM h ⟨2, oa, ob, oc⟩ at_ = ⟨h.cells, h.roots.set oa.toNat (refOf h ob oc)⟩) := by unfold Hid execM; simp
    simp only [maxB, maxC] at b9 c9
    have hb1 : ob < h.roots.length := by simp at b9; omega
    clear b9 c9
    go_enter Try.func37, Try.ntmps37
    go_wp2_with fail
    refine (l7Copy_any _ h _ (hv0.below blw_) (by omega) (fun d hd => Nat.le_trans (HV3.out d hd) (by omega)) (by omega)).mono ?_
    rintro e w1 ⟨v1, rfl, ⟨B, d, B', d', os, rfl, hm, hO, hlo⟩, hB1⟩
    obtain ⟨hbc, hbf, hbz⟩ := bcell hB1
    have z0w1 : w.heap.size < w1.heap.size := (by (try simp at hbz); omega); have z1w1 : w.heap.size + 1 < w1.heap.size := (by (try simp at hbz); omega); have z2w1 : w.heap.size + 1 + 1 < w1.heap.size := (by (try simp at hbz); omega)
    have HB1 : Below w.heap.size w w1 := blw_
    have HW : Below w1.heap.size w1 (w1.alloc (.cells #[.slice B h.cells.length d, .slice B' h.roots.length d'] 26)) := blw_
    have g0 := cell_below (show w1.cell? ⟨w.heap.size, 0, none⟩ = some (.slice A h.cells.length c) from by rw [hbc _ _ (by first | omega | (simp; done) | (simp; omega))]; simp [go_sem]) HW
    have g1 := cell_below (show w1.cell? ⟨w.heap.size, 1, none⟩ = some (.slice A' h.roots.length c') from by rw [hbc _ _ (by first | omega | (simp; done) | (simp; omega))]; simp [go_sem]) HW
    have k0 := cell_below (show w1.cell? ⟨w.heap.size + 1, 0, none⟩ = some (.int .i64 2) from by rw [hbc _ _ (by first | omega | (simp; done) | (simp; omega))]; simp [go_sem]) HW
    have k1 := cell_below (show w1.cell? ⟨w.heap.size + 1, 1, none⟩ = some (.int .i64 oa) from by rw [hbc _ _ (by first | omega | (simp; done) | (simp; omega))]; simp [go_sem]) HW
    have k2 := cell_below (show w1.cell? ⟨w.heap.size + 1, 2, none⟩ = some (.int .i64 ob) from by rw [hbc _ _ (by first | omega | (simp; done) | (simp; omega))]; simp [go_sem]) HW
    have k3 := cell_below (show w1.cell? ⟨w.heap.size + 1, 3, none⟩ = some (.int .i64 oc) from by rw [hbc _ _ (by first | omega | (simp; done) | (simp; omega))]; simp [go_sem]) HW
    have n0 := cell_below (show w1.cell? ⟨w.heap.size + 2, 0, none⟩ = some (.slice none 0 0) from by rw [hbc _ _ (by first | omega | (simp; done) | (simp; omega))]; simp [go_sem]) HW
    have n1 := cell_below (show w1.cell? ⟨w.heap.size + 2, 1, none⟩ = some (.slice none 0 0) from by rw [hbc _ _ (by first | omega | (simp; done) | (simp; omega))]; simp [go_sem]) HW
    have nf : ∀ o, ((w1.alloc (.cells #[.slice B h.cells.length d, .slice B' h.roots.length d'] 26))).frozen? ⟨w.heap.size + 2, o, none⟩ = false := fun o => ((bcell HW).2.1 _ _ (by omega)).trans (by rw [hbf _ _ (by first | omega | (simp; done) | (simp; omega))]; simp [go_sem])
    have nf0 := nf 0
    have nf1 := nf 1
    try simp only [World.size_alloc, World.size_setCell, World.size_drew, World.heap_drewN, heap_drew_] at hlo
    have hlo3 : ∀ b ∈ hblks B os B', w.heap.size + 3 ≤ b := fun b hb => by have := hlo b hb; omega
    have hp := PHx.mk_ hm hO hlo3 (by omega) 26
    have hrs := HRS.out.below (HB1.trans (HW.mono HB1.size))
    have hWs : w1.heap.size < ((w1.alloc (.cells #[.slice B h.cells.length d, .slice B' h.roots.length d'] 26))).heap.size := by simp
    have HBW : Hid (Below w.heap.size w (w1.alloc (.cells #[.slice B h.cells.length d, .slice B' h.roots.length d'] 26))) := HB1.trans (HW.mono HB1.size)
    clear hB1 hbc hbf hm hO hlo hv0 HW nf
    go_wp2_with fail
    generalize (w1.alloc (.cells #[.slice B h.cells.length d, .slice B' h.roots.length d'] 26)) = W at *
    obtain ⟨gR, rfl, hgR⟩ := hp.own.roots.some_ (j := oa.toNat) (by omega)
    have hgRlo : w.heap.size + 3 ≤ gR := hlo3 gR (List.mem_append.2 (.inr (by simp [blk])))
    have hgne : w1.heap.size ≠ gR := fun e => hp.gR (by simp [blk, e])
    have hgne2 : gR ≠ w1.heap.size := fun e => hgne e.symm
    have q0 := hp.q0
    have q1 := hp.q1
    obtain ⟨xa, gxa⟩ : ∃ xa, h.roots[oa.toNat]? = some xa := ⟨_, List.getElem?_eq_getElem (by omega)⟩
    have ma : W.cell? ⟨gR, oa.toNat, none⟩ = some (.int .i64 xa) := hp.own.roots.cell gxa
    have f := hp.own.roots.frozen oa.toNat
    have HP := Lib.hid hp
    have HGA := Lib.hid gxa
    obtain ⟨ba, p_a, xa0, rfl, -, -, -⟩ := hrs.roots.at_ (k := 0) (by omega)
    obtain ⟨rb, gb, cb0⟩ := hrs.roots.get (k := ob.toNat) (by omega)
    have cb : W.cell? ⟨ba, p_a + ob.toNat, none⟩ = some (.int .i64 rb) := cb0
    clear cb0
    have hpk : placeOk h ob oc = true := by have := HPS.out; simpa [possO] using this
    have hrl := HLT.out rb (List.mem_of_getElem? gb)
    unfold placeOk at hpk
    rw [rootAt_of gb] at hpk
    simp only [Bool.and_eq_true, decide_eq_true_eq] at hpk
    obtain ⟨hr0, hcl⟩ := hpk
    obtain ⟨bC, oC, cc, Ar, cr, rfl, gc, -, -, cR, hRF, hRl, hbC⟩ := hrs.cells.at_ (k := rb.toNat) (by omega)
    rw [refsAt_of gc] at hcl
    obtain ⟨b2, o2, x, rfl, gx, cx0, hb2⟩ := hRF.at_ (k := oc.toNat) (by omega)
    have cx : W.cell? ⟨b2, o2 + oc.toNat, none⟩ = some (.int .i64 x) := cx0
    have hRX : refOf h ob oc = x := by unfold refOf; rw [rootAt_of gb, refsAt_of gc, gx]
    have HFIN : Hid (∃ os', PHx (w.heap.size + 3) (W.drew.setCell ⟨gR, oa.toNat, none⟩ (.int .i64 x)) w1.heap.size ⟨h.cells, h.roots.set oa.toNat (refOf h ob oc)⟩ B d (some ⟨gR, 0, none⟩) d' os') := ⟨os, by have h9 := (HP.out.below (Below.refl _ _).drew).root_ oa.toNat x; rw [hRX]; exact h9⟩
    clear hrs gb gxa hp gc gx hRF cx0
    go_still_tail 20, (by kernel_rfl)
    change wpList _ _ _ _ _ W.drew
    go_wp2
    refine bodyPost_ret (v := .agg #[.slice B h.cells.length d, .slice (some ⟨gR, 0, none⟩) h.roots.length d']) (by simp [results, Try.results37, go_sem, n0, n1]) rfl ⟨_, rfl, ?_, ?_⟩
    · obtain ⟨os', hfin⟩ := HFIN.out
      rw [HE.out]
      have h9 := (((hfin.oh).setlt (a := ⟨w.heap.size + 2, 0, none⟩) (by simp) (.slice B h.cells.length d)).setlt (a := ⟨w.heap.size + 2, 1, none⟩) (by simp) (.slice (some ⟨gR, 0, none⟩) h.roots.length d')).lo_ (show w.heap.size ≤ _ by omega)
      simp only [setRef_length, setData_length, List.length_set] at h9
      exact h9
    · exact ((HBW.out.drew.setCell (by simp; omega) _).setCell (by simp; omega) _).setCell (by simp; omega) _
  · have HE : Hid (execM h ⟨3, oa, ob, oc⟩ at_ = ⟨setRef h.cells (rootAt h oa).toNat oc.toNat (rootAt h ob), h.roots⟩) := by unfold Hid execM; simp
    simp only [maxB, maxC] at b9 c9
    have hb1 : ob < h.roots.length := by simp at b9; omega
    clear b9 c9
    go_enter Try.func37, Try.ntmps37
    go_wp2_with fail
    refine (l7Copy_any _ h _ (hv0.below blw_) (by omega) (fun d hd => Nat.le_trans (HV3.out d hd) (by omega)) (by omega)).mono ?_
    rintro e w1 ⟨v1, rfl, ⟨B, d, B', d', os, rfl, hm, hO, hlo⟩, hB1⟩
    obtain ⟨hbc, hbf, hbz⟩ := bcell hB1
    have z0w1 : w.heap.size < w1.heap.size := (by (try simp at hbz); omega); have z1w1 : w.heap.size + 1 < w1.heap.size := (by (try simp at hbz); omega); have z2w1 : w.heap.size + 1 + 1 < w1.heap.size := (by (try simp at hbz); omega)
    have HB1 : Below w.heap.size w w1 := blw_
    have HW : Below w1.heap.size w1 (w1.alloc (.cells #[.slice B h.cells.length d, .slice B' h.roots.length d'] 26)) := blw_
    have g0 := cell_below (show w1.cell? ⟨w.heap.size, 0, none⟩ = some (.slice A h.cells.length c) from by rw [hbc _ _ (by first | omega | (simp; done) | (simp; omega))]; simp [go_sem]) HW
    have g1 := cell_below (show w1.cell? ⟨w.heap.size, 1, none⟩ = some (.slice A' h.roots.length c') from by rw [hbc _ _ (by first | omega | (simp; done) | (simp; omega))]; simp [go_sem]) HW
    have k0 := cell_below (show w1.cell? ⟨w.heap.size + 1, 0, none⟩ = some (.int .i64 3) from by rw [hbc _ _ (by first | omega | (simp; done) | (simp; omega))]; simp [go_sem]) HW
    have k1 := cell_below (show w1.cell? ⟨w.heap.size + 1, 1, none⟩ = some (.int .i64 oa) from by rw [hbc _ _ (by first | omega | (simp; done) | (simp; omega))]; simp [go_sem]) HW
    have k2 := cell_below (show w1.cell? ⟨w.heap.size + 1, 2, none⟩ = some (.int .i64 ob) from by rw [hbc _ _ (by first | omega | (simp; done) | (simp; omega))]; simp [go_sem]) HW
    have k3 := cell_below (show w1.cell? ⟨w.heap.size + 1, 3, none⟩ = some (.int .i64 oc) from by rw [hbc _ _ (by first | omega | (simp; done) | (simp; omega))]; simp [go_sem]) HW
    have n0 := cell_below (show w1.cell? ⟨w.heap.size + 2, 0, none⟩ = some (.slice none 0 0) from by rw [hbc _ _ (by first | omega | (simp; done) | (simp; omega))]; simp [go_sem]) HW
    have n1 := cell_below (show w1.cell? ⟨w.heap.size + 2, 1, none⟩ = some (.slice none 0 0) from by rw [hbc _ _ (by first | omega | (simp; done) | (simp; omega))]; simp [go_sem]) HW
    have nf : ∀ o, ((w1.alloc (.cells #[.slice B h.cells.length d, .slice B' h.roots.length d'] 26))).frozen? ⟨w.heap.size + 2, o, none⟩ = false := fun o => ((bcell HW).2.1 _ _ (by omega)).trans (by rw [hbf _ _ (by first | omega | (simp; done) | (simp; omega))]; simp [go_sem])
    have nf0 := nf 0
    have nf1 := nf 1
    try simp only [World.size_alloc, World.size_setCell, World.size_drew, World.heap_drewN, heap_drew_] at hlo
    have hlo3 : ∀ b ∈ hblks B os B', w.heap.size + 3 ≤ b := fun b hb => by have := hlo b hb; omega
    have hp := PHx.mk_ hm hO hlo3 (by omega) 26
    have hrs := HRS.out.below (HB1.trans (HW.mono HB1.size))
    have hWs : w1.heap.size < ((w1.alloc (.cells #[.slice B h.cells.length d, .slice B' h.roots.length d'] 26))).heap.size := by simp
    have HBW : Hid (Below w.heap.size w (w1.alloc (.cells #[.slice B h.cells.length d, .slice B' h.roots.length d'] 26))) := HB1.trans (HW.mono HB1.size)
    clear hB1 hbc hbf hm hO hlo hv0 HW nf
    go_wp2_with fail
    generalize (w1.alloc (.cells #[.slice B h.cells.length d, .slice B' h.roots.length d'] 26)) = W at *
    obtain ⟨gR, rfl, hgR⟩ := hp.own.roots.some_ (j := oa.toNat) (by omega)
    have hgRlo : w.heap.size + 3 ≤ gR := hlo3 gR (List.mem_append.2 (.inr (by simp [blk])))
    have hgne : w1.heap.size ≠ gR := fun e => hp.gR (by simp [blk, e])
    have hgne2 : gR ≠ w1.heap.size := fun e => hgne e.symm
    have q0 := hp.q0
    have q1 := hp.q1
    obtain ⟨xa, gxa⟩ : ∃ xa, h.roots[oa.toNat]? = some xa := ⟨_, List.getElem?_eq_getElem (by omega)⟩
    have ma : W.cell? ⟨gR, oa.toNat, none⟩ = some (.int .i64 xa) := hp.own.roots.cell gxa
    have f := hp.own.roots.frozen oa.toNat
    have HP := Lib.hid hp
    have HGA := Lib.hid gxa
    obtain ⟨ba, p_a, xa0, rfl, -, -, -⟩ := hrs.roots.at_ (k := 0) (by omega)
    obtain ⟨rb, gb, cb0⟩ := hrs.roots.get (k := ob.toNat) (by omega)
    have cb : W.cell? ⟨ba, p_a + ob.toNat, none⟩ = some (.int .i64 rb) := cb0
    clear cb0
    obtain ⟨ra, ga, ca0⟩ := hrs.roots.get (k := oa.toNat) (by omega)
    have ca : W.cell? ⟨ba, p_a + oa.toNat, none⟩ = some (.int .i64 ra) := ca0
    clear ca0
    have hpk : placeOk h oa oc = true := by have := HPS.out; simpa [possO] using this
    have hrl := HLT.out ra (List.mem_of_getElem? ga)
    unfold placeOk at hpk
    rw [rootAt_of ga] at hpk
    simp only [Bool.and_eq_true, decide_eq_true_eq] at hpk
    obtain ⟨hr0, hcl⟩ := hpk
    obtain ⟨oc0, goc⟩ : ∃ oc0, h.cells[ra.toNat]? = some oc0 := ⟨_, List.getElem?_eq_getElem (by omega)⟩
    rw [refsAt_of goc] at hcl
    have goc2 := goc
    rw [← hp.map, List.getElem?_map] at goc2
    obtain ⟨oo, hoo, rfl⟩ := Option.map_eq_some_iff.1 goc2
    obtain ⟨gA, rfl, d0, d1, d2, hgA⟩ := hp.own.cells.at_ hoo
    have hgAlo : w.heap.size + 3 ≤ gA := hlo3 gA (List.mem_append.2 (.inl (List.mem_append.2 (.inl (by simp [blk])))))
    have hgAne : w1.heap.size ≠ gA := fun e => hp.gA (by simp [blk, e])
    have hgAne2 : gA ≠ w1.heap.size := fun e => hgAne e.symm
    have hoR := (hp.own.cells.2 oo (List.mem_of_getElem? hoo)).1
    obtain ⟨b2, hb2e, hb2⟩ := hoR.some_ (j := oc.toNat) (by omega)
    rw [hb2e] at d2
    rw [hb2e] at hoR
    have f2 := hoR.frozen oc.toNat
    obtain ⟨xc, gxc⟩ : ∃ xc, oo.c.refs[oc.toNat]? = some xc := ⟨_, List.getElem?_eq_getElem (by omega)⟩
    have m2 : W.cell? ⟨b2, oc.toNat, none⟩ = some (.int .i64 xc) := hoR.cell gxc
    have hb2lo : w.heap.size + 3 ≤ b2 := hlo3 b2 (List.mem_append.2 (.inl (List.mem_append.2 (.inr (mem_blks (List.mem_of_getElem? hoo) (by rw [hb2e]; simp [blk]))))))
    have hb2ne : w1.heap.size ≠ b2 := fun e => hp.gO (List.mem_of_getElem? hoo) (by rw [hb2e]; simp [blk, e])
    have hb2ne2 : b2 ≠ w1.heap.size := fun e => hb2ne e.symm
    have HFIN : Hid (∃ os', PHx (w.heap.size + 3) (W.drew.setCell ⟨b2, oc.toNat, none⟩ (.int .i64 rb)) w1.heap.size ⟨setRef h.cells (rootAt h oa).toNat oc.toNat (rootAt h ob), h.roots⟩ (some ⟨gA, 0, none⟩) d (some ⟨gR, 0, none⟩) d' os') := ⟨_, by have h9 := (HP.out.below (Below.refl _ _).drew).ref_ hoo hb2e oc.toNat rb; unfold setRef; rw [rootAt_of ga, rootAt_of gb, goc]; exact h9⟩
    clear hrs gb ga gxa hp goc goc2 hoo hoR gxc hb2e
    go_still_tail 20, (by kernel_rfl)
    change wpList _ _ _ _ _ W.drew
    go_wp2
    refine bodyPost_ret (v := .agg #[.slice (some ⟨gA, 0, none⟩) h.cells.length d, .slice (some ⟨gR, 0, none⟩) h.roots.length d']) (by simp [results, Try.results37, go_sem, n0, n1]) rfl ⟨_, rfl, ?_, ?_⟩
    · obtain ⟨os', hfin⟩ := HFIN.out
      rw [HE.out]
      have h9 := (((hfin.oh).setlt (a := ⟨w.heap.size + 2, 0, none⟩) (by simp) (.slice (some ⟨gA, 0, none⟩) h.cells.length d)).setlt (a := ⟨w.heap.size + 2, 1, none⟩) (by simp) (.slice (some ⟨gR, 0, none⟩) h.roots.length d')).lo_ (show w.heap.size ≤ _ by omega)
      simp only [setRef_length, setData_length, List.length_set] at h9
      exact h9
    · exact ((HBW.out.drew.setCell (by simp; omega) _).setCell (by simp; omega) _).setCell (by simp; omega) _
  · have HE : Hid (execM h ⟨4, oa, ob, oc⟩ at_ = ⟨h.cells, h.roots.set oa.toNat (rootAt h ob)⟩) := by unfold Hid execM; simp
    simp only [maxB, maxC] at b9 c9
    have hb1 : ob < h.roots.length := by simp at b9; omega
    clear b9 c9
    go_enter Try.func37, Try.ntmps37
    go_wp2_with fail
    refine (l7Copy_any _ h _ (hv0.below blw_) (by omega) (fun d hd => Nat.le_trans (HV3.out d hd) (by omega)) (by omega)).mono ?_
    rintro e w1 ⟨v1, rfl, ⟨B, d, B', d', os, rfl, hm, hO, hlo⟩, hB1⟩
    obtain ⟨hbc, hbf, hbz⟩ := bcell hB1
    have z0w1 : w.heap.size < w1.heap.size := (by (try simp at hbz); omega); have z1w1 : w.heap.size + 1 < w1.heap.size := (by (try simp at hbz); omega); have z2w1 : w.heap.size + 1 + 1 < w1.heap.size := (by (try simp at hbz); omega)
    have HB1 : Below w.heap.size w w1 := blw_
    have HW : Below w1.heap.size w1 (w1.alloc (.cells #[.slice B h.cells.length d, .slice B' h.roots.length d'] 26)) := blw_
    have g0 := cell_below (show w1.cell? ⟨w.heap.size, 0, none⟩ = some (.slice A h.cells.length c) from by rw [hbc _ _ (by first | omega | (simp; done) | (simp; omega))]; simp [go_sem]) HW
    have g1 := cell_below (show w1.cell? ⟨w.heap.size, 1, none⟩ = some (.slice A' h.roots.length c') from by rw [hbc _ _ (by first | omega | (simp; done) | (simp; omega))]; simp [go_sem]) HW
    have k0 := cell_below (show w1.cell? ⟨w.heap.size + 1, 0, none⟩ = some (.int .i64 4) from by rw [hbc _ _ (by first | omega | (simp; done) | (simp; omega))]; simp [go_sem]) HW
    have k1 := cell_below (show w1.cell? ⟨w.heap.size + 1, 1, none⟩ = some (.int .i64 oa) from by rw [hbc _ _ (by first | omega | (simp; done) | (simp; omega))]; simp [go_sem]) HW
    have k2 := cell_below (show w1.cell? ⟨w.heap.size + 1, 2, none⟩ = some (.int .i64 ob) from by rw [hbc _ _ (by first | omega | (simp; done) | (simp; omega))]; simp [go_sem]) HW
    have k3 := cell_below (show w1.cell? ⟨w.heap.size + 1, 3, none⟩ = some (.int .i64 oc) from by rw [hbc _ _ (by first | omega | (simp; done) | (simp; omega))]; simp [go_sem]) HW
    have n0 := cell_below (show w1.cell? ⟨w.heap.size + 2, 0, none⟩ = some (.slice none 0 0) from by rw [hbc _ _ (by first | omega | (simp; done) | (simp; omega))]; simp [go_sem]) HW
    have n1 := cell_below (show w1.cell? ⟨w.heap.size + 2, 1, none⟩ = some (.slice none 0 0) from by rw [hbc _ _ (by first | omega | (simp; done) | (simp; omega))]; simp [go_sem]) HW
    have nf : ∀ o, ((w1.alloc (.cells #[.slice B h.cells.length d, .slice B' h.roots.length d'] 26))).frozen? ⟨w.heap.size + 2, o, none⟩ = false := fun o => ((bcell HW).2.1 _ _ (by omega)).trans (by rw [hbf _ _ (by first | omega | (simp; done) | (simp; omega))]; simp [go_sem])
    have nf0 := nf 0
    have nf1 := nf 1
    try simp only [World.size_alloc, World.size_setCell, World.size_drew, World.heap_drewN, heap_drew_] at hlo
    have hlo3 : ∀ b ∈ hblks B os B', w.heap.size + 3 ≤ b := fun b hb => by have := hlo b hb; omega
    have hp := PHx.mk_ hm hO hlo3 (by omega) 26
    have hrs := HRS.out.below (HB1.trans (HW.mono HB1.size))
    have hWs : w1.heap.size < ((w1.alloc (.cells #[.slice B h.cells.length d, .slice B' h.roots.length d'] 26))).heap.size := by simp
    have HBW : Hid (Below w.heap.size w (w1.alloc (.cells #[.slice B h.cells.length d, .slice B' h.roots.length d'] 26))) := HB1.trans (HW.mono HB1.size)
    clear hB1 hbc hbf hm hO hlo hv0 HW nf
    go_wp2_with fail
    generalize (w1.alloc (.cells #[.slice B h.cells.length d, .slice B' h.roots.length d'] 26)) = W at *
    obtain ⟨gR, rfl, hgR⟩ := hp.own.roots.some_ (j := oa.toNat) (by omega)
    have hgRlo : w.heap.size + 3 ≤ gR := hlo3 gR (List.mem_append.2 (.inr (by simp [blk])))
    have hgne : w1.heap.size ≠ gR := fun e => hp.gR (by simp [blk, e])
    have hgne2 : gR ≠ w1.heap.size := fun e => hgne e.symm
    have q0 := hp.q0
    have q1 := hp.q1
    obtain ⟨xa, gxa⟩ : ∃ xa, h.roots[oa.toNat]? = some xa := ⟨_, List.getElem?_eq_getElem (by omega)⟩
    have ma : W.cell? ⟨gR, oa.toNat, none⟩ = some (.int .i64 xa) := hp.own.roots.cell gxa
    have f := hp.own.roots.frozen oa.toNat
    have HP := Lib.hid hp
    have HGA := Lib.hid gxa
    obtain ⟨ba, p_a, xa0, rfl, -, -, -⟩ := hrs.roots.at_ (k := 0) (by omega)
    obtain ⟨rb, gb, cb0⟩ := hrs.roots.get (k := ob.toNat) (by omega)
    have cb : W.cell? ⟨ba, p_a + ob.toNat, none⟩ = some (.int .i64 rb) := cb0
    clear cb0
    have HFIN : Hid (∃ os', PHx (w.heap.size + 3) (W.drew.setCell ⟨gR, oa.toNat, none⟩ (.int .i64 rb)) w1.heap.size ⟨h.cells, h.roots.set oa.toNat (rootAt h ob)⟩ B d (some ⟨gR, 0, none⟩) d' os') := ⟨os, by have h9 := (HP.out.below (Below.refl _ _).drew).root_ oa.toNat rb; rw [rootAt_of gb]; exact h9⟩
    clear hrs gb gxa hp
    go_still_tail 11, (by kernel_rfl)
    change wpList _ _ _ _ _ W.drew
    go_wp2
    refine bodyPost_ret (v := .agg #[.slice B h.cells.length d, .slice (some ⟨gR, 0, none⟩) h.roots.length d']) (by simp [results, Try.results37, go_sem, n0, n1]) rfl ⟨_, rfl, ?_, ?_⟩
    · obtain ⟨os', hfin⟩ := HFIN.out
      rw [HE.out]
      have h9 := (((hfin.oh).setlt (a := ⟨w.heap.size + 2, 0, none⟩) (by simp) (.slice B h.cells.length d)).setlt (a := ⟨w.heap.size + 2, 1, none⟩) (by simp) (.slice (some ⟨gR, 0, none⟩) h.roots.length d')).lo_ (show w.heap.size ≤ _ by omega)
      simp only [setRef_length, setData_length, List.length_set] at h9
      exact h9
    · exact ((HBW.out.drew.setCell (by simp; omega) _).setCell (by simp; omega) _).setCell (by simp; omega) _
  · have HE : Hid (execM h ⟨5, oa, ob, oc⟩ at_ = ⟨h.cells, h.roots.set oa.toNat (-1)⟩) := by unfold Hid execM; simp
    simp only [maxB, maxC] at b9 c9
    clear b9 c9
    go_enter Try.func37, Try.ntmps37
    go_wp2_with fail
    refine (l7Copy_any _ h _ (hv0.below blw_) (by omega) (fun d hd => Nat.le_trans (HV3.out d hd) (by omega)) (by omega)).mono ?_
    rintro e w1 ⟨v1, rfl, ⟨B, d, B', d', os, rfl, hm, hO, hlo⟩, hB1⟩
    obtain ⟨hbc, hbf, hbz⟩ := bcell hB1
    have z0w1 : w.heap.size < w1.heap.size := (by (try simp at hbz); omega); have z1w1 : w.heap.size + 1 < w1.heap.size := (by (try simp at hbz); omega); have z2w1 : w.heap.size + 1 + 1 < w1.heap.size := (by (try simp at hbz); omega)
    have HB1 : Below w.heap.size w w1 := blw_
    have HW : Below w1.heap.size w1 (w1.alloc (.cells #[.slice B h.cells.length d, .slice B' h.roots.length d'] 26)) := blw_
    have g0 := cell_below (show w1.cell? ⟨w.heap.size, 0, none⟩ = some (.slice A h.cells.length c) from by rw [hbc _ _ (by first | omega | (simp; done) | (simp; omega))]; simp [go_sem]) HW
    have g1 := cell_below (show w1.cell? ⟨w.heap.size, 1, none⟩ = some (.slice A' h.roots.length c') from by rw [hbc _ _ (by first | omega | (simp; done) | (simp; omega))]; simp [go_sem]) HW
    have k0 := cell_below (show w1.cell? ⟨w.heap.size + 1, 0, none⟩ = some (.int .i64 5) from by rw [hbc _ _ (by first | omega | (simp; done) | (simp; omega))]; simp [go_sem]) HW
    have k1 := cell_below (show w1.cell? ⟨w.heap.size + 1, 1, none⟩ = some (.int .i64 oa) from by rw [hbc _ _ (by first | omega | (simp; done) | (simp; omega))]; simp [go_sem]) HW
    have k2 := cell_below (show w1.cell? ⟨w.heap.size + 1, 2, none⟩ = some (.int .i64 ob) from by rw [hbc _ _ (by first | omega | (simp; done) | (simp; omega))]; simp [go_sem]) HW
    have k3 := cell_below (show w1.cell? ⟨w.heap.size + 1, 3, none⟩ = some (.int .i64 oc) from by rw [hbc _ _ (by first | omega | (simp; done) | (simp; omega))]; simp [go_sem]) HW
    have n0 := cell_below (show w1.cell? ⟨w.heap.size + 2, 0, none⟩ = some (.slice none 0 0) from by rw [hbc _ _ (by first | omega | (simp; done) | (simp; omega))]; simp [go_sem]) HW
    have n1 := cell_below (show w1.cell? ⟨w.heap.size + 2, 1, none⟩ = some (.slice none 0 0) from by rw [hbc _ _ (by first | omega | (simp; done) | (simp; omega))]; simp [go_sem]) HW
    have nf : ∀ o, ((w1.alloc (.cells #[.slice B h.cells.length d, .slice B' h.roots.length d'] 26))).frozen? ⟨w.heap.size + 2, o, none⟩ = false := fun o => ((bcell HW).2.1 _ _ (by omega)).trans (by rw [hbf _ _ (by first | omega | (simp; done) | (simp; omega))]; simp [go_sem])
    have nf0 := nf 0
    have nf1 := nf 1
    try simp only [World.size_alloc, World.size_setCell, World.size_drew, World.heap_drewN, heap_drew_] at hlo
    have hlo3 : ∀ b ∈ hblks B os B', w.heap.size + 3 ≤ b := fun b hb => by have := hlo b hb; omega
    have hp := PHx.mk_ hm hO hlo3 (by omega) 26
    have hrs := HRS.out.below (HB1.trans (HW.mono HB1.size))
    have hWs : w1.heap.size < ((w1.alloc (.cells #[.slice B h.cells.length d, .slice B' h.roots.length d'] 26))).heap.size := by simp
    have HBW : Hid (Below w.heap.size w (w1.alloc (.cells #[.slice B h.cells.length d, .slice B' h.roots.length d'] 26))) := HB1.trans (HW.mono HB1.size)
    have HO1 := Lib.hid hO.roots
    clear hB1 hbc hbf hm hO hlo hv0 HW nf
    obtain ⟨gR, rfl, hgR⟩ := hp.own.roots.some_ (j := oa.toNat) (by omega)
    have hgRlo : w.heap.size + 3 ≤ gR := hlo3 gR (List.mem_append.2 (.inr (by simp [blk])))
    have hgne : w1.heap.size ≠ gR := fun e => hp.gR (by simp [blk, e])
    have hgne2 : gR ≠ w1.heap.size := fun e => hgne e.symm
    have q0 := hp.q0
    have q1 := hp.q1
    obtain ⟨xa, gxa⟩ : ∃ xa, h.roots[oa.toNat]? = some xa := ⟨_, List.getElem?_eq_getElem (by omega)⟩
    have ma : (w1.alloc (.cells #[.slice B h.cells.length d, .slice (some ⟨gR, 0, none⟩) h.roots.length d'] 26)).cell? ⟨gR, oa.toNat, none⟩ = some (.int .i64 xa) := hp.own.roots.cell gxa
    have f := hp.own.roots.frozen oa.toNat
    have m1 : w1.cell? ⟨gR, oa.toNat, none⟩ = some (.int .i64 xa) := HO1.out.cell gxa
    have f1 := HO1.out.frozen oa.toNat
    have HP := Lib.hid hp
    have HGA := Lib.hid gxa
    clear gxa hp
    have HFIN : Hid (∃ os', PHx (w.heap.size + 3) ((w1.alloc (.cells #[.slice B h.cells.length d, .slice (some ⟨gR, 0, none⟩) h.roots.length d'] 26)).setCell ⟨gR, oa.toNat, none⟩ (.int .i64 (-1))) w1.heap.size ⟨h.cells, h.roots.set oa.toNat (-1)⟩ B d (some ⟨gR, 0, none⟩) d' os') := ⟨os, HP.out.root_ oa.toNat (-1)⟩
    clear hrs
    go_wp2_with fail
    refine bodyPost_ret (v := .agg #[.slice B h.cells.length d, .slice (some ⟨gR, 0, none⟩) h.roots.length d']) (by simp [results, Try.results37, go_sem, n0, n1]) rfl ⟨_, rfl, ?_, ?_⟩
    · obtain ⟨os', hfin⟩ := HFIN.out
      rw [HE.out]
      have h9 := (((hfin.oh).setlt (a := ⟨w.heap.size + 2, 0, none⟩) (by simp) (.slice B h.cells.length d)).setlt (a := ⟨w.heap.size + 2, 1, none⟩) (by simp) (.slice (some ⟨gR, 0, none⟩) h.roots.length d')).lo_ (show w.heap.size ≤ _ by omega)
      simp only [setRef_length, setData_length, List.length_set] at h9
      exact h9
    · exact ((HBW.out.setCell (by simp; omega) _).setCell (by simp; omega) _).setCell (by simp; omega) _
  · have HE : Hid (execM h ⟨6, oa, ob, oc⟩ at_ = ⟨setData h.cells (rootAt h oa).toNat ob, h.roots⟩) := by unfold Hid execM; simp
    simp only [maxB, maxC] at b9 c9
    clear b9 c9
    go_enter Try.func37, Try.ntmps37
    go_wp2_with fail
    refine (l7Copy_any _ h _ (hv0.below blw_) (by omega) (fun d hd => Nat.le_trans (HV3.out d hd) (by omega)) (by omega)).mono ?_
    rintro e w1 ⟨v1, rfl, ⟨B, d, B', d', os, rfl, hm, hO, hlo⟩, hB1⟩
    obtain ⟨hbc, hbf, hbz⟩ := bcell hB1
    have z0w1 : w.heap.size < w1.heap.size := (by (try simp at hbz); omega); have z1w1 : w.heap.size + 1 < w1.heap.size := (by (try simp at hbz); omega); have z2w1 : w.heap.size + 1 + 1 < w1.heap.size := (by (try simp at hbz); omega)
    have HB1 : Below w.heap.size w w1 := blw_
    have HW : Below w1.heap.size w1 (w1.alloc (.cells #[.slice B h.cells.length d, .slice B' h.roots.length d'] 26)) := blw_
    have g0 := cell_below (show w1.cell? ⟨w.heap.size, 0, none⟩ = some (.slice A h.cells.length c) from by rw [hbc _ _ (by first | omega | (simp; done) | (simp; omega))]; simp [go_sem]) HW
    have g1 := cell_below (show w1.cell? ⟨w.heap.size, 1, none⟩ = some (.slice A' h.roots.length c') from by rw [hbc _ _ (by first | omega | (simp; done) | (simp; omega))]; simp [go_sem]) HW
    have k0 := cell_below (show w1.cell? ⟨w.heap.size + 1, 0, none⟩ = some (.int .i64 6) from by rw [hbc _ _ (by first | omega | (simp; done) | (simp; omega))]; simp [go_sem]) HW
    have k1 := cell_below (show w1.cell? ⟨w.heap.size + 1, 1, none⟩ = some (.int .i64 oa) from by rw [hbc _ _ (by first | omega | (simp; done) | (simp; omega))]; simp [go_sem]) HW
    have k2 := cell_below (show w1.cell? ⟨w.heap.size + 1, 2, none⟩ = some (.int .i64 ob) from by rw [hbc _ _ (by first | omega | (simp; done) | (simp; omega))]; simp [go_sem]) HW
    have k3 := cell_below (show w1.cell? ⟨w.heap.size + 1, 3, none⟩ = some (.int .i64 oc) from by rw [hbc _ _ (by first | omega | (simp; done) | (simp; omega))]; simp [go_sem]) HW
    have n0 := cell_below (show w1.cell? ⟨w.heap.size + 2, 0, none⟩ = some (.slice none 0 0) from by rw [hbc _ _ (by first | omega | (simp; done) | (simp; omega))]; simp [go_sem]) HW
    have n1 := cell_below (show w1.cell? ⟨w.heap.size + 2, 1, none⟩ = some (.slice none 0 0) from by rw [hbc _ _ (by first | omega | (simp; done) | (simp; omega))]; simp [go_sem]) HW
    have nf : ∀ o, ((w1.alloc (.cells #[.slice B h.cells.length d, .slice B' h.roots.length d'] 26))).frozen? ⟨w.heap.size + 2, o, none⟩ = false := fun o => ((bcell HW).2.1 _ _ (by omega)).trans (by rw [hbf _ _ (by first | omega | (simp; done) | (simp; omega))]; simp [go_sem])
    have nf0 := nf 0
    have nf1 := nf 1
    try simp only [World.size_alloc, World.size_setCell, World.size_drew, World.heap_drewN, heap_drew_] at hlo
    have hlo3 : ∀ b ∈ hblks B os B', w.heap.size + 3 ≤ b := fun b hb => by have := hlo b hb; omega
    have hp := PHx.mk_ hm hO hlo3 (by omega) 26
    have hrs := HRS.out.below (HB1.trans (HW.mono HB1.size))
    have hWs : w1.heap.size < ((w1.alloc (.cells #[.slice B h.cells.length d, .slice B' h.roots.length d'] 26))).heap.size := by simp
    have HBW : Hid (Below w.heap.size w (w1.alloc (.cells #[.slice B h.cells.length d, .slice B' h.roots.length d'] 26))) := HB1.trans (HW.mono HB1.size)
    clear hB1 hbc hbf hm hO hlo hv0 HW nf
    go_wp2_with fail
    generalize (w1.alloc (.cells #[.slice B h.cells.length d, .slice B' h.roots.length d'] 26)) = W at *
    obtain ⟨gR, rfl, hgR⟩ := hp.own.roots.some_ (j := oa.toNat) (by omega)
    have hgRlo : w.heap.size + 3 ≤ gR := hlo3 gR (List.mem_append.2 (.inr (by simp [blk])))
    have hgne : w1.heap.size ≠ gR := fun e => hp.gR (by simp [blk, e])
    have hgne2 : gR ≠ w1.heap.size := fun e => hgne e.symm
    have q0 := hp.q0
    have q1 := hp.q1
    obtain ⟨xa, gxa⟩ : ∃ xa, h.roots[oa.toNat]? = some xa := ⟨_, List.getElem?_eq_getElem (by omega)⟩
    have ma : W.cell? ⟨gR, oa.toNat, none⟩ = some (.int .i64 xa) := hp.own.roots.cell gxa
    have f := hp.own.roots.frozen oa.toNat
    have HP := Lib.hid hp
    have HGA := Lib.hid gxa
    obtain ⟨ba, p_a, xa0, rfl, -, -, -⟩ := hrs.roots.at_ (k := 0) (by omega)
    obtain ⟨ra, ga, ca0⟩ := hrs.roots.get (k := oa.toNat) (by omega)
    have ca : W.cell? ⟨ba, p_a + oa.toNat, none⟩ = some (.int .i64 ra) := ca0
    clear ca0
    have hr0 : 0 ≤ rootAt h oa := by have := HPS.out; simpa [possO] using this
    rw [rootAt_of ga] at hr0
    have hrl := HLT.out ra (List.mem_of_getElem? ga)
    obtain ⟨oc0, goc⟩ : ∃ oc0, h.cells[ra.toNat]? = some oc0 := ⟨_, List.getElem?_eq_getElem (by omega)⟩
    have goc2 := goc
    rw [← hp.map, List.getElem?_map] at goc2
    obtain ⟨oo, hoo, rfl⟩ := Option.map_eq_some_iff.1 goc2
    obtain ⟨gA, rfl, d0, d1, d2, hgA⟩ := hp.own.cells.at_ hoo
    have hgAlo : w.heap.size + 3 ≤ gA := hlo3 gA (List.mem_append.2 (.inl (List.mem_append.2 (.inl (by simp [blk])))))
    have hgAne : w1.heap.size ≠ gA := fun e => hp.gA (by simp [blk, e])
    have hgAne2 : gA ≠ w1.heap.size := fun e => hgAne e.symm
    have fA := hp.own.cells.frozen (ra.toNat * 3 + 1)
    have HFIN : Hid (∃ os', PHx (w.heap.size + 3) (W.drew.setCell ⟨gA, ra.toNat * 3 + 1, none⟩ (.int .i64 ob)) w1.heap.size ⟨setData h.cells (rootAt h oa).toNat ob, h.roots⟩ (some ⟨gA, 0, none⟩) d (some ⟨gR, 0, none⟩) d' os') := ⟨_, by have h9 := (HP.out.below (Below.refl _ _).drew).data_ hoo ob; unfold setData; rw [rootAt_of ga, goc]; exact h9⟩
    clear hrs ga gxa hp goc goc2 hoo
    go_still_tail 12, (by kernel_rfl)
    change wpList _ _ _ _ _ W.drew
    go_wp2
    refine bodyPost_ret (v := .agg #[.slice (some ⟨gA, 0, none⟩) h.cells.length d, .slice (some ⟨gR, 0, none⟩) h.roots.length d']) (by simp [results, Try.results37, go_sem, n0, n1]) rfl ⟨_, rfl, ?_, ?_⟩
    · obtain ⟨os', hfin⟩ := HFIN.out
      rw [HE.out]
      have h9 := (((hfin.oh).setlt (a := ⟨w.heap.size + 2, 0, none⟩) (by simp) (.slice (some ⟨gA, 0, none⟩) h.cells.length d)).setlt (a := ⟨w.heap.size + 2, 1, none⟩) (by simp) (.slice (some ⟨gR, 0, none⟩) h.roots.length d')).lo_ (show w.heap.size ≤ _ by omega)
      simp only [setRef_length, setData_length, List.length_set] at h9
      exact h9
    · exact ((HBW.out.drew.setCell (by simp; omega) _).setCell (by simp; omega) _).setCell (by simp; omega) _
end Go.Proofs.Ytkikeanpbffpkaa

/- The reference's l8Do returns execM, in new memory: OpNew, and all instructions. -/
namespace Go.Proofs.Ytkikeanpbffpkaa
open Go.RowKit
set_option maxRecDepth 100000
set_option linter.unusedSimpArgs false
set_option linter.unusedVariables false
set_option maxHeartbeats 4000000 in
theorem doNew_any (v : Value) (h : HeapM) (oa ob oc : Int) (at_ : Nat) (w : World) (hv : RH w v h) (hva : validM h = true) (hok : cmdOk ⟨1, oa, ob, oc⟩ = true) (hat : at_ ≤ h.cells.length) :
    Calls Try.prog 37 #[v, .agg #[.int .i64 1, .int .i64 oa, .int .i64 ob, .int .i64 oc], .int .i64 at_] w fun e w' => ∃ v', e = .returned v' ∧ OH w.heap.size w' v' (execM h ⟨1, oa, ob, oc⟩ at_) ∧ Below w.heap.size w w' := by
  have hv0 := hv
  obtain ⟨A, c, A', c', rfl, -, -, -, -⟩ := hv
  obtain ⟨v1, v2, v3⟩ := valid_small hva
  obtain ⟨⟨o1, o6⟩, ⟨a0, a3⟩, ⟨b0, b9⟩, ⟨c0, c9⟩⟩ := cmdOk_iff.1 hok
  have HV3 := Lib.hid v3
  have r4 : 4 ≤ h.roots.length := by omega
  have r5 : h.roots.length ≤ 4 := by omega
  simp only [maxB, maxC] at *
  have b3 : ob ≤ 3 := by simpa using b9
  have ha1 : oa < h.roots.length := by omega
  clear hva hok v2 v3 b9 c9 o1 o6
  go_enter Try.func37, Try.ntmps37
  go_wp2_with fail
  (refine (l7Copy_any _ h _ (hv0.below blw_) (by omega) (fun d hd => Nat.le_trans (HV3.out d hd) (by omega)) (by omega)).mono ?_); rintro e w1 ⟨v1, rfl, ⟨B, d, B', d', os, rfl, hm, hO, hlo⟩, hB1⟩; obtain ⟨hbc, hbf, hbz⟩ := bcell hB1; have z0w1 : w.heap.size < w1.heap.size := (by (try simp at hbz); omega); have z1w1 : w.heap.size + 1 < w1.heap.size := (by (try simp at hbz); omega); have z2w1 : w.heap.size + 1 + 1 < w1.heap.size := (by (try simp at hbz); omega); have HB1 : Below w.heap.size w w1 := blw_; have k0 : w1.cell? ⟨w.heap.size + 1, 0, none⟩ = some (.int .i64 1) := (by rw [hbc _ _ (by first | omega | (simp; done) | (simp; omega))]; simp [go_sem]); have k1 : w1.cell? ⟨w.heap.size + 1, 1, none⟩ = some (.int .i64 oa) := (by rw [hbc _ _ (by first | omega | (simp; done) | (simp; omega))]; simp [go_sem]); have k2 : w1.cell? ⟨w.heap.size + 1, 2, none⟩ = some (.int .i64 ob) := (by rw [hbc _ _ (by first | omega | (simp; done) | (simp; omega))]; simp [go_sem]); have k3 : w1.cell? ⟨w.heap.size + 1, 3, none⟩ = some (.int .i64 oc) := (by rw [hbc _ _ (by first | omega | (simp; done) | (simp; omega))]; simp [go_sem]); have n0 : w1.cell? ⟨w.heap.size + 2, 0, none⟩ = some (.slice none 0 0) := (by rw [hbc _ _ (by first | omega | (simp; done) | (simp; omega))]; simp [go_sem]); have n1 : w1.cell? ⟨w.heap.size + 2, 1, none⟩ = some (.slice none 0 0) := (by rw [hbc _ _ (by first | omega | (simp; done) | (simp; omega))]; simp [go_sem]); have MF : Hid (∀ o, w1.frozen? ⟨w.heap.size + 2, o, none⟩ = false) := (fun o => by rw [hbf _ _ (by first | omega | (simp; done) | (simp; omega))]; simp [go_sem])
  try simp only [World.size_alloc, World.size_setCell, World.size_drew, World.heap_drewN, heap_drew_] at hlo
  have hlo3 : ∀ b ∈ hblks B os B', w.heap.size + 3 ≤ b := fun b hb => by have := hlo b hb; omega
  have HP := Lib.hid (PHx.mk_ hm hO hlo3 (by omega) 26)
  have hlt1 := hO.lt
  have HL1 := Lib.hid hlt1
  have HL3 := Lib.hid hlo3
  have HWa : Hid (Below w1.heap.size w1 (w1.alloc (.cells #[.slice B h.cells.length d, .slice B' h.roots.length d'] 26))) := by unfold Hid; exact blw_
  have ka1 := cell_below k1 HWa.out
  have ka2 := cell_below k2 HWa.out
  clear hB1 hbc hbf hm hO hlo hv0 hlo3 hlt1
  go_wp2
  go_loopw [9] (fun i wr => ∃ (j : Nat) (S : Option Addr) (cS : Nat) (rs : List Int), j ≤ ob.toNat ∧ i = .int .i64 j ∧ Hid (rs = List.replicate j (-1)) ∧ OF 3 fi wr S cS rs ∧ (∀ b ∈ blk S, w1.heap.size + 2 ≤ b) ∧ wr.cell? ⟨w1.heap.size + 1, 0, none⟩ = some (.bool true) ∧ wr.cell? ⟨w1.heap.size + 1, 1, none⟩ = some (.int .i64 oc) ∧ wr.cell? ⟨w1.heap.size + 1, 2, none⟩ = some (.slice S rs.length cS) ∧ (∀ o, wr.frozen? ⟨w1.heap.size + 1, o, none⟩ = false) ∧ Below (w1.heap.size + 1) (w1.alloc (.cells #[.slice B h.cells.length d, .slice B' h.roots.length d'] 26)) wr) (fun i _ => ob.toNat - (intOf i).toNat)
  case atStart => exact ⟨0, none, 0, [], by omega, rfl, rfl, OF.nil, by simp [blk], by simp [go_sem], by simp [go_sem], by simp [go_sem], fun o => by simp [go_sem], blw_⟩
  case round =>
    obtain ⟨j, S, cS, rs, hj, rfl, HRS, hS, hSl, e0, e1, e2, ef, hBl⟩ := hrel
    have hBs := hBl.size
    simp only [World.size_alloc] at hBs
    have ef2 := ef 2
    have l2 : wr.cell? ⟨w.heap.size + 1, 2, none⟩ = some (.int .i64 ob) := cell_below ka2 (by simpa using hBl)
    by_cases hlt : j < ob.toNat
    · have hlt' : (j : Int) < ob := by omega
      have hrl : rs.length = j := by rw [HRS.out, List.length_replicate]
      have hrl2 : rs.length ≤ 3 := by omega
      have HSL := Lib.hid hSl
      have hcS : w1.heap.size + 1 ∉ blk S := fun hc => by have := HSL.out _ hc; omega
      have hcz : w1.heap.size + 1 < wr.heap.size := World.block_lt_of_cell? wr _ e0
      clear hrl hSl
      go_wp2_with (at_builtin; refine wpList_appi rfl (.tmp 26) (.tmp 27) rfl rs rfl rfl (hS.below blw_) (RF.only_one (x := (-1)) (by simp [go_sem, fi])) (by simp; omega) ?_; intro S' c'' w' hO' hOn' hg'; have y0 := hOn'.cell (cell_below e0 blw_) hcS; have y1 := hOn'.cell (cell_below e1 blw_) hcS; have y2 := hOn'.cell (cell_below e2 blw_) hcS; have yf : ∀ o, w'.frozen? ⟨w1.heap.size + 1, o, none⟩ = false := (fun o => (hOn'.frozenAt _ _ (by simp; omega) hcS).trans (((bcell (show Below wr.heap.size wr _ from blw_)).2.1 _ _ hcz).trans (ef o))); have yf2 := yf 2; have hg2 : ∀ b ∈ blk S', w1.heap.size + 2 ≤ b := (fun b hb => by rcases hg' b hb with h9 | h9; exact HSL.out b h9; simp at h9; omega))
      go_roundw
      case rel =>
        refine ⟨j + 1, S', c'', rs ++ [-1], by omega, by go_num, by unfold Hid; rw [HRS.out, List.replicate_succ'], hO'.ne_ (p := ⟨w1.heap.size + 1, 2, none⟩) (fun hc => by have h9 : w1.heap.size + 2 ≤ w1.heap.size + 1 := hg2 _ hc; omega), hg2, by simp [go_sem, y0], by simp [go_sem, y1], by simp [go_sem, y2], fun o => by simp [go_sem, yf o], ?_⟩
        exact (Below.trans (show Below (w1.heap.size + 1) (w1.alloc (.cells #[.slice B h.cells.length d, .slice B' h.roots.length d'] 26)) _ from blw_) (hOn'.below (by simp; omega) (fun b hb => by have := HSL.out b hb; omega))).setCell (by simp) _
      case measure => simp [intOf]; omega
    · have hje : j = ob.toNat := by omega
      have hge : ¬ (j : Int) < ob := by omega
      have hjo : (j : Int) = ob := by omega
      have hrs : rs = List.replicate ob.toNat (-1) := by rw [HRS.out, hje]
      have hrl : rs.length = ob.toNat := by rw [hrs, List.length_replicate]
      have hp := HP.out.below (w' := wr) (by simpa using hBl)
      have q0 := hp.q0
      have q1 := hp.q1
      have hqf0 := hp.qf 0
      obtain ⟨gR, rfl, hgR⟩ := hp.own.roots.some_ (j := oa.toNat) (by omega)
      have hgRlo : w.heap.size + 3 ≤ gR ∧ gR < w1.heap.size := ⟨HL3.out gR (List.mem_append.2 (.inr (by simp [blk]))), HL1.out gR (List.mem_append.2 (.inr (by simp [blk])))⟩
      obtain ⟨xa, gxa⟩ : ∃ xa, h.roots[oa.toNat]? = some xa := ⟨_, List.getElem?_eq_getElem (by omega)⟩
      have ma : wr.cell? ⟨gR, oa.toNat, none⟩ = some (.int .i64 xa) := hp.own.roots.cell gxa
      have fa := hp.own.roots.frozen oa.toNat
      have hml : os.length = h.cells.length := by have := congrArg List.length hp.map; simpa using this
      have l1 : wr.cell? ⟨w.heap.size + 1, 1, none⟩ = some (.int .i64 oa) := cell_below ka1 (by simpa using hBl)
      have hB1r : Below w1.heap.size w1 wr := HWa.out.trans (hBl.mono (by omega))
      have hwr : Below w.heap.size w wr := HB1.trans (hB1r.mono HB1.size)
      have m0 := cell_below n0 hB1r
      have m1 := cell_below n1 hB1r
      have mf : ∀ o, wr.frozen? ⟨w.heap.size + 2, o, none⟩ = false := fun o => ((bcell hB1r).2.1 _ _ (by omega)).trans (MF.out o)
      have mf0 := mf 0
      have mf1 := mf 1
      have hcb : w1.heap.size + 1 < wr.heap.size := World.block_lt_of_cell? wr _ e0
      have HPW := Lib.hid hp
      have HS := Lib.hid hS
      have HSL := Lib.hid hSl
      have HRS2 := Lib.hid hrs
      have hgR1 : gR ≠ w1.heap.size := by omega
      have hgR2 : gR ≠ w1.heap.size + 1 := by omega
      have hgR3 : gR ≠ w.heap.size + 2 := by omega
      have hgR1' : w1.heap.size ≠ gR := by omega
      have hgR2' : w1.heap.size + 1 ≠ gR := by omega
      have hgR3' : w.heap.size + 2 ≠ gR := by omega
      have hg12 : w1.heap.size ≠ w.heap.size + 2 := by omega
      have hg12' : w.heap.size + 2 ≠ w1.heap.size := by omega
      have hg13 : w1.heap.size + 1 ≠ w.heap.size + 2 := by omega
      have hg13' : w.heap.size + 2 ≠ w1.heap.size + 1 := by omega
      have hfresh : ∀ b ∈ blk S, b ∉ hblks B os (some ⟨gR, 0, none⟩) := fun b hb hc => by have h8 := hSl b hb; have h9 := HL1.out b hc; omega
      have HFR := Lib.hid hfresh
      have hml' : h.cells.length = os.length := hml.symm
      rcases Classical.em (at_ = h.cells.length) with hae | hae
      · have hao : at_ = os.length := by omega
        have hat' : (at_ : Int) = (os.length : Int) := by omega
        rw [hml'] at q0
        have hl40 : os.length ≤ 40 := by omega
        have hBlo : ∀ b ∈ blk B, w.heap.size + 3 ≤ b ∧ b < w1.heap.size := fun b hb => ⟨HL3.out b (List.mem_append.2 (.inl (List.mem_append.2 (.inl hb)))), HL1.out b (List.mem_append.2 (.inl (List.mem_append.2 (.inl hb))))⟩
        have hcB1 : w1.heap.size + 1 ∉ blk B := fun hc => by have := hBlo _ hc; omega
        have hcB0 : w1.heap.size ∉ blk B := fun hc => by have := hBlo _ hc; omega
        have hcBr : w.heap.size + 2 ∉ blk B := fun hc => by have := hBlo _ hc; omega
        have hcBc : w.heap.size + 1 ∉ blk B := fun hc => by have := hBlo _ hc; omega
        have hRB : gR ∉ blk B := hp.own.cells.apart hp.own.roots gR (by simp [blk])
        have HMF := Lib.hid mf
        have HEF := Lib.hid ef
        have HQF := Lib.hid hp.qf
        have HFA := Lib.hid fa
        have HBLO := Lib.hid hBlo
        have HAO := Lib.hid hao
        have HML := Lib.hid hml
        clear hp hS hSl hrs hfresh gxa hml hml' mf k0 k1 k2 k3 n0 n1 mf0 mf1 hqf0 ef ef2 hBlo hae fa
        subst hao
        go_upto_region 12 with (at_builtin; refine wpList_appc rfl (.tmp 36) (.tmp 38) rfl rfl rfl (HPW.out.own.cells.below blw_) ⟨⟨true, oc, rs⟩, S, cS⟩ (HS.out.alloc_ _) (by show rs.length ≤ _; rw [hrl]; omega) (by simp [go_sem]) (by simp [go_sem]) (by simp [go_sem]; omega) (by omega) ?_; intro S5 c5 w5 hC5 hOn5 hg5; have z5 := hOn5.size; simp only [World.size_alloc] at z5; have y0 := hOn5.cell (cell_below q0 blw_) hcB0; have y1 := hOn5.cell (cell_below q1 blw_) hcB0; have yf0 : w5.frozen? ⟨w1.heap.size, 0, none⟩ = false := (hOn5.frozenAt _ _ (by simp; omega) hcB0).trans (((bcell (show Below wr.heap.size wr _ from blw_)).2.1 _ _ (by omega)).trans (HQF.out 0)))
        have l1' := hOn5.cell (cell_below l1 blw_) hcBc
        have ma' := hOn5.cell (cell_below ma blw_) hRB
        have fa' : w5.frozen? ⟨gR, oa.toNat, none⟩ = false := (hOn5.frozenAt _ _ (by simp; omega) hRB).trans (((bcell (show Below wr.heap.size wr _ from blw_)).2.1 _ _ (by omega)).trans HFA.out)
        have m0' := hOn5.cell (cell_below m0 blw_) hcBr
        have m1' := hOn5.cell (cell_below m1 blw_) hcBr
        have mf' : ∀ o, w5.frozen? ⟨w.heap.size + 2, o, none⟩ = false := (fun o => (hOn5.frozenAt _ _ (by simp; omega) hcBr).trans (((bcell (show Below wr.heap.size wr _ from blw_)).2.1 _ _ (by omega)).trans (HMF.out o)))
        have mf0' := mf' 0
        have mf1' := mf' 1
        obtain ⟨b5, rfl, hb5⟩ := hC5.some_ (j := os.length) (by simp)
        have hb5n : (w.heap.size + 3 ≤ b5 ∧ b5 < w1.heap.size ∧ b5 ≠ gR) ∨ wr.heap.size + 1 ≤ b5 := (by rcases hg5 b5 (by simp [blk]) with h9 | h9; exact .inl ⟨(HBLO.out b5 h9).1, (HBLO.out b5 h9).2, fun e => hRB (e ▸ h9)⟩; exact .inr (by simpa using h9))
        have hn4 : b5 ≠ gR := (by omega)
        have HC5 := Lib.hid hC5
        have HO5 := Lib.hid hOn5
        have HG5 := Lib.hid hg5
        have hO6 : Only [w1.heap.size] w5 (w5.setCell ⟨w1.heap.size, 0, none⟩ (.slice (some ⟨b5, 0, none⟩) (os.length + 1) c5)) := (Only.refl _ _).setCell (.inl (by simp)) _
        have x0 : (w5.setCell ⟨w1.heap.size, 0, none⟩ (.slice (some ⟨b5, 0, none⟩) (os.length + 1) c5)).cell? ⟨w1.heap.size, 0, none⟩ = some (.slice (some ⟨b5, 0, none⟩) (os.length + 1) c5) := by simp [go_sem, y0]
        have x1 : (w5.setCell ⟨w1.heap.size, 0, none⟩ (.slice (some ⟨b5, 0, none⟩) (os.length + 1) c5)).cell? ⟨w1.heap.size, 1, none⟩ = some (.slice (some ⟨gR, 0, none⟩) h.roots.length d') := by simp [go_sem, y1]
        have v3_ := hO6.cell l1' (by first | omega | (simp; done) | (simp; omega))
        have v4_ := hO6.cell ma' (by first | omega | (simp; done) | (simp; omega))
        have v5_ := hO6.cell m0' (by first | omega | (simp; done) | (simp; omega))
        have v6_ := hO6.cell m1' (by first | omega | (simp; done) | (simp; omega))
        have z5' : w1.heap.size + 1 < w5.heap.size := by omega
        have u1 : (w5.setCell ⟨w1.heap.size, 0, none⟩ (.slice (some ⟨b5, 0, none⟩) (os.length + 1) c5)).frozen? ⟨gR, oa.toNat, none⟩ = false := (hO6.frozenAt _ _ (by omega) (by simp; omega)).trans fa'
        have u2 : (w5.setCell ⟨w1.heap.size, 0, none⟩ (.slice (some ⟨b5, 0, none⟩) (os.length + 1) c5)).frozen? ⟨w.heap.size + 2, 0, none⟩ = false := (hO6.frozenAt _ _ (by omega) (by simp; omega)).trans mf0'
        have u3 : (w5.setCell ⟨w1.heap.size, 0, none⟩ (.slice (some ⟨b5, 0, none⟩) (os.length + 1) c5)).frozen? ⟨w.heap.size + 2, 1, none⟩ = false := (hO6.frozenAt _ _ (by omega) (by simp; omega)).trans mf1'
        have HO6 := Lib.hid hO6
        clear hC5 hOn5 hg5 mf' hb5 hO6 y0 y1 yf0 l1' ma' fa' m0' m1' mf0' mf1' m0 m1 q0 q1 e0 e1 e2 ma l1 hcB1 hcB0 hcBr hcBc hRB
        generalize (w5.setCell ⟨w1.heap.size, 0, none⟩ (.slice (some ⟨b5, 0, none⟩) (os.length + 1) c5)) = w6 at *
        go_wp2
        refine bodyPost_ret (v := .agg #[.slice (some ⟨b5, 0, none⟩) (os.length + 1) c5, .slice (some ⟨gR, 0, none⟩) h.roots.length d']) (by simp [results, Try.results37, go_sem, v5_, v6_]) rfl ⟨_, rfl, ?_, ?_⟩
        · have hE : execM h ⟨1, oa, ob, oc⟩ os.length = ⟨h.cells ++ [⟨true, oc, rs⟩], h.roots.set oa.toNat (os.length : Int)⟩ := by unfold execM putCell newCell; simp [HML.out, HRS2.out]
          rw [hE]
          have hC6 : OC w6 (some ⟨b5, 0, none⟩) c5 (os ++ [⟨⟨true, oc, rs⟩, S, cS⟩]) := HC5.out.keep fun b hb => HO6.out.block b (HC5.out.lt b hb) (fun hc => by
            have hc' : b = w1.heap.size := by simpa using hc
            rcases List.mem_append.1 hb with h9 | h9
            · have := mem_blk_some h9; omega
            · rw [blks_append] at h9
              rcases List.mem_append.1 h9 with h9 | h9
              · have := HL1.out b (List.mem_append.2 (.inl (List.mem_append.2 (.inr h9)))); omega
              · have h8 := HSL.out b (by simpa [blks] using h9); omega)
          have hR6 : OF 3 fi w6 (some ⟨gR, 0, none⟩) d' h.roots := ((HPW.out.own.roots.alloc_ _).only HO5.out (fun g hg hc => by rw [mem_blk_some hg] at hc; exact HPW.out.own.cells.apart HPW.out.own.roots gR (by simp [blk]) hc)).only HO6.out (fun g hg hc => by have h8 := mem_blk_some hg; have h9 : g = w1.heap.size := (by simpa using hc); omega)
          have h3 := (OHs.push (n := w1.heap.size + 1) (n5 := wr.heap.size + 1) HP.out.own hC6 hR6 (fun g hg => by rcases HG5.out g hg with h9 | h9; exact .inl h9; exact .inr (by simpa using h9)) (fun g hg => ⟨by have h8 := HSL.out g hg; omega, by have h8 := HS.out.lt g hg; omega⟩) (by simp) (by omega) (by omega)).root_ oa.toNat (os.length : Int)
          have hoh : OH (w.heap.size + 3) _ (.agg #[.slice (some ⟨b5, 0, none⟩) (os.length + 1) c5, .slice (some ⟨gR, 0, none⟩) h.roots.length d']) ⟨h.cells ++ [⟨true, oc, rs⟩], h.roots.set oa.toNat (os.length : Int)⟩ := ⟨_, c5, _, d', _, by simp [HML.out], by rw [List.map_append, HPW.out.map]; rfl, h3, fun b hb => by
            simp only [hblks, List.mem_append] at hb
            rcases hb with (hb | hb) | hb
            · have := mem_blk_some hb; omega
            · rw [blks_append] at hb
              rcases List.mem_append.1 hb with hb | hb
              · exact HL3.out b (List.mem_append.2 (.inl (List.mem_append.2 (.inr hb))))
              · have h8 := HSL.out b (by simpa [blks] using hb); omega
            · exact HL3.out b (List.mem_append.2 (.inr hb))⟩
          exact ((hoh.setlt (by simp) _).setlt (by simp) _).lo_ (by omega)
        · have hw5 : Below w.heap.size w w5 := (hwr.alloc (by have := hwr.size; omega) _).trans (HO5.out.below (by simp; omega) (fun b hb => by have := (HBLO.out b hb).1; omega))
          have hw6 : Below w.heap.size w w6 := hw5.trans (HO6.out.below hw5.size (fun b hb => by have h9 : b = w1.heap.size := (by simpa using hb); omega))
          exact ((hw6.setCell (by simp; omega) _).setCell (by simp; omega) _).setCell (by simp; omega) _
      · have hk : at_ < os.length := by omega
        obtain ⟨oo, hko⟩ : ∃ oo, os[at_]? = some oo := ⟨_, List.getElem?_eq_getElem hk⟩
        obtain ⟨gB, rfl, d0, d1, d2, hgB⟩ := hp.own.cells.at_ hko
        have f0 := hp.own.cells.frozen (at_ * 3)
        have f1 := hp.own.cells.frozen (at_ * 3 + 1)
        have f2 := hp.own.cells.frozen (at_ * 3 + 2)
        have hgBlo : w.heap.size + 3 ≤ gB ∧ gB < w1.heap.size := ⟨HL3.out gB (List.mem_append.2 (.inl (List.mem_append.2 (.inl (by simp [blk]))))), HL1.out gB (List.mem_append.2 (.inl (List.mem_append.2 (.inl (by simp [blk])))))⟩
        have hBR : gR ≠ gB := fun e => hp.own.cells.apart hp.own.roots gR (by simp [blk]) (by simp [blk, e])
        have hBR' : gB ≠ gR := fun e => hBR e.symm
        have hb1 : gB ≠ w1.heap.size := by omega
        have hb1' : w1.heap.size ≠ gB := by omega
        have hb2 : gB ≠ w1.heap.size + 1 := by omega
        have hb2' : w1.heap.size + 1 ≠ gB := by omega
        have hb3 : gB ≠ w.heap.size + 2 := by omega
        have hb3' : w.heap.size + 2 ≠ gB := by omega
        have hai : ¬ (at_ : Int) = (h.cells.length : Int) := by omega
        have hai2 : (at_ : Int) < (h.cells.length : Int) := by omega
        have HK := Lib.hid hk
        have HML := Lib.hid hml
        have HHK := Lib.hid hko
        clear hko hp hS hSl hrs hfresh gxa hml hml' hk hgB hgR mf k0 k1 k2 k3 n0 n1
        go_wp2
        refine bodyPost_ret (v := .agg #[.slice (some ⟨gB, 0, none⟩) h.cells.length d, .slice (some ⟨gR, 0, none⟩) h.roots.length d']) (by simp [results, Try.results37, go_sem, m0, m1]) rfl ⟨_, rfl, ?_, (((((hwr.setCell (by simp; omega) _).setCell (by simp; omega) _).setCell (by simp; omega) _).setCell (by simp; omega) _).setCell (by simp; omega) _).setCell (by simp; omega) _⟩
        have hE : execM h ⟨1, oa, ob, oc⟩ at_ = ⟨h.cells.set at_ ⟨true, oc, rs⟩, h.roots.set oa.toNat (at_ : Int)⟩ := by unfold execM putCell newCell; simp [hae, HRS2.out]
        rw [hE]
        have hC := HPW.out.own.cells.set_ at_ ⟨⟨true, oc, rs⟩, S, cS⟩ HK.out HS.out (by show rs.length ≤ _; rw [hrl]; omega)
        dsimp only at hC
        rw [hrl] at hC
        have hR0 := ((HPW.out.own.roots.ne_ (p := ⟨gB, at_ * 3, none⟩) (u := .bool true) (by simpa [blk] using hBR')).ne_ (p := ⟨gB, at_ * 3 + 1, none⟩) (u := .int .i64 oc) (by simpa [blk] using hBR')).ne_ (p := ⟨gB, at_ * 3 + 2, none⟩) (u := .slice S ob.toNat cS) (by simpa [blk] using hBR')
        have h3 := (HPW.out.own.setO hC hR0 rfl HFR.out).root_ oa.toNat (at_ : Int)
        have hoh : OH (w.heap.size + 3) _ (.agg #[.slice (some ⟨gB, 0, none⟩) h.cells.length d, .slice (some ⟨gR, 0, none⟩) h.roots.length d']) ⟨h.cells.set at_ ⟨true, oc, rs⟩, h.roots.set oa.toNat (at_ : Int)⟩ := ⟨_, d, _, d', _, by simp only [List.length_set], by rw [List.map_set, HPW.out.map], h3, fun b hb => by
          simp only [hblks, List.mem_append] at hb
          rcases hb with (hb | hb) | hb
          · exact HL3.out b (List.mem_append.2 (.inl (List.mem_append.2 (.inl hb))))
          · rcases blks_set_mem hb with hb | hb
            · have := HSL.out b hb; omega
            · exact HL3.out b (List.mem_append.2 (.inl (List.mem_append.2 (.inr hb))))
          · exact HL3.out b (List.mem_append.2 (.inr hb))⟩
        exact ((hoh.setlt (by simp) _).setlt (by simp) _).lo_ (by omega)
theorem do_any (v : Value) (h : HeapM) (o : CmdM) (at_ : Nat) (w : World) (hv : RH w v h) (hva : validM h = true) (hok : cmdOk o = true) (hps : possO h o = true) (hat : at_ ≤ h.cells.length) :
    Calls Try.prog 37 #[v, .agg #[.int .i64 o.op, .int .i64 o.a, .int .i64 o.b, .int .i64 o.c], .int .i64 at_] w fun e w' => ∃ v', e = .returned v' ∧ OH w.heap.size w' v' (execM h o at_) ∧ Below w.heap.size w w' := by
  rcases Classical.em (o.op = 1) with h1 | h1
  · obtain ⟨op, a, b, c⟩ := o
    dsimp only at h1
    subst h1
    exact doNew_any v h a b c at_ w hv hva hok hat
  · exact doOld_any v h o at_ w hv hva hok hps h1
end Go.Proofs.Ytkikeanpbffpkaa
