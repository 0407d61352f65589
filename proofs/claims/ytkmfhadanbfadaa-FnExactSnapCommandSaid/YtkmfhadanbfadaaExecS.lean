/- The reference's l8Do returns execM, in new memory: all instructions but OpNew. -/
import Derived.Test.YtkmfhadanbfadaaChecked
import Derived.Deep.DeepCutAuto
import Derived.Test.YtkmfhadanbfadaaExecI
import Derived.Test.YtkmfhadanbfadaaCopyS
import Derived.Test.YtkmfhadanbfadaaCmdQS
namespace Go.Proofs.Ytkmfhadanbfadaa
open Go.RowKit
set_option maxRecDepth 100000
set_option linter.unusedSimpArgs false
set_option linter.unusedVariables false
theorem setRef_length (cs : List CellM) (k j : Nat) (r : Int) : (setRef cs k j r).length = cs.length := by
  unfold setRef; split <;> simp
theorem setData_length (cs : List CellM) (k : Nat) (r : Int) : (setData cs k r).length = cs.length := by
  unfold setData; split <;> simp
set_option maxHeartbeats 4000000 in
theorem doOld_any (v : Value) (h : HeapM) (o : CmdM) (at_ : Nat) (w : World) (hv : RH w v h) (hva : validM h = true) (hok : cmdOk o = true) (hps : possO h o = true) (hne : o.op ≠ 1) :
    Calls Try.prog 95 #[v, .agg #[.int .i64 o.op, .int .i64 o.a, .int .i64 o.b, .int .i64 o.c], .int .i64 at_] w fun e w' => ∃ v', e = .returned v' ∧ OH w.heap.size w' v' (execM h o at_) ∧ Below w.heap.size w w' := by
  have hv0 := hv
  obtain ⟨A, c, A', c', rfl, hc, hr, hl1, hl2⟩ := hv
  have HRS : Hid (RHs w A A' h) := ⟨hc, hr, hl1, hl2⟩
  obtain ⟨v1, v2, v3⟩ := valid_small hva
  have hltr := (validM_lt hva).2
  obtain ⟨⟨o1, o6⟩, ⟨a0, a3⟩, ⟨b0, b9⟩, ⟨c0, c9⟩⟩ := cmdOk_iff.1 hok
  have HV3 := Lib.hid v3
  have HLT := Lib.hid hltr
  have HPS := Lib.hid hps
  have r4 : 4 ≤ h.roots.length := by omega
  have r5 : h.roots.length ≤ 4 := by omega
  clear hva hok hps v2 v3 hltr hc hr
  obtain ⟨op, oa, ob, oc⟩ := o
  dsimp only at *
  have ha1 : oa < h.roots.length := by omega
  rcases (by omega : op = 2 ∨ op = 3 ∨ op = 4 ∨ op = 5 ∨ op = 6) with rfl | rfl | rfl | rfl | rfl
  · have HE : Hid (execM h ⟨2, oa, ob, oc⟩ at_ = ⟨h.cells, h.roots.set oa.toNat (refOf h ob oc)⟩) := by unfold Hid execM; simp
    simp only [maxB, maxC] at b9 c9
    have hb1 : ob < h.roots.length := by simp at b9; omega
    clear b9 c9
    go_enter Try.func95, Try.ntmps95
    go_wp2_with fail
    refine (l7Copy_any _ h _ (hv0.below (by repeat (first | ((with_reducible refine Below.setc ?_ ?_ _); focus (first | omega | (simp; done) | (simp; omega))) | ((with_reducible refine Below.allocc ?_ ?_ _); focus (first | omega | (simp; done) | (simp; omega))) | (with_reducible refine Below.drew ?_) | (with_reducible refine Below.drewn ?_) | (with_reducible assumption) | (with_reducible exact Below.refl _ _) | ((with_reducible refine Below.stepp (by with_reducible assumption) ?_ ?_); focus (first | omega | (simp; done) | (simp; omega)))))) (by omega) (fun d hd => Nat.le_trans (HV3.out d hd) (by omega)) (by omega)).mono ?_
    rintro e w1 ⟨v1, rfl, ⟨B, d, B', d', os, rfl, hm, hO, hlo⟩, hB1⟩
    obtain ⟨hbc, hbf, hbz⟩ := bcell hB1
    have z0w1 : w.heap.size < w1.heap.size := (by (try simp at hbz); omega); have z1w1 : w.heap.size + 1 < w1.heap.size := (by (try simp at hbz); omega); have z2w1 : w.heap.size + 1 + 1 < w1.heap.size := (by (try simp at hbz); omega)
    have HB1 : Below w.heap.size w w1 := (by repeat (first | ((with_reducible refine Below.setc ?_ ?_ _); focus (first | omega | (simp; done) | (simp; omega))) | ((with_reducible refine Below.allocc ?_ ?_ _); focus (first | omega | (simp; done) | (simp; omega))) | (with_reducible refine Below.drew ?_) | (with_reducible refine Below.drewn ?_) | (with_reducible assumption) | (with_reducible exact Below.refl _ _) | ((with_reducible refine Below.stepp (by with_reducible assumption) ?_ ?_); focus (first | omega | (simp; done) | (simp; omega)))))
    have HW : Below w1.heap.size w1 (w1.alloc (.cells #[.slice B h.cells.length d, .slice B' h.roots.length d'] 32)) := (by repeat (first | ((with_reducible refine Below.setc ?_ ?_ _); focus (first | omega | (simp; done) | (simp; omega))) | ((with_reducible refine Below.allocc ?_ ?_ _); focus (first | omega | (simp; done) | (simp; omega))) | (with_reducible refine Below.drew ?_) | (with_reducible refine Below.drewn ?_) | (with_reducible assumption) | (with_reducible exact Below.refl _ _) | ((with_reducible refine Below.stepp (by with_reducible assumption) ?_ ?_); focus (first | omega | (simp; done) | (simp; omega)))))
    have g0 := cell_below (show w1.cell? ⟨w.heap.size, 0, none⟩ = some (.slice A h.cells.length c) from by rw [hbc _ _ (by first | omega | (simp; done) | (simp; omega))]; simp [go_sem]) HW
    have g1 := cell_below (show w1.cell? ⟨w.heap.size, 1, none⟩ = some (.slice A' h.roots.length c') from by rw [hbc _ _ (by first | omega | (simp; done) | (simp; omega))]; simp [go_sem]) HW
    have k0 := cell_below (show w1.cell? ⟨w.heap.size + 1, 0, none⟩ = some (.int .i64 2) from by rw [hbc _ _ (by first | omega | (simp; done) | (simp; omega))]; simp [go_sem]) HW
    have k1 := cell_below (show w1.cell? ⟨w.heap.size + 1, 1, none⟩ = some (.int .i64 oa) from by rw [hbc _ _ (by first | omega | (simp; done) | (simp; omega))]; simp [go_sem]) HW
    have k2 := cell_below (show w1.cell? ⟨w.heap.size + 1, 2, none⟩ = some (.int .i64 ob) from by rw [hbc _ _ (by first | omega | (simp; done) | (simp; omega))]; simp [go_sem]) HW
    have k3 := cell_below (show w1.cell? ⟨w.heap.size + 1, 3, none⟩ = some (.int .i64 oc) from by rw [hbc _ _ (by first | omega | (simp; done) | (simp; omega))]; simp [go_sem]) HW
    have n0 := cell_below (show w1.cell? ⟨w.heap.size + 2, 0, none⟩ = some (.slice none 0 0) from by rw [hbc _ _ (by first | omega | (simp; done) | (simp; omega))]; simp [go_sem]) HW
    have n1 := cell_below (show w1.cell? ⟨w.heap.size + 2, 1, none⟩ = some (.slice none 0 0) from by rw [hbc _ _ (by first | omega | (simp; done) | (simp; omega))]; simp [go_sem]) HW
    have nf : ∀ o, ((w1.alloc (.cells #[.slice B h.cells.length d, .slice B' h.roots.length d'] 32))).frozen? ⟨w.heap.size + 2, o, none⟩ = false := fun o => ((bcell HW).2.1 _ _ (by omega)).trans (by rw [hbf _ _ (by first | omega | (simp; done) | (simp; omega))]; simp [go_sem])
    have nf0 := nf 0
    have nf1 := nf 1
    try simp only [World.size_alloc, World.size_setCell, World.size_drew, World.heap_drewN, heap_drew_] at hlo
    have hlo3 : ∀ b ∈ hblks B os B', w.heap.size + 3 ≤ b := fun b hb => by have := hlo b hb; omega
    have hp := PHx.mk_ hm hO hlo3 (by omega) 32
    have hrs := HRS.out.below (HB1.trans (HW.mono HB1.size))
    have hWs : w1.heap.size < ((w1.alloc (.cells #[.slice B h.cells.length d, .slice B' h.roots.length d'] 32))).heap.size := by simp
    have HBW : Hid (Below w.heap.size w (w1.alloc (.cells #[.slice B h.cells.length d, .slice B' h.roots.length d'] 32))) := HB1.trans (HW.mono HB1.size)
    clear hB1 hbc hbf hm hO hlo hv0 HW nf
    go_wp2_with fail
    generalize (w1.alloc (.cells #[.slice B h.cells.length d, .slice B' h.roots.length d'] 32)) = W at *
    obtain ⟨gR, rfl, hgR⟩ := hp.own.roots.some_ (j := oa.toNat) (by omega)
    have hgRlo : w.heap.size + 3 ≤ gR := hlo3 gR (List.mem_append.2 (.inr (by simp [blk])))
    have hgne : w1.heap.size ≠ gR := fun e => hp.gR (by simp [blk, e])
    have hgne2 : gR ≠ w1.heap.size := fun e => hgne e.symm
    have q0 := hp.q0
    have q1 := hp.q1
    obtain ⟨xa, gxa⟩ : ∃ xa, h.roots[oa.toNat]? = some xa := ⟨_, List.getElem?_eq_getElem (by omega)⟩
    have ma : W.cell? ⟨gR, oa.toNat, none⟩ = some (.int .i64 xa) := hp.own.roots.cell gxa
    have f := hp.own.roots.frozen oa.toNat
    have HP := Lib.hid hp
    have HGA := Lib.hid gxa
    obtain ⟨ba, p_a, xa0, rfl, -, -, -⟩ := hrs.roots.at_ (k := 0) (by omega)
    obtain ⟨rb, gb, cb0⟩ := hrs.roots.get (k := ob.toNat) (by omega)
    have cb : W.cell? ⟨ba, p_a + ob.toNat, none⟩ = some (.int .i64 rb) := cb0
    clear cb0
    have hpk : placeOk h ob oc = true := by have := HPS.out; simpa [possO] using this
    have hrl := HLT.out rb (List.mem_of_getElem? gb)
    unfold placeOk at hpk
    rw [rootAt_of gb] at hpk
    simp only [Bool.and_eq_true, decide_eq_true_eq] at hpk
    obtain ⟨hr0, hcl⟩ := hpk
    obtain ⟨bC, oC, cc, Ar, cr, rfl, gc, -, -, cR, hRF, hRl, hbC⟩ := hrs.cells.at_ (k := rb.toNat) (by omega)
    rw [refsAt_of gc] at hcl
    obtain ⟨b2, o2, x, rfl, gx, cx0, hb2⟩ := hRF.at_ (k := oc.toNat) (by omega)
    have cx : W.cell? ⟨b2, o2 + oc.toNat, none⟩ = some (.int .i64 x) := cx0
    have hRX : refOf h ob oc = x := by unfold refOf; rw [rootAt_of gb, refsAt_of gc, gx]
    have HFIN : Hid (∃ os', PHx (w.heap.size + 3) (W.drew.setCell ⟨gR, oa.toNat, none⟩ (.int .i64 x)) w1.heap.size ⟨h.cells, h.roots.set oa.toNat (refOf h ob oc)⟩ B d (some ⟨gR, 0, none⟩) d' os') := ⟨os, by have h9 := (HP.out.below (Below.refl _ _).drew).root_ oa.toNat x; rw [hRX]; exact h9⟩
    clear hrs gb gxa hp gc gx hRF cx0
    go_still_tail 20, (by kernel_rfl)
    change wpList _ _ _ _ _ W.drew
    go_wp2
    refine bodyPost_ret (v := .agg #[.slice B h.cells.length d, .slice (some ⟨gR, 0, none⟩) h.roots.length d']) (by simp [results, Try.results95, go_sem, n0, n1]) rfl ⟨_, rfl, ?_, ?_⟩
    · obtain ⟨os', hfin⟩ := HFIN.out
      rw [HE.out]
      have h9 := (((hfin.oh).setlt (a := ⟨w.heap.size + 2, 0, none⟩) (by simp) (.slice B h.cells.length d)).setlt (a := ⟨w.heap.size + 2, 1, none⟩) (by simp) (.slice (some ⟨gR, 0, none⟩) h.roots.length d')).lo_ (show w.heap.size ≤ _ by omega)
      simp only [setRef_length, setData_length, List.length_set] at h9
      exact h9
    · exact ((HBW.out.drew.setCell (by simp; omega) _).setCell (by simp; omega) _).setCell (by simp; omega) _
  · have HE : Hid (execM h ⟨3, oa, ob, oc⟩ at_ = ⟨setRef h.cells (rootAt h oa).toNat oc.toNat (rootAt h ob), h.roots⟩) := by unfold Hid execM; simp
    simp only [maxB, maxC] at b9 c9
    have hb1 : ob < h.roots.length := by simp at b9; omega
    clear b9 c9
    go_enter Try.func95, Try.ntmps95
    go_wp2_with fail
    refine (l7Copy_any _ h _ (hv0.below (by repeat (first | ((with_reducible refine Below.setc ?_ ?_ _); focus (first | omega | (simp; done) | (simp; omega))) | ((with_reducible refine Below.allocc ?_ ?_ _); focus (first | omega | (simp; done) | (simp; omega))) | (with_reducible refine Below.drew ?_) | (with_reducible refine Below.drewn ?_) | (with_reducible assumption) | (with_reducible exact Below.refl _ _) | ((with_reducible refine Below.stepp (by with_reducible assumption) ?_ ?_); focus (first | omega | (simp; done) | (simp; omega)))))) (by omega) (fun d hd => Nat.le_trans (HV3.out d hd) (by omega)) (by omega)).mono ?_
    rintro e w1 ⟨v1, rfl, ⟨B, d, B', d', os, rfl, hm, hO, hlo⟩, hB1⟩
    obtain ⟨hbc, hbf, hbz⟩ := bcell hB1
    have z0w1 : w.heap.size < w1.heap.size := (by (try simp at hbz); omega); have z1w1 : w.heap.size + 1 < w1.heap.size := (by (try simp at hbz); omega); have z2w1 : w.heap.size + 1 + 1 < w1.heap.size := (by (try simp at hbz); omega)
    have HB1 : Below w.heap.size w w1 := (by repeat (first | ((with_reducible refine Below.setc ?_ ?_ _); focus (first | omega | (simp; done) | (simp; omega))) | ((with_reducible refine Below.allocc ?_ ?_ _); focus (first | omega | (simp; done) | (simp; omega))) | (with_reducible refine Below.drew ?_) | (with_reducible refine Below.drewn ?_) | (with_reducible assumption) | (with_reducible exact Below.refl _ _) | ((with_reducible refine Below.stepp (by with_reducible assumption) ?_ ?_); focus (first | omega | (simp; done) | (simp; omega)))))
    have HW : Below w1.heap.size w1 (w1.alloc (.cells #[.slice B h.cells.length d, .slice B' h.roots.length d'] 32)) := (by repeat (first | ((with_reducible refine Below.setc ?_ ?_ _); focus (first | omega | (simp; done) | (simp; omega))) | ((with_reducible refine Below.allocc ?_ ?_ _); focus (first | omega | (simp; done) | (simp; omega))) | (with_reducible refine Below.drew ?_) | (with_reducible refine Below.drewn ?_) | (with_reducible assumption) | (with_reducible exact Below.refl _ _) | ((with_reducible refine Below.stepp (by with_reducible assumption) ?_ ?_); focus (first | omega | (simp; done) | (simp; omega)))))
    have g0 := cell_below (show w1.cell? ⟨w.heap.size, 0, none⟩ = some (.slice A h.cells.length c) from by rw [hbc _ _ (by first | omega | (simp; done) | (simp; omega))]; simp [go_sem]) HW
    have g1 := cell_below (show w1.cell? ⟨w.heap.size, 1, none⟩ = some (.slice A' h.roots.length c') from by rw [hbc _ _ (by first | omega | (simp; done) | (simp; omega))]; simp [go_sem]) HW
    have k0 := cell_below (show w1.cell? ⟨w.heap.size + 1, 0, none⟩ = some (.int .i64 3) from by rw [hbc _ _ (by first | omega | (simp; done) | (simp; omega))]; simp [go_sem]) HW
    have k1 := cell_below (show w1.cell? ⟨w.heap.size + 1, 1, none⟩ = some (.int .i64 oa) from by rw [hbc _ _ (by first | omega | (simp; done) | (simp; omega))]; simp [go_sem]) HW
    have k2 := cell_below (show w1.cell? ⟨w.heap.size + 1, 2, none⟩ = some (.int .i64 ob) from by rw [hbc _ _ (by first | omega | (simp; done) | (simp; omega))]; simp [go_sem]) HW
    have k3 := cell_below (show w1.cell? ⟨w.heap.size + 1, 3, none⟩ = some (.int .i64 oc) from by rw [hbc _ _ (by first | omega | (simp; done) | (simp; omega))]; simp [go_sem]) HW
    have n0 := cell_below (show w1.cell? ⟨w.heap.size + 2, 0, none⟩ = some (.slice none 0 0) from by rw [hbc _ _ (by first | omega | (simp; done) | (simp; omega))]; simp [go_sem]) HW
    have n1 := cell_below (show w1.cell? ⟨w.heap.size + 2, 1, none⟩ = some (.slice none 0 0) from by rw [hbc _ _ (by first | omega | (simp; done) | (simp; omega))]; simp [go_sem]) HW
    have nf : ∀ o, ((w1.alloc (.cells #[.slice B h.cells.length d, .slice B' h.roots.length d'] 32))).frozen? ⟨w.heap.size + 2, o, none⟩ = false := fun o => ((bcell HW).2.1 _ _ (by omega)).trans (by rw [hbf _ _ (by first | omega | (simp; done) | (simp; omega))]; simp [go_sem])
    have nf0 := nf 0
    have nf1 := nf 1
    try simp only [World.size_alloc, World.size_setCell, World.size_drew, World.heap_drewN, heap_drew_] at hlo
    have hlo3 : ∀ b ∈ hblks B os B', w.heap.size + 3 ≤ b := fun b hb => by have := hlo b hb; omega
    have hp := PHx.mk_ hm hO hlo3 (by omega) 32
    have hrs := HRS.out.below (HB1.trans (HW.mono HB1.size))
    have hWs : w1.heap.size < ((w1.alloc (.cells #[.slice B h.cells.length d, .slice B' h.roots.length d'] 32))).heap.size := by simp
    have HBW : Hid (Below w.heap.size w (w1.alloc (.cells #[.slice B h.cells.length d, .slice B' h.roots.length d'] 32))) := HB1.trans (HW.mono HB1.size)
    clear hB1 hbc hbf hm hO hlo hv0 HW nf
    go_wp2_with fail
    generalize (w1.alloc (.cells #[.slice B h.cells.length d, .slice B' h.roots.length d'] 32)) = W at *
    obtain ⟨gR, rfl, hgR⟩ := hp.own.roots.some_ (j := oa.toNat) (by omega)
    have hgRlo : w.heap.size + 3 ≤ gR := hlo3 gR (List.mem_append.2 (.inr (by simp [blk])))
    have hgne : w1.heap.size ≠ gR := fun e => hp.gR (by simp [blk, e])
    have hgne2 : gR ≠ w1.heap.size := fun e => hgne e.symm
    have q0 := hp.q0
    have q1 := hp.q1
    obtain ⟨xa, gxa⟩ : ∃ xa, h.roots[oa.toNat]? = some xa := ⟨_, List.getElem?_eq_getElem (by omega)⟩
    have ma : W.cell? ⟨gR, oa.toNat, none⟩ = some (.int .i64 xa) := hp.own.roots.cell gxa
    have f := hp.own.roots.frozen oa.toNat
    have HP := Lib.hid hp
    have HGA := Lib.hid gxa
    obtain ⟨ba, p_a, xa0, rfl, -, -, -⟩ := hrs.roots.at_ (k := 0) (by omega)
    obtain ⟨rb, gb, cb0⟩ := hrs.roots.get (k := ob.toNat) (by omega)
    have cb : W.cell? ⟨ba, p_a + ob.toNat, none⟩ = some (.int .i64 rb) := cb0
    clear cb0
    obtain ⟨ra, ga, ca0⟩ := hrs.roots.get (k := oa.toNat) (by omega)
    have ca : W.cell? ⟨ba, p_a + oa.toNat, none⟩ = some (.int .i64 ra) := ca0
    clear ca0
    have hpk : placeOk h oa oc = true := by have := HPS.out; simpa [possO] using this
    have hrl := HLT.out ra (List.mem_of_getElem? ga)
    unfold placeOk at hpk
    rw [rootAt_of ga] at hpk
    simp only [Bool.and_eq_true, decide_eq_true_eq] at hpk
    obtain ⟨hr0, hcl⟩ := hpk
    obtain ⟨oc0, goc⟩ : ∃ oc0, h.cells[ra.toNat]? = some oc0 := ⟨_, List.getElem?_eq_getElem (by omega)⟩
    rw [refsAt_of goc] at hcl
    have goc2 := goc
    rw [← hp.map, List.getElem?_map] at goc2
    obtain ⟨oo, hoo, rfl⟩ := Option.map_eq_some_iff.1 goc2
    obtain ⟨gA, rfl, d0, d1, d2, hgA⟩ := hp.own.cells.at_ hoo
    have hgAlo : w.heap.size + 3 ≤ gA := hlo3 gA (List.mem_append.2 (.inl (List.mem_append.2 (.inl (by simp [blk])))))
    have hgAne : w1.heap.size ≠ gA := fun e => hp.gA (by simp [blk, e])
    have hgAne2 : gA ≠ w1.heap.size := fun e => hgAne e.symm
    have hoR := (hp.own.cells.2 oo (List.mem_of_getElem? hoo)).1
    obtain ⟨b2, hb2e, hb2⟩ := hoR.some_ (j := oc.toNat) (by omega)
    rw [hb2e] at d2
    rw [hb2e] at hoR
    have f2 := hoR.frozen oc.toNat
    obtain ⟨xc, gxc⟩ : ∃ xc, oo.c.refs[oc.toNat]? = some xc := ⟨_, List.getElem?_eq_getElem (by omega)⟩
    have m2 : W.cell? ⟨b2, oc.toNat, none⟩ = some (.int .i64 xc) := hoR.cell gxc
    have hb2lo : w.heap.size + 3 ≤ b2 := hlo3 b2 (List.mem_append.2 (.inl (List.mem_append.2 (.inr (mem_blks (List.mem_of_getElem? hoo) (by rw [hb2e]; simp [blk]))))))
    have hb2ne : w1.heap.size ≠ b2 := fun e => hp.gO (List.mem_of_getElem? hoo) (by rw [hb2e]; simp [blk, e])
    have hb2ne2 : b2 ≠ w1.heap.size := fun e => hb2ne e.symm
    have HFIN : Hid (∃ os', PHx (w.heap.size + 3) (W.drew.setCell ⟨b2, oc.toNat, none⟩ (.int .i64 rb)) w1.heap.size ⟨setRef h.cells (rootAt h oa).toNat oc.toNat (rootAt h ob), h.roots⟩ (some ⟨gA, 0, none⟩) d (some ⟨gR, 0, none⟩) d' os') := ⟨_, by have h9 := (HP.out.below (Below.refl _ _).drew).ref_ hoo hb2e oc.toNat rb; unfold setRef; rw [rootAt_of ga, rootAt_of gb, goc]; exact h9⟩
    clear hrs gb ga gxa hp goc goc2 hoo hoR gxc hb2e
    go_still_tail 20, (by kernel_rfl)
    change wpList _ _ _ _ _ W.drew
    go_wp2
    refine bodyPost_ret (v := .agg #[.slice (some ⟨gA, 0, none⟩) h.cells.length d, .slice (some ⟨gR, 0, none⟩) h.roots.length d']) (by simp [results, Try.results95, go_sem, n0, n1]) rfl ⟨_, rfl, ?_, ?_⟩
    · obtain ⟨os', hfin⟩ := HFIN.out
      rw [HE.out]
      have h9 := (((hfin.oh).setlt (a := ⟨w.heap.size + 2, 0, none⟩) (by simp) (.slice (some ⟨gA, 0, none⟩) h.cells.length d)).setlt (a := ⟨w.heap.size + 2, 1, none⟩) (by simp) (.slice (some ⟨gR, 0, none⟩) h.roots.length d')).lo_ (show w.heap.size ≤ _ by omega)
      simp only [setRef_length, setData_length, List.length_set] at h9
      exact h9
    · exact ((HBW.out.drew.setCell (by simp; omega) _).setCell (by simp; omega) _).setCell (by simp; omega) _
  · have HE : Hid (execM h ⟨4, oa, ob, oc⟩ at_ = ⟨h.cells, h.roots.set oa.toNat (rootAt h ob)⟩) := by unfold Hid execM; simp
    simp only [maxB, maxC] at b9 c9
    have hb1 : ob < h.roots.length := by simp at b9; omega
    clear b9 c9
    go_enter Try.func95, Try.ntmps95
    go_wp2_with fail
    refine (l7Copy_any _ h _ (hv0.below (by repeat (first | ((with_reducible refine Below.setc ?_ ?_ _); focus (first | omega | (simp; done) | (simp; omega))) | ((with_reducible refine Below.allocc ?_ ?_ _); focus (first | omega | (simp; done) | (simp; omega))) | (with_reducible refine Below.drew ?_) | (with_reducible refine Below.drewn ?_) | (with_reducible assumption) | (with_reducible exact Below.refl _ _) | ((with_reducible refine Below.stepp (by with_reducible assumption) ?_ ?_); focus (first | omega | (simp; done) | (simp; omega)))))) (by omega) (fun d hd => Nat.le_trans (HV3.out d hd) (by omega)) (by omega)).mono ?_
    rintro e w1 ⟨v1, rfl, ⟨B, d, B', d', os, rfl, hm, hO, hlo⟩, hB1⟩
    obtain ⟨hbc, hbf, hbz⟩ := bcell hB1
    have z0w1 : w.heap.size < w1.heap.size := (by (try simp at hbz); omega); have z1w1 : w.heap.size + 1 < w1.heap.size := (by (try simp at hbz); omega); have z2w1 : w.heap.size + 1 + 1 < w1.heap.size := (by (try simp at hbz); omega)
    have HB1 : Below w.heap.size w w1 := (by repeat (first | ((with_reducible refine Below.setc ?_ ?_ _); focus (first | omega | (simp; done) | (simp; omega))) | ((with_reducible refine Below.allocc ?_ ?_ _); focus (first | omega | (simp; done) | (simp; omega))) | (with_reducible refine Below.drew ?_) | (with_reducible refine Below.drewn ?_) | (with_reducible assumption) | (with_reducible exact Below.refl _ _) | ((with_reducible refine Below.stepp (by with_reducible assumption) ?_ ?_); focus (first | omega | (simp; done) | (simp; omega)))))
    have HW : Below w1.heap.size w1 (w1.alloc (.cells #[.slice B h.cells.length d, .slice B' h.roots.length d'] 32)) := (by repeat (first | ((with_reducible refine Below.setc ?_ ?_ _); focus (first | omega | (simp; done) | (simp; omega))) | ((with_reducible refine Below.allocc ?_ ?_ _); focus (first | omega | (simp; done) | (simp; omega))) | (with_reducible refine Below.drew ?_) | (with_reducible refine Below.drewn ?_) | (with_reducible assumption) | (with_reducible exact Below.refl _ _) | ((with_reducible refine Below.stepp (by with_reducible assumption) ?_ ?_); focus (first | omega | (simp; done) | (simp; omega)))))
    have g0 := cell_below (show w1.cell? ⟨w.heap.size, 0, none⟩ = some (.slice A h.cells.length c) from by rw [hbc _ _ (by first | omega | (simp; done) | (simp; omega))]; simp [go_sem]) HW
    have g1 := cell_below (show w1.cell? ⟨w.heap.size, 1, none⟩ = some (.slice A' h.roots.length c') from by rw [hbc _ _ (by first | omega | (simp; done) | (simp; omega))]; simp [go_sem]) HW
    have k0 := cell_below (show w1.cell? ⟨w.heap.size + 1, 0, none⟩ = some (.int .i64 4) from by rw [hbc _ _ (by first | omega | (simp; done) | (simp; omega))]; simp [go_sem]) HW
    have k1 := cell_below (show w1.cell? ⟨w.heap.size + 1, 1, none⟩ = some (.int .i64 oa) from by rw [hbc _ _ (by first | omega | (simp; done) | (simp; omega))]; simp [go_sem]) HW
    have k2 := cell_below (show w1.cell? ⟨w.heap.size + 1, 2, none⟩ = some (.int .i64 ob) from by rw [hbc _ _ (by first | omega | (simp; done) | (simp; omega))]; simp [go_sem]) HW
    have k3 := cell_below (show w1.cell? ⟨w.heap.size + 1, 3, none⟩ = some (.int .i64 oc) from by rw [hbc _ _ (by first | omega | (simp; done) | (simp; omega))]; simp [go_sem]) HW
    have n0 := cell_below (show w1.cell? ⟨w.heap.size + 2, 0, none⟩ = some (.slice none 0 0) from by rw [hbc _ _ (by first | omega | (simp; done) | (simp; omega))]; simp [go_sem]) HW
    have n1 := cell_below (show w1.cell? ⟨w.heap.size + 2, 1, none⟩ = some (.slice none 0 0) from by rw [hbc _ _ (by first | omega | (simp; done) | (simp; omega))]; simp [go_sem]) HW
    have nf : ∀ o, ((w1.alloc (.cells #[.slice B h.cells.length d, .slice B' h.roots.length d'] 32))).frozen? ⟨w.heap.size + 2, o, none⟩ = false := fun o => ((bcell HW).2.1 _ _ (by omega)).trans (by rw [hbf _ _ (by first | omega | (simp; done) | (simp; omega))]; simp [go_sem])
    have nf0 := nf 0
    have nf1 := nf 1
    try simp only [World.size_alloc, World.size_setCell, World.size_drew, World.heap_drewN, heap_drew_] at hlo
    have hlo3 : ∀ b ∈ hblks B os B', w.heap.size + 3 ≤ b := fun b hb => by have := hlo b hb; omega
    have hp := PHx.mk_ hm hO hlo3 (by omega) 32
    have hrs := HRS.out.below (HB1.trans (HW.mono HB1.size))
    have hWs : w1.heap.size < ((w1.alloc (.cells #[.slice B h.cells.length d, .slice B' h.roots.length d'] 32))).heap.size := by simp
    have HBW : Hid (Below w.heap.size w (w1.alloc (.cells #[.slice B h.cells.length d, .slice B' h.roots.length d'] 32))) := HB1.trans (HW.mono HB1.size)
    clear hB1 hbc hbf hm hO hlo hv0 HW nf
    go_wp2_with fail
    generalize (w1.alloc (.cells #[.slice B h.cells.length d, .slice B' h.roots.length d'] 32)) = W at *
    obtain ⟨gR, rfl, hgR⟩ := hp.own.roots.some_ (j := oa.toNat) (by omega)
    have hgRlo : w.heap.size + 3 ≤ gR := hlo3 gR (List.mem_append.2 (.inr (by simp [blk])))
    have hgne : w1.heap.size ≠ gR := fun e => hp.gR (by simp [blk, e])
    have hgne2 : gR ≠ w1.heap.size := fun e => hgne e.symm
    have q0 := hp.q0
    have q1 := hp.q1
    obtain ⟨xa, gxa⟩ : ∃ xa, h.roots[oa.toNat]? = some xa := ⟨_, List.getElem?_eq_getElem (by omega)⟩
    have ma : W.cell? ⟨gR, oa.toNat, none⟩ = some (.int .i64 xa) := hp.own.roots.cell gxa
    have f := hp.own.roots.frozen oa.toNat
    have HP := Lib.hid hp
    have HGA := Lib.hid gxa
    obtain ⟨ba, p_a, xa0, rfl, -, -, -⟩ := hrs.roots.at_ (k := 0) (by omega)
    obtain ⟨rb, gb, cb0⟩ := hrs.roots.get (k := ob.toNat) (by omega)
    have cb : W.cell? ⟨ba, p_a + ob.toNat, none⟩ = some (.int .i64 rb) := cb0
    clear cb0
    have HFIN : Hid (∃ os', PHx (w.heap.size + 3) (W.drew.setCell ⟨gR, oa.toNat, none⟩ (.int .i64 rb)) w1.heap.size ⟨h.cells, h.roots.set oa.toNat (rootAt h ob)⟩ B d (some ⟨gR, 0, none⟩) d' os') := ⟨os, by have h9 := (HP.out.below (Below.refl _ _).drew).root_ oa.toNat rb; rw [rootAt_of gb]; exact h9⟩
    clear hrs gb gxa hp
    go_still_tail 11, (by kernel_rfl)
    change wpList _ _ _ _ _ W.drew
    go_wp2
    refine bodyPost_ret (v := .agg #[.slice B h.cells.length d, .slice (some ⟨gR, 0, none⟩) h.roots.length d']) (by simp [results, Try.results95, go_sem, n0, n1]) rfl ⟨_, rfl, ?_, ?_⟩
    · obtain ⟨os', hfin⟩ := HFIN.out
      rw [HE.out]
      have h9 := (((hfin.oh).setlt (a := ⟨w.heap.size + 2, 0, none⟩) (by simp) (.slice B h.cells.length d)).setlt (a := ⟨w.heap.size + 2, 1, none⟩) (by simp) (.slice (some ⟨gR, 0, none⟩) h.roots.length d')).lo_ (show w.heap.size ≤ _ by omega)
      simp only [setRef_length, setData_length, List.length_set] at h9
      exact h9
    · exact ((HBW.out.drew.setCell (by simp; omega) _).setCell (by simp; omega) _).setCell (by simp; omega) _
  · have HE : Hid (execM h ⟨5, oa, ob, oc⟩ at_ = ⟨h.cells, h.roots.set oa.toNat (-1)⟩) := by unfold Hid execM; simp
    simp only [maxB, maxC] at b9 c9
    clear b9 c9
    go_enter Try.func95, Try.ntmps95
    go_wp2_with fail
    refine (l7Copy_any _ h _ (hv0.below (by repeat (first | ((with_reducible refine Below.setc ?_ ?_ _); focus (first | omega | (simp; done) | (simp; omega))) | ((with_reducible refine Below.allocc ?_ ?_ _); focus (first | omega | (simp; done) | (simp; omega))) | (with_reducible refine Below.drew ?_) | (with_reducible refine Below.drewn ?_) | (with_reducible assumption) | (with_reducible exact Below.refl _ _) | ((with_reducible refine Below.stepp (by with_reducible assumption) ?_ ?_); focus (first | omega | (simp; done) | (simp; omega)))))) (by omega) (fun d hd => Nat.le_trans (HV3.out d hd) (by omega)) (by omega)).mono ?_
    rintro e w1 ⟨v1, rfl, ⟨B, d, B', d', os, rfl, hm, hO, hlo⟩, hB1⟩
    obtain ⟨hbc, hbf, hbz⟩ := bcell hB1
    have z0w1 : w.heap.size < w1.heap.size := (by (try simp at hbz); omega); have z1w1 : w.heap.size + 1 < w1.heap.size := (by (try simp at hbz); omega); have z2w1 : w.heap.size + 1 + 1 < w1.heap.size := (by (try simp at hbz); omega)
    have HB1 : Below w.heap.size w w1 := (by repeat (first | ((with_reducible refine Below.setc ?_ ?_ _); focus (first | omega | (simp; done) | (simp; omega))) | ((with_reducible refine Below.allocc ?_ ?_ _); focus (first | omega | (simp; done) | (simp; omega))) | (with_reducible refine Below.drew ?_) | (with_reducible refine Below.drewn ?_) | (with_reducible assumption) | (with_reducible exact Below.refl _ _) | ((with_reducible refine Below.stepp (by with_reducible assumption) ?_ ?_); focus (first | omega | (simp; done) | (simp; omega)))))
    have HW : Below w1.heap.size w1 (w1.alloc (.cells #[.slice B h.cells.length d, .slice B' h.roots.length d'] 32)) := (by repeat (first | ((with_reducible refine Below.setc ?_ ?_ _); focus (first | omega | (simp; done) | (simp; omega))) | ((with_reducible refine Below.allocc ?_ ?_ _); focus (first | omega | (simp; done) | (simp; omega))) | (with_reducible refine Below.drew ?_) | (with_reducible refine Below.drewn ?_) | (with_reducible assumption) | (with_reducible exact Below.refl _ _) | ((with_reducible refine Below.stepp (by with_reducible assumption) ?_ ?_); focus (first | omega | (simp; done) | (simp; omega)))))
    have g0 := cell_below (show w1.cell? ⟨w.heap.size, 0, none⟩ = some (.slice A h.cells.length c) from by rw [hbc _ _ (by first | omega | (simp; done) | (simp; omega))]; simp [go_sem]) HW
    have g1 := cell_below (show w1.cell? ⟨w.heap.size, 1, none⟩ = some (.slice A' h.roots.length c') from by rw [hbc _ _ (by first | omega | (simp; done) | (simp; omega))]; simp [go_sem]) HW
    have k0 := cell_below (show w1.cell? ⟨w.heap.size + 1, 0, none⟩ = some (.int .i64 5) from by rw [hbc _ _ (by first | omega | (simp; done) | (simp; omega))]; simp [go_sem]) HW
    have k1 := cell_below (show w1.cell? ⟨w.heap.size + 1, 1, none⟩ = some (.int .i64 oa) from by rw [hbc _ _ (by first | omega | (simp; done) | (simp; omega))]; simp [go_sem]) HW
    have k2 := cell_below (show w1.cell? ⟨w.heap.size + 1, 2, none⟩ = some (.int .i64 ob) from by rw [hbc _ _ (by first | omega | (simp; done) | (simp; omega))]; simp [go_sem]) HW
    have k3 := cell_below (show w1.cell? ⟨w.heap.size + 1, 3, none⟩ = some (.int .i64 oc) from by rw [hbc _ _ (by first | omega | (simp; done) | (simp; omega))]; simp [go_sem]) HW
    have n0 := cell_below (show w1.cell? ⟨w.heap.size + 2, 0, none⟩ = some (.slice none 0 0) from by rw [hbc _ _ (by first | omega | (simp; done) | (simp; omega))]; simp [go_sem]) HW
    have n1 := cell_below (show w1.cell? ⟨w.heap.size + 2, 1, none⟩ = some (.slice none 0 0) from by rw [hbc _ _ (by first | omega | (simp; done) | (simp; omega))]; simp [go_sem]) HW
    have nf : ∀ o, ((w1.alloc (.cells #[.slice B h.cells.length d, .slice B' h.roots.length d'] 32))).frozen? ⟨w.heap.size + 2, o, none⟩ = false := fun o => ((bcell HW).2.1 _ _ (by omega)).trans (by rw [hbf _ _ (by first | omega | (simp; done) | (simp; omega))]; simp [go_sem])
    have nf0 := nf 0
    have nf1 := nf 1
    try simp only [World.size_alloc, World.size_setCell, World.size_drew, World.heap_drewN, heap_drew_] at hlo
    have hlo3 : ∀ b ∈ hblks B os B', w.heap.size + 3 ≤ b := fun b hb => by have := hlo b hb; omega
    have hp := PHx.mk_ hm hO hlo3 (by omega) 32
    have hrs := HRS.out.below (HB1.trans (HW.mono HB1.size))
    have hWs : w1.heap.size < ((w1.alloc (.cells #[.slice B h.cells.length d, .slice B' h.roots.length d'] 32))).heap.size := by simp
    have HBW : Hid (Below w.heap.size w (w1.alloc (.cells #[.slice B h.cells.length d, .slice B' h.roots.length d'] 32))) := HB1.trans (HW.mono HB1.size)
    have HO1 := Lib.hid hO.roots
    clear hB1 hbc hbf hm hO hlo hv0 HW nf
    obtain ⟨gR, rfl, hgR⟩ := hp.own.roots.some_ (j := oa.toNat) (by omega)
    have hgRlo : w.heap.size + 3 ≤ gR := hlo3 gR (List.mem_append.2 (.inr (by simp [blk])))
    have hgne : w1.heap.size ≠ gR := fun e => hp.gR (by simp [blk, e])
    have hgne2 : gR ≠ w1.heap.size := fun e => hgne e.symm
    have q0 := hp.q0
    have q1 := hp.q1
    obtain ⟨xa, gxa⟩ : ∃ xa, h.roots[oa.toNat]? = some xa := ⟨_, List.getElem?_eq_getElem (by omega)⟩
    have ma : (w1.alloc (.cells #[.slice B h.cells.length d, .slice (some ⟨gR, 0, none⟩) h.roots.length d'] 32)).cell? ⟨gR, oa.toNat, none⟩ = some (.int .i64 xa) := hp.own.roots.cell gxa
    have f := hp.own.roots.frozen oa.toNat
    have m1 : w1.cell? ⟨gR, oa.toNat, none⟩ = some (.int .i64 xa) := HO1.out.cell gxa
    have f1 := HO1.out.frozen oa.toNat
    have HP := Lib.hid hp
    have HGA := Lib.hid gxa
    clear gxa hp
    have HFIN : Hid (∃ os', PHx (w.heap.size + 3) ((w1.alloc (.cells #[.slice B h.cells.length d, .slice (some ⟨gR, 0, none⟩) h.roots.length d'] 32)).setCell ⟨gR, oa.toNat, none⟩ (.int .i64 (-1))) w1.heap.size ⟨h.cells, h.roots.set oa.toNat (-1)⟩ B d (some ⟨gR, 0, none⟩) d' os') := ⟨os, HP.out.root_ oa.toNat (-1)⟩
    clear hrs
    go_wp2_with fail
    refine bodyPost_ret (v := .agg #[.slice B h.cells.length d, .slice (some ⟨gR, 0, none⟩) h.roots.length d']) (by simp [results, Try.results95, go_sem, n0, n1]) rfl ⟨_, rfl, ?_, ?_⟩
    · obtain ⟨os', hfin⟩ := HFIN.out
      rw [HE.out]
      have h9 := (((hfin.oh).setlt (a := ⟨w.heap.size + 2, 0, none⟩) (by simp) (.slice B h.cells.length d)).setlt (a := ⟨w.heap.size + 2, 1, none⟩) (by simp) (.slice (some ⟨gR, 0, none⟩) h.roots.length d')).lo_ (show w.heap.size ≤ _ by omega)
      simp only [setRef_length, setData_length, List.length_set] at h9
      exact h9
    · exact ((HBW.out.setCell (by simp; omega) _).setCell (by simp; omega) _).setCell (by simp; omega) _
  · have HE : Hid (execM h ⟨6, oa, ob, oc⟩ at_ = ⟨setData h.cells (rootAt h oa).toNat ob, h.roots⟩) := by unfold Hid execM; simp
    simp only [maxB, maxC] at b9 c9
    clear b9 c9
    go_enter Try.func95, Try.ntmps95
    go_wp2_with fail
    refine (l7Copy_any _ h _ (hv0.below (by repeat (first | ((with_reducible refine Below.setc ?_ ?_ _); focus (first | omega | (simp; done) | (simp; omega))) | ((with_reducible refine Below.allocc ?_ ?_ _); focus (first | omega | (simp; done) | (simp; omega))) | (with_reducible refine Below.drew ?_) | (with_reducible refine Below.drewn ?_) | (with_reducible assumption) | (with_reducible exact Below.refl _ _) | ((with_reducible refine Below.stepp (by with_reducible assumption) ?_ ?_); focus (first | omega | (simp; done) | (simp; omega)))))) (by omega) (fun d hd => Nat.le_trans (HV3.out d hd) (by omega)) (by omega)).mono ?_
    rintro e w1 ⟨v1, rfl, ⟨B, d, B', d', os, rfl, hm, hO, hlo⟩, hB1⟩
    obtain ⟨hbc, hbf, hbz⟩ := bcell hB1
    have z0w1 : w.heap.size < w1.heap.size := (by (try simp at hbz); omega); have z1w1 : w.heap.size + 1 < w1.heap.size := (by (try simp at hbz); omega); have z2w1 : w.heap.size + 1 + 1 < w1.heap.size := (by (try simp at hbz); omega)
    have HB1 : Below w.heap.size w w1 := (by repeat (first | ((with_reducible refine Below.setc ?_ ?_ _); focus (first | omega | (simp; done) | (simp; omega))) | ((with_reducible refine Below.allocc ?_ ?_ _); focus (first | omega | (simp; done) | (simp; omega))) | (with_reducible refine Below.drew ?_) | (with_reducible refine Below.drewn ?_) | (with_reducible assumption) | (with_reducible exact Below.refl _ _) | ((with_reducible refine Below.stepp (by with_reducible assumption) ?_ ?_); focus (first | omega | (simp; done) | (simp; omega)))))
    have HW : Below w1.heap.size w1 (w1.alloc (.cells #[.slice B h.cells.length d, .slice B' h.roots.length d'] 32)) := (by repeat (first | ((with_reducible refine Below.setc ?_ ?_ _); focus (first | omega | (simp; done) | (simp; omega))) | ((with_reducible refine Below.allocc ?_ ?_ _); focus (first | omega | (simp; done) | (simp; omega))) | (with_reducible refine Below.drew ?_) | (with_reducible refine Below.drewn ?_) | (with_reducible assumption) | (with_reducible exact Below.refl _ _) | ((with_reducible refine Below.stepp (by with_reducible assumption) ?_ ?_); focus (first | omega | (simp; done) | (simp; omega)))))
    have g0 := cell_below (show w1.cell? ⟨w.heap.size, 0, none⟩ = some (.slice A h.cells.length c) from by rw [hbc _ _ (by first | omega | (simp; done) | (simp; omega))]; simp [go_sem]) HW
    have g1 := cell_below (show w1.cell? ⟨w.heap.size, 1, none⟩ = some (.slice A' h.roots.length c') from by rw [hbc _ _ (by first | omega | (simp; done) | (simp; omega))]; simp [go_sem]) HW
    have k0 := cell_below (show w1.cell? ⟨w.heap.size + 1, 0, none⟩ = some (.int .i64 6) from by rw [hbc _ _ (by first | omega | (simp; done) | (simp; omega))]; simp [go_sem]) HW
    have k1 := cell_below (show w1.cell? ⟨w.heap.size + 1, 1, none⟩ = some (.int .i64 oa) from by rw [hbc _ _ (by first | omega | (simp; done) | (simp; omega))]; simp [go_sem]) HW
    have k2 := cell_below (show w1.cell? ⟨w.heap.size + 1, 2, none⟩ = some (.int .i64 ob) from by rw [hbc _ _ (by first | omega | (simp; done) | (simp; omega))]; simp [go_sem]) HW
    have k3 := cell_below (show w1.cell? ⟨w.heap.size + 1, 3, none⟩ = some (.int .i64 oc) from by rw [hbc _ _ (by first | omega | (simp; done) | (simp; omega))]; simp [go_sem]) HW
    have n0 := cell_below (show w1.cell? ⟨w.heap.size + 2, 0, none⟩ = some (.slice none 0 0) from by rw [hbc _ _ (by first | omega | (simp; done) | (simp; omega))]; simp [go_sem]) HW
    have n1 := cell_below (show w1.cell? ⟨w.heap.size + 2, 1, none⟩ = some (.slice none 0 0) from by rw [hbc _ _ (by first | omega | (simp; done) | (simp; omega))]; simp [go_sem]) HW
    have nf : ∀ o, ((w1.alloc (.cells #[.slice B h.cells.length d, .slice B' h.roots.length d'] 32))).frozen? ⟨w.heap.size + 2, o, none⟩ = false := fun o => ((bcell HW).2.1 _ _ (by omega)).trans (by rw [hbf _ _ (by first | omega | (simp; done) | (simp; omega))]; simp [go_sem])
    have nf0 := nf 0
    have nf1 := nf 1
    try simp only [World.size_alloc, World.size_setCell, World.size_drew, World.heap_drewN, heap_drew_] at hlo
    have hlo3 : ∀ b ∈ hblks B os B', w.heap.size + 3 ≤ b := fun b hb => by have := hlo b hb; omega
    have hp := PHx.mk_ hm hO hlo3 (by omega) 32
    have hrs := HRS.out.below (HB1.trans (HW.mono HB1.size))
    have hWs : w1.heap.size < ((w1.alloc (.cells #[.slice B h.cells.length d, .slice B' h.roots.length d'] 32))).heap.size := by simp
    have HBW : Hid (Below w.heap.size w (w1.alloc (.cells #[.slice B h.cells.length d, .slice B' h.roots.length d'] 32))) := HB1.trans (HW.mono HB1.size)
    clear hB1 hbc hbf hm hO hlo hv0 HW nf
    go_wp2_with fail
    generalize (w1.alloc (.cells #[.slice B h.cells.length d, .slice B' h.roots.length d'] 32)) = W at *
    obtain ⟨gR, rfl, hgR⟩ := hp.own.roots.some_ (j := oa.toNat) (by omega)
    have hgRlo : w.heap.size + 3 ≤ gR := hlo3 gR (List.mem_append.2 (.inr (by simp [blk])))
    have hgne : w1.heap.size ≠ gR := fun e => hp.gR (by simp [blk, e])
    have hgne2 : gR ≠ w1.heap.size := fun e => hgne e.symm
    have q0 := hp.q0
    have q1 := hp.q1
    obtain ⟨xa, gxa⟩ : ∃ xa, h.roots[oa.toNat]? = some xa := ⟨_, List.getElem?_eq_getElem (by omega)⟩
    have ma : W.cell? ⟨gR, oa.toNat, none⟩ = some (.int .i64 xa) := hp.own.roots.cell gxa
    have f := hp.own.roots.frozen oa.toNat
    have HP := Lib.hid hp
    have HGA := Lib.hid gxa
    obtain ⟨ba, p_a, xa0, rfl, -, -, -⟩ := hrs.roots.at_ (k := 0) (by omega)
    obtain ⟨ra, ga, ca0⟩ := hrs.roots.get (k := oa.toNat) (by omega)
    have ca : W.cell? ⟨ba, p_a + oa.toNat, none⟩ = some (.int .i64 ra) := ca0
    clear ca0
    have hr0 : 0 ≤ rootAt h oa := by have := HPS.out; simpa [possO] using this
    rw [rootAt_of ga] at hr0
    have hrl := HLT.out ra (List.mem_of_getElem? ga)
    obtain ⟨oc0, goc⟩ : ∃ oc0, h.cells[ra.toNat]? = some oc0 := ⟨_, List.getElem?_eq_getElem (by omega)⟩
    have goc2 := goc
    rw [← hp.map, List.getElem?_map] at goc2
    obtain ⟨oo, hoo, rfl⟩ := Option.map_eq_some_iff.1 goc2
    obtain ⟨gA, rfl, d0, d1, d2, hgA⟩ := hp.own.cells.at_ hoo
    have hgAlo : w.heap.size + 3 ≤ gA := hlo3 gA (List.mem_append.2 (.inl (List.mem_append.2 (.inl (by simp [blk])))))
    have hgAne : w1.heap.size ≠ gA := fun e => hp.gA (by simp [blk, e])
    have hgAne2 : gA ≠ w1.heap.size := fun e => hgAne e.symm
    have fA := hp.own.cells.frozen (ra.toNat * 3 + 1)
    have HFIN : Hid (∃ os', PHx (w.heap.size + 3) (W.drew.setCell ⟨gA, ra.toNat * 3 + 1, none⟩ (.int .i64 ob)) w1.heap.size ⟨setData h.cells (rootAt h oa).toNat ob, h.roots⟩ (some ⟨gA, 0, none⟩) d (some ⟨gR, 0, none⟩) d' os') := ⟨_, by have h9 := (HP.out.below (Below.refl _ _).drew).data_ hoo ob; unfold setData; rw [rootAt_of ga, goc]; exact h9⟩
    clear hrs ga gxa hp goc goc2 hoo
    go_still_tail 12, (by kernel_rfl)
    change wpList _ _ _ _ _ W.drew
    go_wp2
    refine bodyPost_ret (v := .agg #[.slice (some ⟨gA, 0, none⟩) h.cells.length d, .slice (some ⟨gR, 0, none⟩) h.roots.length d']) (by simp [results, Try.results95, go_sem, n0, n1]) rfl ⟨_, rfl, ?_, ?_⟩
    · obtain ⟨os', hfin⟩ := HFIN.out
      rw [HE.out]
      have h9 := (((hfin.oh).setlt (a := ⟨w.heap.size + 2, 0, none⟩) (by simp) (.slice (some ⟨gA, 0, none⟩) h.cells.length d)).setlt (a := ⟨w.heap.size + 2, 1, none⟩) (by simp) (.slice (some ⟨gR, 0, none⟩) h.roots.length d')).lo_ (show w.heap.size ≤ _ by omega)
      simp only [setRef_length, setData_length, List.length_set] at h9
      exact h9
    · exact ((HBW.out.drew.setCell (by simp; omega) _).setCell (by simp; omega) _).setCell (by simp; omega) _
end Go.Proofs.Ytkmfhadanbfadaa
