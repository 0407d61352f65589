/- The reference's CommandPossible is possM. -/
import Derived.Test.YtngmkflmjjkjaaaChecked
import Derived.Deep.RegionHeld3
import Derived.Deep.DeepCutAuto
import Derived.Test.YtngmkflmjjkjaaaCmdQ
namespace Go.Proofs.Ytngmkflmjjkjaaa
open Go.RowKit
set_option maxRecDepth 100000
set_option linter.unusedSimpArgs false
set_option linter.unusedVariables false
theorem RF.get {α : Type} {f : α → Value} {w : World} {b o : Nat} {xs : List α} (h : RF f w (some ⟨b, o, none⟩) xs) {k : Nat} (hk : k < xs.length) : ∃ x, xs[k]? = some x ∧ w.cell? ⟨b, o + k, none⟩ = some (f x) := by
  obtain ⟨b2, o2, x, e, g, c⟩ := h k hk
  injection e with e
  injection e with e1 e2
  subst e1; subst e2
  exact ⟨x, g, c⟩
set_option maxHeartbeats 4000000 in
theorem l8Place_any (A A' : Option Addr) (c c' : Nat) (h : HeapM) (n pl : Int) (w : World) (hv : RHs w A A' h) (hlt : n < h.cells.length) :
    Calls Try.prog 67 #[.agg #[.slice A h.cells.length c, .slice A' h.roots.length c'], .int .i64 n, .int .i64 pl] w fun e w' => e = .returned (.bool (decide (0 ≤ n) && decide (pl < ((refsAt h n.toNat).length : Int)))) ∧ Below w.heap.size w w' := by
  obtain ⟨hc, hr, hl1, hl2⟩ := hv
  rcases Classical.em (0 ≤ n) with h0 | h0
  · obtain ⟨b, o, d, Ar, cr, rfl, gd, c2, c3, c4, hrr, hrl, hb⟩ := hc.at_ (k := n.toNat) (by omega)
    have c4' : (w.alloc (.cells #[.slice (some ⟨b, o, none⟩) h.cells.length c, .slice A' h.roots.length c'] 28)).cell? ⟨b, o + n.toNat * 3 + 2, none⟩ = some (.slice Ar d.refs.length cr) := cell_below c4 (by repeat (first | ((with_reducible refine Below.setc ?_ ?_ _); focus (first | omega | (simp; done) | (simp; omega))) | ((with_reducible refine Below.allocc ?_ ?_ _); focus (first | omega | (simp; done) | (simp; omega))) | (with_reducible refine Below.drew ?_) | (with_reducible refine Below.drewn ?_) | (with_reducible assumption) | (with_reducible exact Below.refl _ _) | ((with_reducible refine Below.stepp (by with_reducible assumption) ?_ ?_); focus (first | omega | (simp; done) | (simp; omega)))))
    have HR := Lib.hid (refsAt_of gd)
    clear gd c2 c3 c4 hc hr hrr
    rcases Classical.em (pl < (d.refs.length : Int)) with h1 | h1
    · go_enter Try.func67, Try.ntmps67
      go_wp2
      go_ret
      exact ⟨ret_bool (by rw [HR.out]; simp [h0, h1]), (by repeat (first | ((with_reducible refine Below.setc ?_ ?_ _); focus (first | omega | (simp; done) | (simp; omega))) | ((with_reducible refine Below.allocc ?_ ?_ _); focus (first | omega | (simp; done) | (simp; omega))) | (with_reducible refine Below.drew ?_) | (with_reducible refine Below.drewn ?_) | (with_reducible assumption) | (with_reducible exact Below.refl _ _) | ((with_reducible refine Below.stepp (by with_reducible assumption) ?_ ?_); focus (first | omega | (simp; done) | (simp; omega)))))⟩
    · go_enter Try.func67, Try.ntmps67
      go_wp2
      go_ret
      exact ⟨ret_bool (by rw [HR.out]; simp [h0, h1]), (by repeat (first | ((with_reducible refine Below.setc ?_ ?_ _); focus (first | omega | (simp; done) | (simp; omega))) | ((with_reducible refine Below.allocc ?_ ?_ _); focus (first | omega | (simp; done) | (simp; omega))) | (with_reducible refine Below.drew ?_) | (with_reducible refine Below.drewn ?_) | (with_reducible assumption) | (with_reducible exact Below.refl _ _) | ((with_reducible refine Below.stepp (by with_reducible assumption) ?_ ?_); focus (first | omega | (simp; done) | (simp; omega)))))⟩
  · go_enter Try.func67, Try.ntmps67
    go_wp2
    go_ret
    exact ⟨ret_bool (by have h9 : decide (0 ≤ n) = false := by simpa using h0
                        rw [h9]; rfl), (by repeat (first | ((with_reducible refine Below.setc ?_ ?_ _); focus (first | omega | (simp; done) | (simp; omega))) | ((with_reducible refine Below.allocc ?_ ?_ _); focus (first | omega | (simp; done) | (simp; omega))) | (with_reducible refine Below.drew ?_) | (with_reducible refine Below.drewn ?_) | (with_reducible assumption) | (with_reducible exact Below.refl _ _) | ((with_reducible refine Below.stepp (by with_reducible assumption) ?_ ?_); focus (first | omega | (simp; done) | (simp; omega)))))⟩
set_option maxHeartbeats 4000000 in
theorem specCommandPossible_any (v : Value) (h : HeapM) (o : CmdM) (w : World) (hv : RH w v h) :
    Calls Try.prog 25 #[v, .agg #[.int .i64 o.op, .int .i64 o.a, .int .i64 o.b, .int .i64 o.c]] w fun e w' => e = .returned (.bool (possM h o)) ∧ Below w.heap.size w w' := by
  have hv0 := hv
  obtain ⟨A, c, A', c', rfl, hc, hr, hl1, hl2⟩ := hv
  have hrhs : RHs w A A' h := ⟨hc, hr, hl1, hl2⟩
  cases hva : validM h
  · have HV := Lib.hid hva
    have HPM := Lib.hid (possM_false (o := o) hva)
    clear hva
    go_enter Try.func25, Try.ntmps25
    go_wp2_with (go_at_call 33; (refine (specHeapValid_any _ h _ (hv0.below (by repeat (first | ((with_reducible refine Below.setc ?_ ?_ _); focus (first | omega | (simp; done) | (simp; omega))) | ((with_reducible refine Below.allocc ?_ ?_ _); focus (first | omega | (simp; done) | (simp; omega))) | (with_reducible refine Below.drew ?_) | (with_reducible refine Below.drewn ?_) | (with_reducible assumption) | (with_reducible exact Below.refl _ _) | ((with_reducible refine Below.stepp (by with_reducible assumption) ?_ ?_); focus (first | omega | (simp; done) | (simp; omega))))))).mono ?_); rw [HV.out]; rintro e w1 ⟨rfl, hB1⟩; obtain ⟨hbc, hbf, hbz⟩ := bcell hB1; have z0w1 : w.heap.size < w1.heap.size := (by (try simp at hbz); omega); have z1w1 : w.heap.size + 1 < w1.heap.size := (by (try simp at hbz); omega))
    go_ret
    exact ⟨ret_bool HPM.out.symm, (by repeat (first | ((with_reducible refine Below.setc ?_ ?_ _); focus (first | omega | (simp; done) | (simp; omega))) | ((with_reducible refine Below.allocc ?_ ?_ _); focus (first | omega | (simp; done) | (simp; omega))) | (with_reducible refine Below.drew ?_) | (with_reducible refine Below.drewn ?_) | (with_reducible assumption) | (with_reducible exact Below.refl _ _) | ((with_reducible refine Below.stepp (by with_reducible assumption) ?_ ?_); focus (first | omega | (simp; done) | (simp; omega)))))⟩
  have hvm := hva
  have HV := Lib.hid hva
  clear hva
  obtain ⟨op, oa, ob, oc⟩ := o
  dsimp only
  cases hok : cmdOk ⟨op, oa, ob, oc⟩
  · have HO := Lib.hid hok
    have HPM := Lib.hid (possM_bad (h := h) hok)
    clear hok hvm
    go_enter Try.func25, Try.ntmps25
    go_wp2_with fail
    refine (specHeapValid_any _ h _ (hv0.below (by repeat (first | ((with_reducible refine Below.setc ?_ ?_ _); focus (first | omega | (simp; done) | (simp; omega))) | ((with_reducible refine Below.allocc ?_ ?_ _); focus (first | omega | (simp; done) | (simp; omega))) | (with_reducible refine Below.drew ?_) | (with_reducible refine Below.drewn ?_) | (with_reducible assumption) | (with_reducible exact Below.refl _ _) | ((with_reducible refine Below.stepp (by with_reducible assumption) ?_ ?_); focus (first | omega | (simp; done) | (simp; omega))))))).mono ?_
    rw [HV.out]
    rintro e w1 ⟨rfl, hB1⟩
    obtain ⟨hbc, hbf, hbz⟩ := bcell hB1
    have z0w1 : w.heap.size < w1.heap.size := (by (try simp at hbz); omega); have z1w1 : w.heap.size + 1 < w1.heap.size := (by (try simp at hbz); omega)
    go_wp2_with fail
    refine (specCommandValid_any ⟨op, oa, ob, oc⟩ _).mono ?_
    rw [HO.out]
    rintro e w2 ⟨rfl, hB2⟩
    go_wp2
    go_ret
    exact ⟨ret_bool HPM.out.symm, (by repeat (first | ((with_reducible refine Below.setc ?_ ?_ _); focus (first | omega | (simp; done) | (simp; omega))) | ((with_reducible refine Below.allocc ?_ ?_ _); focus (first | omega | (simp; done) | (simp; omega))) | (with_reducible refine Below.drew ?_) | (with_reducible refine Below.drewn ?_) | (with_reducible assumption) | (with_reducible exact Below.refl _ _) | ((with_reducible refine Below.stepp (by with_reducible assumption) ?_ ?_); focus (first | omega | (simp; done) | (simp; omega)))))⟩
  have HO := Lib.hid hok
  have HPM := Lib.hid (possM_ok hvm hok)
  obtain ⟨v1, v2, v3⟩ := valid_small hvm
  have hlt := (validM_lt hvm).2
  obtain ⟨⟨o1, o6⟩, ⟨a0, a3⟩, ⟨b0, b9⟩, ⟨c0, c9⟩⟩ := cmdOk_iff.1 hok
  dsimp only at *
  have ha1 : oa < h.roots.length := by omega
  have hr4 : 4 ≤ h.roots.length := by omega
  clear hvm hok v2 v3
  obtain ⟨ba, p_a, xa0, rfl, -, -, -⟩ := hr.at_ (k := 0) (by omega)
  obtain ⟨ra, ga, ca⟩ := hr.get (k := oa.toNat) (by omega)
  have hra := hlt ra (List.mem_of_getElem? ga)
  have HRA := Lib.hid (rootAt_of ga)
  have HRS := Lib.hid hrhs
  have HLT := Lib.hid hlt
  clear ga hc hrhs hlt
  rcases (by omega : op = 1 ∨ op = 2 ∨ op = 3 ∨ op = 4 ∨ op = 5 ∨ op = 6) with rfl | rfl | rfl | rfl | rfl | rfl
  · simp only [maxB, maxC] at b9 c9
    clear b9 c9 hr
    go_enter Try.func25, Try.ntmps25
    go_wp2_with fail
    refine (specHeapValid_any _ h _ (hv0.below (by repeat (first | ((with_reducible refine Below.setc ?_ ?_ _); focus (first | omega | (simp; done) | (simp; omega))) | ((with_reducible refine Below.allocc ?_ ?_ _); focus (first | omega | (simp; done) | (simp; omega))) | (with_reducible refine Below.drew ?_) | (with_reducible refine Below.drewn ?_) | (with_reducible assumption) | (with_reducible exact Below.refl _ _) | ((with_reducible refine Below.stepp (by with_reducible assumption) ?_ ?_); focus (first | omega | (simp; done) | (simp; omega))))))).mono ?_
    rw [HV.out]
    rintro e w1 ⟨rfl, hB1⟩
    obtain ⟨hbc, hbf, hbz⟩ := bcell hB1
    have z0w1 : w.heap.size < w1.heap.size := (by (try simp at hbz); omega); have z1w1 : w.heap.size + 1 < w1.heap.size := (by (try simp at hbz); omega)
    go_wp2_with fail
    refine (specCommandValid_any ⟨1, oa, ob, oc⟩ _).mono ?_
    rw [HO.out]
    rintro e w2 ⟨rfl, hB2⟩
    have hz2 := hB2.size
    have HBx : Below (((w.alloc (.cells #[.slice A h.cells.length c, .slice (some ⟨ba, p_a, none⟩) h.roots.length c'] 28)).alloc (.cells #[.int .i64 1, .int .i64 oa, .int .i64 ob, .int .i64 oc] 36))).heap.size ((w.alloc (.cells #[.slice A h.cells.length c, .slice (some ⟨ba, p_a, none⟩) h.roots.length c'] 28)).alloc (.cells #[.int .i64 1, .int .i64 oa, .int .i64 ob, .int .i64 oc] 36)) w2 := (by repeat (first | ((with_reducible refine Below.setc ?_ ?_ _); focus (first | omega | (simp; done) | (simp; omega))) | ((with_reducible refine Below.allocc ?_ ?_ _); focus (first | omega | (simp; done) | (simp; omega))) | (with_reducible refine Below.drew ?_) | (with_reducible refine Below.drewn ?_) | (with_reducible assumption) | (with_reducible exact Below.refl _ _) | ((with_reducible refine Below.stepp (by with_reducible assumption) ?_ ?_); focus (first | omega | (simp; done) | (simp; omega)))))
    have hBw : Below w.heap.size w w2 := (by repeat (first | ((with_reducible refine Below.setc ?_ ?_ _); focus (first | omega | (simp; done) | (simp; omega))) | ((with_reducible refine Below.allocc ?_ ?_ _); focus (first | omega | (simp; done) | (simp; omega))) | (with_reducible refine Below.drew ?_) | (with_reducible refine Below.drewn ?_) | (with_reducible assumption) | (with_reducible exact Below.refl _ _) | ((with_reducible refine Below.stepp (by with_reducible assumption) ?_ ?_); focus (first | omega | (simp; done) | (simp; omega)))))
    have k0 := cell_below (w := ((w.alloc (.cells #[.slice A h.cells.length c, .slice (some ⟨ba, p_a, none⟩) h.roots.length c'] 28)).alloc (.cells #[.int .i64 1, .int .i64 oa, .int .i64 ob, .int .i64 oc] 36))) (a := ⟨w.heap.size, 0, none⟩) (v := .slice A h.cells.length c) (by simp [go_sem]) HBx
    have k1 := cell_below (w := ((w.alloc (.cells #[.slice A h.cells.length c, .slice (some ⟨ba, p_a, none⟩) h.roots.length c'] 28)).alloc (.cells #[.int .i64 1, .int .i64 oa, .int .i64 ob, .int .i64 oc] 36))) (a := ⟨w.heap.size, 1, none⟩) (v := .slice (some ⟨ba, p_a, none⟩) h.roots.length c') (by simp [go_sem]) HBx
    have m0 := cell_below (w := ((w.alloc (.cells #[.slice A h.cells.length c, .slice (some ⟨ba, p_a, none⟩) h.roots.length c'] 28)).alloc (.cells #[.int .i64 1, .int .i64 oa, .int .i64 ob, .int .i64 oc] 36))) (a := ⟨w.heap.size + 1, 0, none⟩) (v := .int .i64 1) (by simp [go_sem]) HBx
    have m1 := cell_below (w := ((w.alloc (.cells #[.slice A h.cells.length c, .slice (some ⟨ba, p_a, none⟩) h.roots.length c'] 28)).alloc (.cells #[.int .i64 1, .int .i64 oa, .int .i64 ob, .int .i64 oc] 36))) (a := ⟨w.heap.size + 1, 1, none⟩) (v := .int .i64 oa) (by simp [go_sem]) HBx
    have m2 := cell_below (w := ((w.alloc (.cells #[.slice A h.cells.length c, .slice (some ⟨ba, p_a, none⟩) h.roots.length c'] 28)).alloc (.cells #[.int .i64 1, .int .i64 oa, .int .i64 ob, .int .i64 oc] 36))) (a := ⟨w.heap.size + 1, 2, none⟩) (v := .int .i64 ob) (by simp [go_sem]) HBx
    have m3 := cell_below (w := ((w.alloc (.cells #[.slice A h.cells.length c, .slice (some ⟨ba, p_a, none⟩) h.roots.length c'] 28)).alloc (.cells #[.int .i64 1, .int .i64 oa, .int .i64 ob, .int .i64 oc] 36))) (a := ⟨w.heap.size + 1, 3, none⟩) (v := .int .i64 oc) (by simp [go_sem]) HBx
    have da : w2.cell? ⟨ba, p_a + oa.toNat, none⟩ = some (.int .i64 ra) := cell_below ca hBw
    have hrw := HRS.out.below hBw
    have HBW := Lib.hid hBw
    clear hbc hbf hB1 hB2 HBx hBw
    go_wp2
    go_ret
    exact ⟨ret_bool (by rw [HPM.out]; unfold possO; simp), HBW.out⟩
  · simp only [maxB, maxC] at b9 c9
    have hb1 : ob < h.roots.length := by simp at b9; omega
    obtain ⟨rb, gb, cb⟩ := hr.get (k := ob.toNat) (by omega)
    have hrb := HLT.out rb (List.mem_of_getElem? gb)
    have HRB := Lib.hid (rootAt_of gb)
    clear gb
    clear b9 c9 hr
    go_enter Try.func25, Try.ntmps25
    go_wp2_with fail
    refine (specHeapValid_any _ h _ (hv0.below (by repeat (first | ((with_reducible refine Below.setc ?_ ?_ _); focus (first | omega | (simp; done) | (simp; omega))) | ((with_reducible refine Below.allocc ?_ ?_ _); focus (first | omega | (simp; done) | (simp; omega))) | (with_reducible refine Below.drew ?_) | (with_reducible refine Below.drewn ?_) | (with_reducible assumption) | (with_reducible exact Below.refl _ _) | ((with_reducible refine Below.stepp (by with_reducible assumption) ?_ ?_); focus (first | omega | (simp; done) | (simp; omega))))))).mono ?_
    rw [HV.out]
    rintro e w1 ⟨rfl, hB1⟩
    obtain ⟨hbc, hbf, hbz⟩ := bcell hB1
    have z0w1 : w.heap.size < w1.heap.size := (by (try simp at hbz); omega); have z1w1 : w.heap.size + 1 < w1.heap.size := (by (try simp at hbz); omega)
    go_wp2_with fail
    refine (specCommandValid_any ⟨2, oa, ob, oc⟩ _).mono ?_
    rw [HO.out]
    rintro e w2 ⟨rfl, hB2⟩
    have hz2 := hB2.size
    have HBx : Below (((w.alloc (.cells #[.slice A h.cells.length c, .slice (some ⟨ba, p_a, none⟩) h.roots.length c'] 28)).alloc (.cells #[.int .i64 2, .int .i64 oa, .int .i64 ob, .int .i64 oc] 36))).heap.size ((w.alloc (.cells #[.slice A h.cells.length c, .slice (some ⟨ba, p_a, none⟩) h.roots.length c'] 28)).alloc (.cells #[.int .i64 2, .int .i64 oa, .int .i64 ob, .int .i64 oc] 36)) w2 := (by repeat (first | ((with_reducible refine Below.setc ?_ ?_ _); focus (first | omega | (simp; done) | (simp; omega))) | ((with_reducible refine Below.allocc ?_ ?_ _); focus (first | omega | (simp; done) | (simp; omega))) | (with_reducible refine Below.drew ?_) | (with_reducible refine Below.drewn ?_) | (with_reducible assumption) | (with_reducible exact Below.refl _ _) | ((with_reducible refine Below.stepp (by with_reducible assumption) ?_ ?_); focus (first | omega | (simp; done) | (simp; omega)))))
    have hBw : Below w.heap.size w w2 := (by repeat (first | ((with_reducible refine Below.setc ?_ ?_ _); focus (first | omega | (simp; done) | (simp; omega))) | ((with_reducible refine Below.allocc ?_ ?_ _); focus (first | omega | (simp; done) | (simp; omega))) | (with_reducible refine Below.drew ?_) | (with_reducible refine Below.drewn ?_) | (with_reducible assumption) | (with_reducible exact Below.refl _ _) | ((with_reducible refine Below.stepp (by with_reducible assumption) ?_ ?_); focus (first | omega | (simp; done) | (simp; omega)))))
    have k0 := cell_below (w := ((w.alloc (.cells #[.slice A h.cells.length c, .slice (some ⟨ba, p_a, none⟩) h.roots.length c'] 28)).alloc (.cells #[.int .i64 2, .int .i64 oa, .int .i64 ob, .int .i64 oc] 36))) (a := ⟨w.heap.size, 0, none⟩) (v := .slice A h.cells.length c) (by simp [go_sem]) HBx
    have k1 := cell_below (w := ((w.alloc (.cells #[.slice A h.cells.length c, .slice (some ⟨ba, p_a, none⟩) h.roots.length c'] 28)).alloc (.cells #[.int .i64 2, .int .i64 oa, .int .i64 ob, .int .i64 oc] 36))) (a := ⟨w.heap.size, 1, none⟩) (v := .slice (some ⟨ba, p_a, none⟩) h.roots.length c') (by simp [go_sem]) HBx
    have m0 := cell_below (w := ((w.alloc (.cells #[.slice A h.cells.length c, .slice (some ⟨ba, p_a, none⟩) h.roots.length c'] 28)).alloc (.cells #[.int .i64 2, .int .i64 oa, .int .i64 ob, .int .i64 oc] 36))) (a := ⟨w.heap.size + 1, 0, none⟩) (v := .int .i64 2) (by simp [go_sem]) HBx
    have m1 := cell_below (w := ((w.alloc (.cells #[.slice A h.cells.length c, .slice (some ⟨ba, p_a, none⟩) h.roots.length c'] 28)).alloc (.cells #[.int .i64 2, .int .i64 oa, .int .i64 ob, .int .i64 oc] 36))) (a := ⟨w.heap.size + 1, 1, none⟩) (v := .int .i64 oa) (by simp [go_sem]) HBx
    have m2 := cell_below (w := ((w.alloc (.cells #[.slice A h.cells.length c, .slice (some ⟨ba, p_a, none⟩) h.roots.length c'] 28)).alloc (.cells #[.int .i64 2, .int .i64 oa, .int .i64 ob, .int .i64 oc] 36))) (a := ⟨w.heap.size + 1, 2, none⟩) (v := .int .i64 ob) (by simp [go_sem]) HBx
    have m3 := cell_below (w := ((w.alloc (.cells #[.slice A h.cells.length c, .slice (some ⟨ba, p_a, none⟩) h.roots.length c'] 28)).alloc (.cells #[.int .i64 2, .int .i64 oa, .int .i64 ob, .int .i64 oc] 36))) (a := ⟨w.heap.size + 1, 3, none⟩) (v := .int .i64 oc) (by simp [go_sem]) HBx
    have da : w2.cell? ⟨ba, p_a + oa.toNat, none⟩ = some (.int .i64 ra) := cell_below ca hBw
    have db : w2.cell? ⟨ba, p_a + ob.toNat, none⟩ = some (.int .i64 rb) := cell_below cb hBw
    have hrw := HRS.out.below hBw
    have HBW := Lib.hid hBw
    clear hbc hbf hB1 hB2 HBx hBw
    go_wp2_with fail
    go_still_tail 9, (by kernel_rfl)
    change wpList _ _ _ _ _ w2.drew
    go_wp2_with fail
    (with_reducible refine (l8Place_any A _ c c' h rb oc _ (hrw.below (Below.refl _ _).drew) hrb).mono ?_)
    rintro e w3 ⟨rfl, hB3⟩
    go_wp2
    go_ret
    exact ⟨ret_bool (by rw [HPM.out]; unfold possO placeOk; rw [HRB.out]; simp), HBW.out.drew.trans (hB3.mono HBW.out.size)⟩
  · simp only [maxB, maxC] at b9 c9
    clear b9 c9 hr
    go_enter Try.func25, Try.ntmps25
    go_wp2_with fail
    refine (specHeapValid_any _ h _ (hv0.below (by repeat (first | ((with_reducible refine Below.setc ?_ ?_ _); focus (first | omega | (simp; done) | (simp; omega))) | ((with_reducible refine Below.allocc ?_ ?_ _); focus (first | omega | (simp; done) | (simp; omega))) | (with_reducible refine Below.drew ?_) | (with_reducible refine Below.drewn ?_) | (with_reducible assumption) | (with_reducible exact Below.refl _ _) | ((with_reducible refine Below.stepp (by with_reducible assumption) ?_ ?_); focus (first | omega | (simp; done) | (simp; omega))))))).mono ?_
    rw [HV.out]
    rintro e w1 ⟨rfl, hB1⟩
    obtain ⟨hbc, hbf, hbz⟩ := bcell hB1
    have z0w1 : w.heap.size < w1.heap.size := (by (try simp at hbz); omega); have z1w1 : w.heap.size + 1 < w1.heap.size := (by (try simp at hbz); omega)
    go_wp2_with fail
    refine (specCommandValid_any ⟨3, oa, ob, oc⟩ _).mono ?_
    rw [HO.out]
    rintro e w2 ⟨rfl, hB2⟩
    have hz2 := hB2.size
    have HBx : Below (((w.alloc (.cells #[.slice A h.cells.length c, .slice (some ⟨ba, p_a, none⟩) h.roots.length c'] 28)).alloc (.cells #[.int .i64 3, .int .i64 oa, .int .i64 ob, .int .i64 oc] 36))).heap.size ((w.alloc (.cells #[.slice A h.cells.length c, .slice (some ⟨ba, p_a, none⟩) h.roots.length c'] 28)).alloc (.cells #[.int .i64 3, .int .i64 oa, .int .i64 ob, .int .i64 oc] 36)) w2 := (by repeat (first | ((with_reducible refine Below.setc ?_ ?_ _); focus (first | omega | (simp; done) | (simp; omega))) | ((with_reducible refine Below.allocc ?_ ?_ _); focus (first | omega | (simp; done) | (simp; omega))) | (with_reducible refine Below.drew ?_) | (with_reducible refine Below.drewn ?_) | (with_reducible assumption) | (with_reducible exact Below.refl _ _) | ((with_reducible refine Below.stepp (by with_reducible assumption) ?_ ?_); focus (first | omega | (simp; done) | (simp; omega)))))
    have hBw : Below w.heap.size w w2 := (by repeat (first | ((with_reducible refine Below.setc ?_ ?_ _); focus (first | omega | (simp; done) | (simp; omega))) | ((with_reducible refine Below.allocc ?_ ?_ _); focus (first | omega | (simp; done) | (simp; omega))) | (with_reducible refine Below.drew ?_) | (with_reducible refine Below.drewn ?_) | (with_reducible assumption) | (with_reducible exact Below.refl _ _) | ((with_reducible refine Below.stepp (by with_reducible assumption) ?_ ?_); focus (first | omega | (simp; done) | (simp; omega)))))
    have k0 := cell_below (w := ((w.alloc (.cells #[.slice A h.cells.length c, .slice (some ⟨ba, p_a, none⟩) h.roots.length c'] 28)).alloc (.cells #[.int .i64 3, .int .i64 oa, .int .i64 ob, .int .i64 oc] 36))) (a := ⟨w.heap.size, 0, none⟩) (v := .slice A h.cells.length c) (by simp [go_sem]) HBx
    have k1 := cell_below (w := ((w.alloc (.cells #[.slice A h.cells.length c, .slice (some ⟨ba, p_a, none⟩) h.roots.length c'] 28)).alloc (.cells #[.int .i64 3, .int .i64 oa, .int .i64 ob, .int .i64 oc] 36))) (a := ⟨w.heap.size, 1, none⟩) (v := .slice (some ⟨ba, p_a, none⟩) h.roots.length c') (by simp [go_sem]) HBx
    have m0 := cell_below (w := ((w.alloc (.cells #[.slice A h.cells.length c, .slice (some ⟨ba, p_a, none⟩) h.roots.length c'] 28)).alloc (.cells #[.int .i64 3, .int .i64 oa, .int .i64 ob, .int .i64 oc] 36))) (a := ⟨w.heap.size + 1, 0, none⟩) (v := .int .i64 3) (by simp [go_sem]) HBx
    have m1 := cell_below (w := ((w.alloc (.cells #[.slice A h.cells.length c, .slice (some ⟨ba, p_a, none⟩) h.roots.length c'] 28)).alloc (.cells #[.int .i64 3, .int .i64 oa, .int .i64 ob, .int .i64 oc] 36))) (a := ⟨w.heap.size + 1, 1, none⟩) (v := .int .i64 oa) (by simp [go_sem]) HBx
    have m2 := cell_below (w := ((w.alloc (.cells #[.slice A h.cells.length c, .slice (some ⟨ba, p_a, none⟩) h.roots.length c'] 28)).alloc (.cells #[.int .i64 3, .int .i64 oa, .int .i64 ob, .int .i64 oc] 36))) (a := ⟨w.heap.size + 1, 2, none⟩) (v := .int .i64 ob) (by simp [go_sem]) HBx
    have m3 := cell_below (w := ((w.alloc (.cells #[.slice A h.cells.length c, .slice (some ⟨ba, p_a, none⟩) h.roots.length c'] 28)).alloc (.cells #[.int .i64 3, .int .i64 oa, .int .i64 ob, .int .i64 oc] 36))) (a := ⟨w.heap.size + 1, 3, none⟩) (v := .int .i64 oc) (by simp [go_sem]) HBx
    have da : w2.cell? ⟨ba, p_a + oa.toNat, none⟩ = some (.int .i64 ra) := cell_below ca hBw
    have hrw := HRS.out.below hBw
    have HBW := Lib.hid hBw
    clear hbc hbf hB1 hB2 HBx hBw
    go_wp2_with fail
    go_still_tail 9, (by kernel_rfl)
    change wpList _ _ _ _ _ w2.drew
    go_wp2_with fail
    (with_reducible refine (l8Place_any A _ c c' h ra oc _ (hrw.below (Below.refl _ _).drew) hra).mono ?_)
    rintro e w3 ⟨rfl, hB3⟩
    go_wp2
    go_ret
    exact ⟨ret_bool (by rw [HPM.out]; unfold possO placeOk; rw [HRA.out]; simp), HBW.out.drew.trans (hB3.mono HBW.out.size)⟩
  · simp only [maxB, maxC] at b9 c9
    clear b9 c9 hr
    go_enter Try.func25, Try.ntmps25
    go_wp2_with fail
    refine (specHeapValid_any _ h _ (hv0.below (by repeat (first | ((with_reducible refine Below.setc ?_ ?_ _); focus (first | omega | (simp; done) | (simp; omega))) | ((with_reducible refine Below.allocc ?_ ?_ _); focus (first | omega | (simp; done) | (simp; omega))) | (with_reducible refine Below.drew ?_) | (with_reducible refine Below.drewn ?_) | (with_reducible assumption) | (with_reducible exact Below.refl _ _) | ((with_reducible refine Below.stepp (by with_reducible assumption) ?_ ?_); focus (first | omega | (simp; done) | (simp; omega))))))).mono ?_
    rw [HV.out]
    rintro e w1 ⟨rfl, hB1⟩
    obtain ⟨hbc, hbf, hbz⟩ := bcell hB1
    have z0w1 : w.heap.size < w1.heap.size := (by (try simp at hbz); omega); have z1w1 : w.heap.size + 1 < w1.heap.size := (by (try simp at hbz); omega)
    go_wp2_with fail
    refine (specCommandValid_any ⟨4, oa, ob, oc⟩ _).mono ?_
    rw [HO.out]
    rintro e w2 ⟨rfl, hB2⟩
    have hz2 := hB2.size
    have HBx : Below (((w.alloc (.cells #[.slice A h.cells.length c, .slice (some ⟨ba, p_a, none⟩) h.roots.length c'] 28)).alloc (.cells #[.int .i64 4, .int .i64 oa, .int .i64 ob, .int .i64 oc] 36))).heap.size ((w.alloc (.cells #[.slice A h.cells.length c, .slice (some ⟨ba, p_a, none⟩) h.roots.length c'] 28)).alloc (.cells #[.int .i64 4, .int .i64 oa, .int .i64 ob, .int .i64 oc] 36)) w2 := (by repeat (first | ((with_reducible refine Below.setc ?_ ?_ _); focus (first | omega | (simp; done) | (simp; omega))) | ((with_reducible refine Below.allocc ?_ ?_ _); focus (first | omega | (simp; done) | (simp; omega))) | (with_reducible refine Below.drew ?_) | (with_reducible refine Below.drewn ?_) | (with_reducible assumption) | (with_reducible exact Below.refl _ _) | ((with_reducible refine Below.stepp (by with_reducible assumption) ?_ ?_); focus (first | omega | (simp; done) | (simp; omega)))))
    have hBw : Below w.heap.size w w2 := (by repeat (first | ((with_reducible refine Below.setc ?_ ?_ _); focus (first | omega | (simp; done) | (simp; omega))) | ((with_reducible refine Below.allocc ?_ ?_ _); focus (first | omega | (simp; done) | (simp; omega))) | (with_reducible refine Below.drew ?_) | (with_reducible refine Below.drewn ?_) | (with_reducible assumption) | (with_reducible exact Below.refl _ _) | ((with_reducible refine Below.stepp (by with_reducible assumption) ?_ ?_); focus (first | omega | (simp; done) | (simp; omega)))))
    have k0 := cell_below (w := ((w.alloc (.cells #[.slice A h.cells.length c, .slice (some ⟨ba, p_a, none⟩) h.roots.length c'] 28)).alloc (.cells #[.int .i64 4, .int .i64 oa, .int .i64 ob, .int .i64 oc] 36))) (a := ⟨w.heap.size, 0, none⟩) (v := .slice A h.cells.length c) (by simp [go_sem]) HBx
    have k1 := cell_below (w := ((w.alloc (.cells #[.slice A h.cells.length c, .slice (some ⟨ba, p_a, none⟩) h.roots.length c'] 28)).alloc (.cells #[.int .i64 4, .int .i64 oa, .int .i64 ob, .int .i64 oc] 36))) (a := ⟨w.heap.size, 1, none⟩) (v := .slice (some ⟨ba, p_a, none⟩) h.roots.length c') (by simp [go_sem]) HBx
    have m0 := cell_below (w := ((w.alloc (.cells #[.slice A h.cells.length c, .slice (some ⟨ba, p_a, none⟩) h.roots.length c'] 28)).alloc (.cells #[.int .i64 4, .int .i64 oa, .int .i64 ob, .int .i64 oc] 36))) (a := ⟨w.heap.size + 1, 0, none⟩) (v := .int .i64 4) (by simp [go_sem]) HBx
    have m1 := cell_below (w := ((w.alloc (.cells #[.slice A h.cells.length c, .slice (some ⟨ba, p_a, none⟩) h.roots.length c'] 28)).alloc (.cells #[.int .i64 4, .int .i64 oa, .int .i64 ob, .int .i64 oc] 36))) (a := ⟨w.heap.size + 1, 1, none⟩) (v := .int .i64 oa) (by simp [go_sem]) HBx
    have m2 := cell_below (w := ((w.alloc (.cells #[.slice A h.cells.length c, .slice (some ⟨ba, p_a, none⟩) h.roots.length c'] 28)).alloc (.cells #[.int .i64 4, .int .i64 oa, .int .i64 ob, .int .i64 oc] 36))) (a := ⟨w.heap.size + 1, 2, none⟩) (v := .int .i64 ob) (by simp [go_sem]) HBx
    have m3 := cell_below (w := ((w.alloc (.cells #[.slice A h.cells.length c, .slice (some ⟨ba, p_a, none⟩) h.roots.length c'] 28)).alloc (.cells #[.int .i64 4, .int .i64 oa, .int .i64 ob, .int .i64 oc] 36))) (a := ⟨w.heap.size + 1, 3, none⟩) (v := .int .i64 oc) (by simp [go_sem]) HBx
    have da : w2.cell? ⟨ba, p_a + oa.toNat, none⟩ = some (.int .i64 ra) := cell_below ca hBw
    have hrw := HRS.out.below hBw
    have HBW := Lib.hid hBw
    clear hbc hbf hB1 hB2 HBx hBw
    go_wp2
    go_ret
    exact ⟨ret_bool (by rw [HPM.out]; unfold possO; simp), HBW.out⟩
  · simp only [maxB, maxC] at b9 c9
    clear b9 c9 hr
    go_enter Try.func25, Try.ntmps25
    go_wp2_with fail
    refine (specHeapValid_any _ h _ (hv0.below (by repeat (first | ((with_reducible refine Below.setc ?_ ?_ _); focus (first | omega | (simp; done) | (simp; omega))) | ((with_reducible refine Below.allocc ?_ ?_ _); focus (first | omega | (simp; done) | (simp; omega))) | (with_reducible refine Below.drew ?_) | (with_reducible refine Below.drewn ?_) | (with_reducible assumption) | (with_reducible exact Below.refl _ _) | ((with_reducible refine Below.stepp (by with_reducible assumption) ?_ ?_); focus (first | omega | (simp; done) | (simp; omega))))))).mono ?_
    rw [HV.out]
    rintro e w1 ⟨rfl, hB1⟩
    obtain ⟨hbc, hbf, hbz⟩ := bcell hB1
    have z0w1 : w.heap.size < w1.heap.size := (by (try simp at hbz); omega); have z1w1 : w.heap.size + 1 < w1.heap.size := (by (try simp at hbz); omega)
    go_wp2_with fail
    refine (specCommandValid_any ⟨5, oa, ob, oc⟩ _).mono ?_
    rw [HO.out]
    rintro e w2 ⟨rfl, hB2⟩
    have hz2 := hB2.size
    have HBx : Below (((w.alloc (.cells #[.slice A h.cells.length c, .slice (some ⟨ba, p_a, none⟩) h.roots.length c'] 28)).alloc (.cells #[.int .i64 5, .int .i64 oa, .int .i64 ob, .int .i64 oc] 36))).heap.size ((w.alloc (.cells #[.slice A h.cells.length c, .slice (some ⟨ba, p_a, none⟩) h.roots.length c'] 28)).alloc (.cells #[.int .i64 5, .int .i64 oa, .int .i64 ob, .int .i64 oc] 36)) w2 := (by repeat (first | ((with_reducible refine Below.setc ?_ ?_ _); focus (first | omega | (simp; done) | (simp; omega))) | ((with_reducible refine Below.allocc ?_ ?_ _); focus (first | omega | (simp; done) | (simp; omega))) | (with_reducible refine Below.drew ?_) | (with_reducible refine Below.drewn ?_) | (with_reducible assumption) | (with_reducible exact Below.refl _ _) | ((with_reducible refine Below.stepp (by with_reducible assumption) ?_ ?_); focus (first | omega | (simp; done) | (simp; omega)))))
    have hBw : Below w.heap.size w w2 := (by repeat (first | ((with_reducible refine Below.setc ?_ ?_ _); focus (first | omega | (simp; done) | (simp; omega))) | ((with_reducible refine Below.allocc ?_ ?_ _); focus (first | omega | (simp; done) | (simp; omega))) | (with_reducible refine Below.drew ?_) | (with_reducible refine Below.drewn ?_) | (with_reducible assumption) | (with_reducible exact Below.refl _ _) | ((with_reducible refine Below.stepp (by with_reducible assumption) ?_ ?_); focus (first | omega | (simp; done) | (simp; omega)))))
    have k0 := cell_below (w := ((w.alloc (.cells #[.slice A h.cells.length c, .slice (some ⟨ba, p_a, none⟩) h.roots.length c'] 28)).alloc (.cells #[.int .i64 5, .int .i64 oa, .int .i64 ob, .int .i64 oc] 36))) (a := ⟨w.heap.size, 0, none⟩) (v := .slice A h.cells.length c) (by simp [go_sem]) HBx
    have k1 := cell_below (w := ((w.alloc (.cells #[.slice A h.cells.length c, .slice (some ⟨ba, p_a, none⟩) h.roots.length c'] 28)).alloc (.cells #[.int .i64 5, .int .i64 oa, .int .i64 ob, .int .i64 oc] 36))) (a := ⟨w.heap.size, 1, none⟩) (v := .slice (some ⟨ba, p_a, none⟩) h.roots.length c') (by simp [go_sem]) HBx
    have m0 := cell_below (w := ((w.alloc (.cells #[.slice A h.cells.length c, .slice (some ⟨ba, p_a, none⟩) h.roots.length c'] 28)).alloc (.cells #[.int .i64 5, .int .i64 oa, .int .i64 ob, .int .i64 oc] 36))) (a := ⟨w.heap.size + 1, 0, none⟩) (v := .int .i64 5) (by simp [go_sem]) HBx
    have m1 := cell_below (w := ((w.alloc (.cells #[.slice A h.cells.length c, .slice (some ⟨ba, p_a, none⟩) h.roots.length c'] 28)).alloc (.cells #[.int .i64 5, .int .i64 oa, .int .i64 ob, .int .i64 oc] 36))) (a := ⟨w.heap.size + 1, 1, none⟩) (v := .int .i64 oa) (by simp [go_sem]) HBx
    have m2 := cell_below (w := ((w.alloc (.cells #[.slice A h.cells.length c, .slice (some ⟨ba, p_a, none⟩) h.roots.length c'] 28)).alloc (.cells #[.int .i64 5, .int .i64 oa, .int .i64 ob, .int .i64 oc] 36))) (a := ⟨w.heap.size + 1, 2, none⟩) (v := .int .i64 ob) (by simp [go_sem]) HBx
    have m3 := cell_below (w := ((w.alloc (.cells #[.slice A h.cells.length c, .slice (some ⟨ba, p_a, none⟩) h.roots.length c'] 28)).alloc (.cells #[.int .i64 5, .int .i64 oa, .int .i64 ob, .int .i64 oc] 36))) (a := ⟨w.heap.size + 1, 3, none⟩) (v := .int .i64 oc) (by simp [go_sem]) HBx
    have da : w2.cell? ⟨ba, p_a + oa.toNat, none⟩ = some (.int .i64 ra) := cell_below ca hBw
    have hrw := HRS.out.below hBw
    have HBW := Lib.hid hBw
    clear hbc hbf hB1 hB2 HBx hBw
    go_wp2
    go_ret
    exact ⟨ret_bool (by rw [HPM.out]; unfold possO; simp), HBW.out⟩
  · simp only [maxB, maxC] at b9 c9
    clear b9 c9 hr
    go_enter Try.func25, Try.ntmps25
    go_wp2_with fail
    refine (specHeapValid_any _ h _ (hv0.below (by repeat (first | ((with_reducible refine Below.setc ?_ ?_ _); focus (first | omega | (simp; done) | (simp; omega))) | ((with_reducible refine Below.allocc ?_ ?_ _); focus (first | omega | (simp; done) | (simp; omega))) | (with_reducible refine Below.drew ?_) | (with_reducible refine Below.drewn ?_) | (with_reducible assumption) | (with_reducible exact Below.refl _ _) | ((with_reducible refine Below.stepp (by with_reducible assumption) ?_ ?_); focus (first | omega | (simp; done) | (simp; omega))))))).mono ?_
    rw [HV.out]
    rintro e w1 ⟨rfl, hB1⟩
    obtain ⟨hbc, hbf, hbz⟩ := bcell hB1
    have z0w1 : w.heap.size < w1.heap.size := (by (try simp at hbz); omega); have z1w1 : w.heap.size + 1 < w1.heap.size := (by (try simp at hbz); omega)
    go_wp2_with fail
    refine (specCommandValid_any ⟨6, oa, ob, oc⟩ _).mono ?_
    rw [HO.out]
    rintro e w2 ⟨rfl, hB2⟩
    have hz2 := hB2.size
    have HBx : Below (((w.alloc (.cells #[.slice A h.cells.length c, .slice (some ⟨ba, p_a, none⟩) h.roots.length c'] 28)).alloc (.cells #[.int .i64 6, .int .i64 oa, .int .i64 ob, .int .i64 oc] 36))).heap.size ((w.alloc (.cells #[.slice A h.cells.length c, .slice (some ⟨ba, p_a, none⟩) h.roots.length c'] 28)).alloc (.cells #[.int .i64 6, .int .i64 oa, .int .i64 ob, .int .i64 oc] 36)) w2 := (by repeat (first | ((with_reducible refine Below.setc ?_ ?_ _); focus (first | omega | (simp; done) | (simp; omega))) | ((with_reducible refine Below.allocc ?_ ?_ _); focus (first | omega | (simp; done) | (simp; omega))) | (with_reducible refine Below.drew ?_) | (with_reducible refine Below.drewn ?_) | (with_reducible assumption) | (with_reducible exact Below.refl _ _) | ((with_reducible refine Below.stepp (by with_reducible assumption) ?_ ?_); focus (first | omega | (simp; done) | (simp; omega)))))
    have hBw : Below w.heap.size w w2 := (by repeat (first | ((with_reducible refine Below.setc ?_ ?_ _); focus (first | omega | (simp; done) | (simp; omega))) | ((with_reducible refine Below.allocc ?_ ?_ _); focus (first | omega | (simp; done) | (simp; omega))) | (with_reducible refine Below.drew ?_) | (with_reducible refine Below.drewn ?_) | (with_reducible assumption) | (with_reducible exact Below.refl _ _) | ((with_reducible refine Below.stepp (by with_reducible assumption) ?_ ?_); focus (first | omega | (simp; done) | (simp; omega)))))
    have k0 := cell_below (w := ((w.alloc (.cells #[.slice A h.cells.length c, .slice (some ⟨ba, p_a, none⟩) h.roots.length c'] 28)).alloc (.cells #[.int .i64 6, .int .i64 oa, .int .i64 ob, .int .i64 oc] 36))) (a := ⟨w.heap.size, 0, none⟩) (v := .slice A h.cells.length c) (by simp [go_sem]) HBx
    have k1 := cell_below (w := ((w.alloc (.cells #[.slice A h.cells.length c, .slice (some ⟨ba, p_a, none⟩) h.roots.length c'] 28)).alloc (.cells #[.int .i64 6, .int .i64 oa, .int .i64 ob, .int .i64 oc] 36))) (a := ⟨w.heap.size, 1, none⟩) (v := .slice (some ⟨ba, p_a, none⟩) h.roots.length c') (by simp [go_sem]) HBx
    have m0 := cell_below (w := ((w.alloc (.cells #[.slice A h.cells.length c, .slice (some ⟨ba, p_a, none⟩) h.roots.length c'] 28)).alloc (.cells #[.int .i64 6, .int .i64 oa, .int .i64 ob, .int .i64 oc] 36))) (a := ⟨w.heap.size + 1, 0, none⟩) (v := .int .i64 6) (by simp [go_sem]) HBx
    have m1 := cell_below (w := ((w.alloc (.cells #[.slice A h.cells.length c, .slice (some ⟨ba, p_a, none⟩) h.roots.length c'] 28)).alloc (.cells #[.int .i64 6, .int .i64 oa, .int .i64 ob, .int .i64 oc] 36))) (a := ⟨w.heap.size + 1, 1, none⟩) (v := .int .i64 oa) (by simp [go_sem]) HBx
    have m2 := cell_below (w := ((w.alloc (.cells #[.slice A h.cells.length c, .slice (some ⟨ba, p_a, none⟩) h.roots.length c'] 28)).alloc (.cells #[.int .i64 6, .int .i64 oa, .int .i64 ob, .int .i64 oc] 36))) (a := ⟨w.heap.size + 1, 2, none⟩) (v := .int .i64 ob) (by simp [go_sem]) HBx
    have m3 := cell_below (w := ((w.alloc (.cells #[.slice A h.cells.length c, .slice (some ⟨ba, p_a, none⟩) h.roots.length c'] 28)).alloc (.cells #[.int .i64 6, .int .i64 oa, .int .i64 ob, .int .i64 oc] 36))) (a := ⟨w.heap.size + 1, 3, none⟩) (v := .int .i64 oc) (by simp [go_sem]) HBx
    have da : w2.cell? ⟨ba, p_a + oa.toNat, none⟩ = some (.int .i64 ra) := cell_below ca hBw
    have hrw := HRS.out.below hBw
    have HBW := Lib.hid hBw
    clear hbc hbf hB1 hB2 HBx hBw
    rcases Classical.em (0 ≤ ra) with h0 | h0
    · go_wp2
      go_ret
      exact ⟨ret_bool (by rw [HPM.out]; unfold possO; rw [HRA.out]; simp [h0]), HBW.out⟩
    · go_wp2
      go_ret
      exact ⟨ret_bool (by rw [HPM.out]; unfold possO; rw [HRA.out]; simp [h0]), HBW.out⟩
end Go.Proofs.Ytngmkflmjjkjaaa
