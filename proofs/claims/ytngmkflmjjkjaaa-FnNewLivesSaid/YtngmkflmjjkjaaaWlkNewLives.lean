/- FnNewLives: the law's call returns true. -/
import Derived.Test.YtngmkflmjjkjaaaChecked
import Derived.Deep.QuietTactic
import Derived.BigQuiet
import Derived.Deep.RegionWith
import Derived.Test.YtngmkflmjjkjaaaDrawA
import Derived.Test.YtngmkflmjjkjaaaGrSame
import Derived.Test.YtngmkflmjjkjaaaCtx
import Derived.Test.YtngmkflmjjkjaaaStepH
import Derived.Test.YtngmkflmjjkjaaaCloD
import Derived.Test.YtngmkflmjjkjaaaGrIso
namespace Go.Proofs.Ytngmkflmjjkjaaa
open Go.RowKit
set_option maxRecDepth 100000
set_option linter.unusedSimpArgs false
set_option linter.unusedVariables false
theorem step_from2 {h : HeapM} {o : CmdM} (hr : (stepM h o).2 = true) : validM h = true ∧ cmdOk o = true := by
  unfold stepM at hr
  split at hr
  · rename_i h9
    simp only [Bool.and_eq_true] at h9
    exact h9
  · simp at hr
theorem new_args {o : CmdM} (h : cmdOk o = true) (h1 : o.op = 1) : 0 ≤ o.a ∧ o.a < 4 ∧ 0 ≤ o.b := by
  unfold cmdOk at h
  simp [h1, inB] at h
  omega
set_option maxHeartbeats 4000000 in
theorem walkNewLives (C : Option Addr) (bs : List Int) (c : Nat) (w : World) (hr : RF fu w C bs) (hb : ∀ x ∈ bs, 0 ≤ x ∧ x < 256) (hc : bs.length ≤ c) (hc2 : c ≤ 9223372036854775807) :
    Calls Try.prog 6 #[.slice C bs.length c] w fun e w' => e = .returned (.bool true) ∧ Below w.heap.size w w' := by
  by_cases hbig : 1048576 < bs.length
  · go_enter Try.func6, Try.ntmps6
    go_wp2
    go_ret
    exact ⟨rfl, (by repeat (first | ((with_reducible refine Below.setc ?_ ?_ _); focus (first | omega | (simp; done) | (simp; omega))) | ((with_reducible refine Below.allocc ?_ ?_ _); focus (first | omega | (simp; done) | (simp; omega))) | (with_reducible refine Below.drew ?_) | (with_reducible refine Below.drewn ?_) | (with_reducible assumption) | (with_reducible exact Below.refl _ _) | ((with_reducible refine Below.stepp (by with_reducible assumption) ?_ ?_); focus (first | omega | (simp; done) | (simp; omega)))))⟩
  go_enter Try.func6, Try.ntmps6
  go_wp2_with fail
  (with_reducible refine (drawStepHeap_any C bs c _ hr hb hc hc2).mono ?_); rintro e w1 ⟨v, h, o, rfl, hV, hB⟩
  obtain ⟨A, n, A', n', rfl⟩ := hV.parts
  have zB := hB.size
  clear hr hb
  simp only [cmdV]
  go_wp2_with fail
  refine Calls.gen (fun W => Below w.heap.size w W ∧ RH W (.agg #[.slice A h.cells.length n, .slice A' h.roots.length n']) h ∧ Bx W w1.heap.size [.slice A h.cells.length n, .slice A' h.roots.length n'] ∧ Bx W (w1.heap.size + 1) [.int .i64 o.op, .int .i64 o.a, .int .i64 o.b, .int .i64 o.c]) ⟨(by repeat (first | ((with_reducible refine Below.setc ?_ ?_ _); focus (first | omega | (simp; done) | (simp; omega))) | ((with_reducible refine Below.allocc ?_ ?_ _); focus (first | omega | (simp; done) | (simp; omega))) | (with_reducible refine Below.drew ?_) | (with_reducible refine Below.drewn ?_) | (with_reducible assumption) | (with_reducible exact Below.refl _ _) | ((with_reducible refine Below.stepp (by with_reducible assumption) ?_ ?_); focus (first | omega | (simp; done) | (simp; omega))))), hV.below (by repeat (first | ((with_reducible refine Below.setc ?_ ?_ _); focus (first | omega | (simp; done) | (simp; omega))) | ((with_reducible refine Below.allocc ?_ ?_ _); focus (first | omega | (simp; done) | (simp; omega))) | (with_reducible refine Below.drew ?_) | (with_reducible refine Below.drewn ?_) | (with_reducible assumption) | (with_reducible exact Below.refl _ _) | ((with_reducible refine Below.stepp (by with_reducible assumption) ?_ ?_); focus (first | omega | (simp; done) | (simp; omega))))), (Bx.new w1 [.slice A h.cells.length n, .slice A' h.roots.length n'] 28).below (by repeat (first | ((with_reducible refine Below.setc ?_ ?_ _); focus (first | omega | (simp; done) | (simp; omega))) | ((with_reducible refine Below.allocc ?_ ?_ _); focus (first | omega | (simp; done) | (simp; omega))) | (with_reducible refine Below.drew ?_) | (with_reducible refine Below.drewn ?_) | (with_reducible assumption) | (with_reducible exact Below.refl _ _) | ((with_reducible refine Below.stepp (by with_reducible assumption) ?_ ?_); focus (first | omega | (simp; done) | (simp; omega))))), by simpa using Bx.new (w1.alloc (.cells #[.slice A h.cells.length n, .slice A' h.roots.length n'] 28)) [.int .i64 o.op, .int .i64 o.a, .int .i64 o.b, .int .i64 o.c] 36⟩ ?_
  obtain ⟨bc, hbc⟩ : ∃ x, Hid (x = w1.heap.size + 1) := ⟨_, rfl⟩
  rw [← hbc.out]
  generalize w1.heap.size = bh
  clear hB hV zB hbc
  rintro W ⟨HB, HV, HH, HC⟩
  obtain ⟨X, hX⟩ : ∃ X, Hid (X = stepM h o) := ⟨_, rfl⟩
  (with_reducible refine (implStepHeap_any _ h o _ HV).mono ?_); rw [← hX.out]; rintro e w2 ⟨v2, rfl, oH, hB⟩
  have hV2 := oH.rh
  obtain ⟨A2, n2, A2', n2', rfl⟩ := hV2.parts
  have HB := HB.trans (hB.mono HB.size)
  have zB := HB.size
  have HV := HV.below hB
  have HH := HH.below hB
  have HC := HC.below hB
  clear hB oH
  go_upto_region 5 with fail
  refine Code.gen (fun W => Below w.heap.size w W ∧ RH W (.agg #[.slice A h.cells.length n, .slice A' h.roots.length n']) h ∧ Bx W bh [.slice A h.cells.length n, .slice A' h.roots.length n'] ∧ Bx W bc [.int .i64 o.op, .int .i64 o.a, .int .i64 o.b, .int .i64 o.c] ∧ RH W (.agg #[.slice A2 X.1.cells.length n2, .slice A2' X.1.roots.length n2']) X.1 ∧ Bx W w2.heap.size [.slice A2 X.1.cells.length n2, .slice A2' X.1.roots.length n2']) ⟨(by repeat (first | ((with_reducible refine Below.setc ?_ ?_ _); focus (first | omega | (simp; done) | (simp; omega))) | ((with_reducible refine Below.allocc ?_ ?_ _); focus (first | omega | (simp; done) | (simp; omega))) | (with_reducible refine Below.drew ?_) | (with_reducible refine Below.drewn ?_) | (with_reducible assumption) | (with_reducible exact Below.refl _ _) | ((with_reducible refine Below.stepp (by with_reducible assumption) ?_ ?_); focus (first | omega | (simp; done) | (simp; omega))))), HV.below (by repeat (first | ((with_reducible refine Below.setc ?_ ?_ _); focus (first | omega | (simp; done) | (simp; omega))) | ((with_reducible refine Below.allocc ?_ ?_ _); focus (first | omega | (simp; done) | (simp; omega))) | (with_reducible refine Below.drew ?_) | (with_reducible refine Below.drewn ?_) | (with_reducible assumption) | (with_reducible exact Below.refl _ _) | ((with_reducible refine Below.stepp (by with_reducible assumption) ?_ ?_); focus (first | omega | (simp; done) | (simp; omega))))), HH.below (by repeat (first | ((with_reducible refine Below.setc ?_ ?_ _); focus (first | omega | (simp; done) | (simp; omega))) | ((with_reducible refine Below.allocc ?_ ?_ _); focus (first | omega | (simp; done) | (simp; omega))) | (with_reducible refine Below.drew ?_) | (with_reducible refine Below.drewn ?_) | (with_reducible assumption) | (with_reducible exact Below.refl _ _) | ((with_reducible refine Below.stepp (by with_reducible assumption) ?_ ?_); focus (first | omega | (simp; done) | (simp; omega))))), HC.below (by repeat (first | ((with_reducible refine Below.setc ?_ ?_ _); focus (first | omega | (simp; done) | (simp; omega))) | ((with_reducible refine Below.allocc ?_ ?_ _); focus (first | omega | (simp; done) | (simp; omega))) | (with_reducible refine Below.drew ?_) | (with_reducible refine Below.drewn ?_) | (with_reducible assumption) | (with_reducible exact Below.refl _ _) | ((with_reducible refine Below.stepp (by with_reducible assumption) ?_ ?_); focus (first | omega | (simp; done) | (simp; omega))))), hV2.below (by repeat (first | ((with_reducible refine Below.setc ?_ ?_ _); focus (first | omega | (simp; done) | (simp; omega))) | ((with_reducible refine Below.allocc ?_ ?_ _); focus (first | omega | (simp; done) | (simp; omega))) | (with_reducible refine Below.drew ?_) | (with_reducible refine Below.drewn ?_) | (with_reducible assumption) | (with_reducible exact Below.refl _ _) | ((with_reducible refine Below.stepp (by with_reducible assumption) ?_ ?_); focus (first | omega | (simp; done) | (simp; omega))))), Bx.new _ _ _⟩ ?_
  generalize w2.heap.size = bx
  clear HB HV HH HC hV2 zB
  rintro W ⟨HB, HV, HH, HC, HX, HBX⟩
  have c0 := HH.c 0 _ rfl
  have c1 := HH.c 1 _ rfl
  have d0 := HC.c 0 _ rfl
  have d1 := HC.c 1 _ rfl
  have d2 := HC.c 2 _ rfl
  have d3 := HC.c 3 _ rfl
  go_wp2_with fail
  (with_reducible refine (specStepHeap_any _ h o _ HV).mono ?_); rw [← hX.out]; rintro e w2 ⟨v2, rfl, oH, hB⟩
  have hV2 := oH.rh
  obtain ⟨A3, n3, A3', n3', rfl⟩ := hV2.parts
  have HB := HB.trans (hB.mono HB.size)
  have zB := HB.size
  have HV := HV.below hB
  have HH := HH.below hB
  have HC := HC.below hB
  have HX := HX.below hB
  have HBX := HBX.below hB
  clear hB oH c0 c1 d0 d1 d2 d3
  go_upto_region 6 with fail
  refine Code.gen (fun W => Below w.heap.size w W ∧ RH W (.agg #[.slice A h.cells.length n, .slice A' h.roots.length n']) h ∧ Bx W bh [.slice A h.cells.length n, .slice A' h.roots.length n'] ∧ Bx W bc [.int .i64 o.op, .int .i64 o.a, .int .i64 o.b, .int .i64 o.c] ∧ RH W (.agg #[.slice A2 X.1.cells.length n2, .slice A2' X.1.roots.length n2']) X.1 ∧ Bx W bx [.slice A2 X.1.cells.length n2, .slice A2' X.1.roots.length n2'] ∧ RH W (.agg #[.slice A3 X.1.cells.length n3, .slice A3' X.1.roots.length n3']) X.1 ∧ Bx W w2.heap.size [.slice A3 X.1.cells.length n3, .slice A3' X.1.roots.length n3']) ⟨(by repeat (first | ((with_reducible refine Below.setc ?_ ?_ _); focus (first | omega | (simp; done) | (simp; omega))) | ((with_reducible refine Below.allocc ?_ ?_ _); focus (first | omega | (simp; done) | (simp; omega))) | (with_reducible refine Below.drew ?_) | (with_reducible refine Below.drewn ?_) | (with_reducible assumption) | (with_reducible exact Below.refl _ _) | ((with_reducible refine Below.stepp (by with_reducible assumption) ?_ ?_); focus (first | omega | (simp; done) | (simp; omega))))), HV.below (by repeat (first | ((with_reducible refine Below.setc ?_ ?_ _); focus (first | omega | (simp; done) | (simp; omega))) | ((with_reducible refine Below.allocc ?_ ?_ _); focus (first | omega | (simp; done) | (simp; omega))) | (with_reducible refine Below.drew ?_) | (with_reducible refine Below.drewn ?_) | (with_reducible assumption) | (with_reducible exact Below.refl _ _) | ((with_reducible refine Below.stepp (by with_reducible assumption) ?_ ?_); focus (first | omega | (simp; done) | (simp; omega))))), HH.below (by repeat (first | ((with_reducible refine Below.setc ?_ ?_ _); focus (first | omega | (simp; done) | (simp; omega))) | ((with_reducible refine Below.allocc ?_ ?_ _); focus (first | omega | (simp; done) | (simp; omega))) | (with_reducible refine Below.drew ?_) | (with_reducible refine Below.drewn ?_) | (with_reducible assumption) | (with_reducible exact Below.refl _ _) | ((with_reducible refine Below.stepp (by with_reducible assumption) ?_ ?_); focus (first | omega | (simp; done) | (simp; omega))))), HC.below (by repeat (first | ((with_reducible refine Below.setc ?_ ?_ _); focus (first | omega | (simp; done) | (simp; omega))) | ((with_reducible refine Below.allocc ?_ ?_ _); focus (first | omega | (simp; done) | (simp; omega))) | (with_reducible refine Below.drew ?_) | (with_reducible refine Below.drewn ?_) | (with_reducible assumption) | (with_reducible exact Below.refl _ _) | ((with_reducible refine Below.stepp (by with_reducible assumption) ?_ ?_); focus (first | omega | (simp; done) | (simp; omega))))), HX.below (by repeat (first | ((with_reducible refine Below.setc ?_ ?_ _); focus (first | omega | (simp; done) | (simp; omega))) | ((with_reducible refine Below.allocc ?_ ?_ _); focus (first | omega | (simp; done) | (simp; omega))) | (with_reducible refine Below.drew ?_) | (with_reducible refine Below.drewn ?_) | (with_reducible assumption) | (with_reducible exact Below.refl _ _) | ((with_reducible refine Below.stepp (by with_reducible assumption) ?_ ?_); focus (first | omega | (simp; done) | (simp; omega))))), HBX.below (by repeat (first | ((with_reducible refine Below.setc ?_ ?_ _); focus (first | omega | (simp; done) | (simp; omega))) | ((with_reducible refine Below.allocc ?_ ?_ _); focus (first | omega | (simp; done) | (simp; omega))) | (with_reducible refine Below.drew ?_) | (with_reducible refine Below.drewn ?_) | (with_reducible assumption) | (with_reducible exact Below.refl _ _) | ((with_reducible refine Below.stepp (by with_reducible assumption) ?_ ?_); focus (first | omega | (simp; done) | (simp; omega))))), hV2.below (by repeat (first | ((with_reducible refine Below.setc ?_ ?_ _); focus (first | omega | (simp; done) | (simp; omega))) | ((with_reducible refine Below.allocc ?_ ?_ _); focus (first | omega | (simp; done) | (simp; omega))) | (with_reducible refine Below.drew ?_) | (with_reducible refine Below.drewn ?_) | (with_reducible assumption) | (with_reducible exact Below.refl _ _) | ((with_reducible refine Below.stepp (by with_reducible assumption) ?_ ?_); focus (first | omega | (simp; done) | (simp; omega))))), Bx.new _ _ _⟩ ?_
  generalize w2.heap.size = by_
  clear HB HV HH HC HX HBX hV2 zB
  rintro W ⟨HB, HV, HH, HC, HX, HBX, HY, HBY⟩
  have c0 := HBX.c 0 _ rfl
  have c1 := HBX.c 1 _ rfl
  have d0 := HBY.c 0 _ rfl
  have d1 := HBY.c 1 _ rfl
  have hE : eqB X.1 X.1 = true := eqB_of rfl
  go_wp2_with fail
  (with_reducible refine (sameHeap_any _ _ X.1 X.1 _ HX HY).mono ?_); rw [hE]; rintro e w2 ⟨rfl, hB⟩
  have HB := HB.trans (hB.mono HB.size)
  have zB := HB.size
  have HV := HV.below hB
  have HH := HH.below hB
  have HC := HC.below hB
  have HX := HX.below hB
  have HBX := HBX.below hB
  clear hB hE c0 c1 d0 d1 HY HBY
  rcases bool_ft X.2 with hx | hx
  · rw [hx]
    go_wp2_with fail
    (with_reducible refine (alive_any _).mono ?_); rintro e w3 ⟨rfl, hB⟩
    have zb := hB.size
    go_wp2_with fail
    go_ret
    exact ⟨rfl, (by repeat (first | ((with_reducible refine Below.setc ?_ ?_ _); focus (first | omega | (simp; done) | (simp; omega))) | ((with_reducible refine Below.allocc ?_ ?_ _); focus (first | omega | (simp; done) | (simp; omega))) | (with_reducible refine Below.drew ?_) | (with_reducible refine Below.drewn ?_) | (with_reducible assumption) | (with_reducible exact Below.refl _ _) | ((with_reducible refine Below.stepp (by with_reducible assumption) ?_ ?_); focus (first | omega | (simp; done) | (simp; omega)))))⟩
  have d0 := HC.c 0 _ rfl
  by_cases h1 : o.op = 1
  rotate_left
  · have h1b : (o.op != 1) = true := by simp [h1]
    rw [hx]
    go_wp2_with fail
    (with_reducible refine (alive_any _).mono ?_); rintro e w3 ⟨rfl, hB⟩
    have zb := hB.size
    go_wp2_with fail
    go_ret
    exact ⟨rfl, (by repeat (first | ((with_reducible refine Below.setc ?_ ?_ _); focus (first | omega | (simp; done) | (simp; omega))) | ((with_reducible refine Below.allocc ?_ ?_ _); focus (first | omega | (simp; done) | (simp; omega))) | (with_reducible refine Below.drew ?_) | (with_reducible refine Below.drewn ?_) | (with_reducible assumption) | (with_reducible exact Below.refl _ _) | ((with_reducible refine Below.stepp (by with_reducible assumption) ?_ ?_); focus (first | omega | (simp; done) | (simp; omega)))))⟩
  have HL : Hid (rootAt X.1 o.a = (h.cells.length : Int) ∧ (reachM X.1).getD h.cells.length false = true ∧ X.1.cells[h.cells.length]? = some (newCell o) ∧ (reachM X.1).length = h.cells.length + 1) := by
    have h9 := hx
    rw [hX.out] at h9 ⊢
    exact law_NewLives h9 h1
  have HVH : Hid (cmdOk o = true ∧ validM X.1 = true ∧ X.1.roots.length = 4) := by
    have h9 := hx
    rw [hX.out] at h9 ⊢
    exact ⟨(step_from2 h9).2, (step_done h9).1, (step_done h9).2.2.1⟩
  obtain ⟨ha0, ha4, hb0⟩ : 0 ≤ o.a ∧ o.a < 4 ∧ 0 ≤ o.b := new_args HVH.out.1 h1
  obtain ⟨a, ha⟩ : ∃ a : Nat, Hid (o.a = (a : Int)) := ⟨o.a.toNat, by unfold Hid; omega⟩
  have h40 : X.1.cells.length ≤ 40 := by
    have := HVH.out.2.1
    unfold validM at this
    simp at this
    omega
  have d1 : w2.cell? ⟨bc, 1, none⟩ = some (.int .i64 (a : Int)) := by have h9 := HC.c 1 _ rfl; rwa [ha.out] at h9
  rw [h1] at d0
  rw [hx]
  have hal : a < X.1.roots.length := by have := HVH.out.2.2; have := ha.out; omega
  obtain ⟨bR, oR, y, hyR, gy, qy, -⟩ := HX.inv.2.1.at_ hal
  have hyl : Hid (y = (h.cells.length : Int)) := by
    have h9 := HL.out.1
    unfold rootAt at h9
    rw [ha.out] at h9
    simp only [Int.toNat_natCast, gy] at h9
    exact h9
  subst hyR
  have qy' : w2.cell? ⟨bR, oR + a, none⟩ = some (.int .i64 (h.cells.length : Int)) := by rw [← hyl.out]; exact qy
  have hai : (0 : Int) ≤ (a : Int) ∧ (a : Int) < (X.1.roots.length : Int) := by omega
  have c0 := HBX.c 0 _ rfl
  have c1 := HBX.c 1 _ rfl
  clear gy qy hyl
  go_wp2_with fail
  (with_reducible refine (implReachable_any _ X.1 _ HX).mono ?_); rintro e w3 ⟨S1, cs1, rfl, hO1, -, hB⟩
  have zb := hB.size
  have HB := HB.trans (hB.mono HB.size)
  have zB := HB.size
  have HX := HX.below hB
  have HBX := HBX.below hB
  have HH := HH.below hB
  have HC := HC.below hB
  have HR1 : RF fb w3 S1 (reachM X.1) := by have h9 := hO1.rf; rwa [reachableM, if_pos HVH.out.2.1] at h9
  have hl1 : reachableM X.1 = reachM X.1 := if_pos HVH.out.2.1
  rw [hl1]
  clear hB hO1 c0 c1 d0 d1 hl1 zb HV qy'
  have c0 := HBX.c 0 _ rfl
  have e0 := HH.c 0 _ rfl
  have d2 := HC.c 2 _ rfl
  have d3 := HC.c 3 _ rfl
  have hl2 : h.cells.length < (reachM X.1).length := by have := HL.out.2.2.2; omega
  obtain ⟨b1, o1, y1, hb1, g1, q1, -⟩ := HR1.at_ hl2
  subst hb1
  have hy1 : y1 = true := by have h9 := HL.out.2.1; simpa only [List.getD_eq_getElem?_getD, g1, Option.getD_some] using h9
  have q1' : w3.cell? ⟨b1, o1 + h.cells.length, none⟩ = some (.bool true) := by rw [← hy1]; exact q1
  have hl3 : h.cells.length < X.1.cells.length := (List.getElem?_eq_some_iff.1 HL.out.2.2.1).1
  obtain ⟨b2, o2, y2, A4, n4, hb2, g2, r0, r1, r2, -, -, -⟩ := HX.inv.1.at_ hl3
  subst hb2
  have hy2 : y2 = newCell o := by have h9 := HL.out.2.2.1; rw [g2] at h9; injection h9
  rw [hy2] at r1 r2
  have r1' : w3.cell? ⟨b2, o2 + h.cells.length * 3 + 1, none⟩ = some (.int .i64 o.c) := r1
  have hrl : Hid (((newCell o).refs.length : Int) = o.b) := by unfold Hid newCell; simp; omega
  have r2' : w3.cell? ⟨b2, o2 + h.cells.length * 3 + 2, none⟩ = some (.slice A4 (newCell o).refs.length n4) := r2
  clear g1 q1 hy1 g2 r0 r1 r2 hy2
  have i0 : (0 : Int) ≤ (h.cells.length : Int) := by omega
  have i1 : (h.cells.length : Int) < ((reachM X.1).length : Int) := by omega
  have i2 : (h.cells.length : Int) < (X.1.cells.length : Int) := by omega
  have i3 : (((newCell o).refs.length : Int) == o.b) = true := by simp [hrl.out]
  have i3' : decide (((newCell o).refs.length : Int) = o.b) = true := by simp [hrl.out]
  go_wp2_with fail
  go_quiet (fail)
  go_wp2
  go_ret
  exact ⟨rfl, (by repeat (first | ((with_reducible refine Below.setc ?_ ?_ _); focus (first | omega | (simp; done) | (simp; omega))) | ((with_reducible refine Below.allocc ?_ ?_ _); focus (first | omega | (simp; done) | (simp; omega))) | (with_reducible refine Below.drew ?_) | (with_reducible refine Below.drewn ?_) | (with_reducible assumption) | (with_reducible exact Below.refl _ _) | ((with_reducible refine Below.stepp (by with_reducible assumption) ?_ ?_); focus (first | omega | (simp; done) | (simp; omega)))))⟩
end Go.Proofs.Ytngmkflmjjkjaaa
