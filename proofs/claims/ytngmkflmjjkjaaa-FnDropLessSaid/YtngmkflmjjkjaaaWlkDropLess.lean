/- FnDropLess: the law's call returns true. -/
import Derived.Test.YtngmkflmjjkjaaaChecked
import Derived.Deep.QuietTactic
import Derived.BigQuiet
import Derived.Deep.RegionWith
import Derived.Test.YtngmkflmjjkjaaaDrawA
import Derived.Test.YtngmkflmjjkjaaaGrSame
import Derived.Test.YtngmkflmjjkjaaaCtx
import Derived.Test.YtngmkflmjjkjaaaStepH
import Derived.Test.YtngmkflmjjkjaaaCloD
import Derived.Test.YtngmkflmjjkjaaaGrIso
namespace Go.Proofs.Ytngmkflmjjkjaaa
open Go.RowKit
set_option maxRecDepth 100000
set_option linter.unusedSimpArgs false
set_option linter.unusedVariables false
theorem step_from {h : HeapM} {o : CmdM} (hr : (stepM h o).2 = true) : validM h = true := by
  unfold stepM at hr
  split at hr
  · rename_i h9
    simp only [Bool.and_eq_true] at h9
    exact h9.1
  · simp at hr
set_option maxHeartbeats 4000000 in
theorem walkDropLess (C : Option Addr) (bs : List Int) (c : Nat) (w : World) (hr : RF fu w C bs) (hb : ∀ x ∈ bs, 0 ≤ x ∧ x < 256) (hc : bs.length ≤ c) (hc2 : c ≤ 9223372036854775807) :
    Calls Try.prog 7 #[.slice C bs.length c] w fun e w' => e = .returned (.bool true) ∧ Below w.heap.size w w' := by
  by_cases hbig : 1048576 < bs.length
  · go_enter Try.func7, Try.ntmps7
    go_wp2
    go_ret
    exact ⟨rfl, (by repeat (first | ((with_reducible refine Below.setc ?_ ?_ _); focus (first | omega | (simp; done) | (simp; omega))) | ((with_reducible refine Below.allocc ?_ ?_ _); focus (first | omega | (simp; done) | (simp; omega))) | (with_reducible refine Below.drew ?_) | (with_reducible refine Below.drewn ?_) | (with_reducible assumption) | (with_reducible exact Below.refl _ _) | ((with_reducible refine Below.stepp (by with_reducible assumption) ?_ ?_); focus (first | omega | (simp; done) | (simp; omega)))))⟩
  go_enter Try.func7, Try.ntmps7
  go_wp2_with fail
  (with_reducible refine (drawStepHeap_any C bs c _ hr hb hc hc2).mono ?_); rintro e w1 ⟨v, h, o, rfl, hV, hB⟩
  obtain ⟨A, n, A', n', rfl⟩ := hV.parts
  have zB := hB.size
  clear hr hb
  simp only [cmdV]
  go_wp2_with fail
  refine Calls.gen (fun W => Below w.heap.size w W ∧ RH W (.agg #[.slice A h.cells.length n, .slice A' h.roots.length n']) h ∧ Bx W w1.heap.size [.slice A h.cells.length n, .slice A' h.roots.length n'] ∧ Bx W (w1.heap.size + 1) [.int .i64 o.op, .int .i64 o.a, .int .i64 o.b, .int .i64 o.c]) ⟨(by repeat (first | ((with_reducible refine Below.setc ?_ ?_ _); focus (first | omega | (simp; done) | (simp; omega))) | ((with_reducible refine Below.allocc ?_ ?_ _); focus (first | omega | (simp; done) | (simp; omega))) | (with_reducible refine Below.drew ?_) | (with_reducible refine Below.drewn ?_) | (with_reducible assumption) | (with_reducible exact Below.refl _ _) | ((with_reducible refine Below.stepp (by with_reducible assumption) ?_ ?_); focus (first | omega | (simp; done) | (simp; omega))))), hV.below (by repeat (first | ((with_reducible refine Below.setc ?_ ?_ _); focus (first | omega | (simp; done) | (simp; omega))) | ((with_reducible refine Below.allocc ?_ ?_ _); focus (first | omega | (simp; done) | (simp; omega))) | (with_reducible refine Below.drew ?_) | (with_reducible refine Below.drewn ?_) | (with_reducible assumption) | (with_reducible exact Below.refl _ _) | ((with_reducible refine Below.stepp (by with_reducible assumption) ?_ ?_); focus (first | omega | (simp; done) | (simp; omega))))), (Bx.new w1 [.slice A h.cells.length n, .slice A' h.roots.length n'] 28).below (by repeat (first | ((with_reducible refine Below.setc ?_ ?_ _); focus (first | omega | (simp; done) | (simp; omega))) | ((with_reducible refine Below.allocc ?_ ?_ _); focus (first | omega | (simp; done) | (simp; omega))) | (with_reducible refine Below.drew ?_) | (with_reducible refine Below.drewn ?_) | (with_reducible assumption) | (with_reducible exact Below.refl _ _) | ((with_reducible refine Below.stepp (by with_reducible assumption) ?_ ?_); focus (first | omega | (simp; done) | (simp; omega))))), by simpa using Bx.new (w1.alloc (.cells #[.slice A h.cells.length n, .slice A' h.roots.length n'] 28)) [.int .i64 o.op, .int .i64 o.a, .int .i64 o.b, .int .i64 o.c] 36⟩ ?_
  obtain ⟨bc, hbc⟩ : ∃ x, Hid (x = w1.heap.size + 1) := ⟨_, rfl⟩
  rw [← hbc.out]
  generalize w1.heap.size = bh
  clear hB hV zB hbc
  rintro W ⟨HB, HV, HH, HC⟩
  obtain ⟨X, hX⟩ : ∃ X, Hid (X = stepM h o) := ⟨_, rfl⟩
  (with_reducible refine (implStepHeap_any _ h o _ HV).mono ?_); rw [← hX.out]; rintro e w2 ⟨v2, rfl, oH, hB⟩
  have hV2 := oH.rh
  obtain ⟨A2, n2, A2', n2', rfl⟩ := hV2.parts
  have HB := HB.trans (hB.mono HB.size)
  have zB := HB.size
  have HV := HV.below hB
  have HH := HH.below hB
  have HC := HC.below hB
  clear hB oH
  go_upto_region 5 with fail
  refine Code.gen (fun W => Below w.heap.size w W ∧ RH W (.agg #[.slice A h.cells.length n, .slice A' h.roots.length n']) h ∧ Bx W bh [.slice A h.cells.length n, .slice A' h.roots.length n'] ∧ Bx W bc [.int .i64 o.op, .int .i64 o.a, .int .i64 o.b, .int .i64 o.c] ∧ RH W (.agg #[.slice A2 X.1.cells.length n2, .slice A2' X.1.roots.length n2']) X.1 ∧ Bx W w2.heap.size [.slice A2 X.1.cells.length n2, .slice A2' X.1.roots.length n2']) ⟨(by repeat (first | ((with_reducible refine Below.setc ?_ ?_ _); focus (first | omega | (simp; done) | (simp; omega))) | ((with_reducible refine Below.allocc ?_ ?_ _); focus (first | omega | (simp; done) | (simp; omega))) | (with_reducible refine Below.drew ?_) | (with_reducible refine Below.drewn ?_) | (with_reducible assumption) | (with_reducible exact Below.refl _ _) | ((with_reducible refine Below.stepp (by with_reducible assumption) ?_ ?_); focus (first | omega | (simp; done) | (simp; omega))))), HV.below (by repeat (first | ((with_reducible refine Below.setc ?_ ?_ _); focus (first | omega | (simp; done) | (simp; omega))) | ((with_reducible refine Below.allocc ?_ ?_ _); focus (first | omega | (simp; done) | (simp; omega))) | (with_reducible refine Below.drew ?_) | (with_reducible refine Below.drewn ?_) | (with_reducible assumption) | (with_reducible exact Below.refl _ _) | ((with_reducible refine Below.stepp (by with_reducible assumption) ?_ ?_); focus (first | omega | (simp; done) | (simp; omega))))), HH.below (by repeat (first | ((with_reducible refine Below.setc ?_ ?_ _); focus (first | omega | (simp; done) | (simp; omega))) | ((with_reducible refine Below.allocc ?_ ?_ _); focus (first | omega | (simp; done) | (simp; omega))) | (with_reducible refine Below.drew ?_) | (with_reducible refine Below.drewn ?_) | (with_reducible assumption) | (with_reducible exact Below.refl _ _) | ((with_reducible refine Below.stepp (by with_reducible assumption) ?_ ?_); focus (first | omega | (simp; done) | (simp; omega))))), HC.below (by repeat (first | ((with_reducible refine Below.setc ?_ ?_ _); focus (first | omega | (simp; done) | (simp; omega))) | ((with_reducible refine Below.allocc ?_ ?_ _); focus (first | omega | (simp; done) | (simp; omega))) | (with_reducible refine Below.drew ?_) | (with_reducible refine Below.drewn ?_) | (with_reducible assumption) | (with_reducible exact Below.refl _ _) | ((with_reducible refine Below.stepp (by with_reducible assumption) ?_ ?_); focus (first | omega | (simp; done) | (simp; omega))))), hV2.below (by repeat (first | ((with_reducible refine Below.setc ?_ ?_ _); focus (first | omega | (simp; done) | (simp; omega))) | ((with_reducible refine Below.allocc ?_ ?_ _); focus (first | omega | (simp; done) | (simp; omega))) | (with_reducible refine Below.drew ?_) | (with_reducible refine Below.drewn ?_) | (with_reducible assumption) | (with_reducible exact Below.refl _ _) | ((with_reducible refine Below.stepp (by with_reducible assumption) ?_ ?_); focus (first | omega | (simp; done) | (simp; omega))))), Bx.new _ _ _⟩ ?_
  generalize w2.heap.size = bx
  clear HB HV HH HC hV2 zB
  rintro W ⟨HB, HV, HH, HC, HX, HBX⟩
  have c0 := HH.c 0 _ rfl
  have c1 := HH.c 1 _ rfl
  have d0 := HC.c 0 _ rfl
  have d1 := HC.c 1 _ rfl
  have d2 := HC.c 2 _ rfl
  have d3 := HC.c 3 _ rfl
  go_wp2_with fail
  (with_reducible refine (specStepHeap_any _ h o _ HV).mono ?_); rw [← hX.out]; rintro e w2 ⟨v2, rfl, oH, hB⟩
  have hV2 := oH.rh
  obtain ⟨A3, n3, A3', n3', rfl⟩ := hV2.parts
  have HB := HB.trans (hB.mono HB.size)
  have zB := HB.size
  have HV := HV.below hB
  have HH := HH.below hB
  have HC := HC.below hB
  have HX := HX.below hB
  have HBX := HBX.below hB
  clear hB oH c0 c1 d0 d1 d2 d3
  go_upto_region 6 with fail
  refine Code.gen (fun W => Below w.heap.size w W ∧ RH W (.agg #[.slice A h.cells.length n, .slice A' h.roots.length n']) h ∧ Bx W bh [.slice A h.cells.length n, .slice A' h.roots.length n'] ∧ Bx W bc [.int .i64 o.op, .int .i64 o.a, .int .i64 o.b, .int .i64 o.c] ∧ RH W (.agg #[.slice A2 X.1.cells.length n2, .slice A2' X.1.roots.length n2']) X.1 ∧ Bx W bx [.slice A2 X.1.cells.length n2, .slice A2' X.1.roots.length n2'] ∧ RH W (.agg #[.slice A3 X.1.cells.length n3, .slice A3' X.1.roots.length n3']) X.1 ∧ Bx W w2.heap.size [.slice A3 X.1.cells.length n3, .slice A3' X.1.roots.length n3']) ⟨(by repeat (first | ((with_reducible refine Below.setc ?_ ?_ _); focus (first | omega | (simp; done) | (simp; omega))) | ((with_reducible refine Below.allocc ?_ ?_ _); focus (first | omega | (simp; done) | (simp; omega))) | (with_reducible refine Below.drew ?_) | (with_reducible refine Below.drewn ?_) | (with_reducible assumption) | (with_reducible exact Below.refl _ _) | ((with_reducible refine Below.stepp (by with_reducible assumption) ?_ ?_); focus (first | omega | (simp; done) | (simp; omega))))), HV.below (by repeat (first | ((with_reducible refine Below.setc ?_ ?_ _); focus (first | omega | (simp; done) | (simp; omega))) | ((with_reducible refine Below.allocc ?_ ?_ _); focus (first | omega | (simp; done) | (simp; omega))) | (with_reducible refine Below.drew ?_) | (with_reducible refine Below.drewn ?_) | (with_reducible assumption) | (with_reducible exact Below.refl _ _) | ((with_reducible refine Below.stepp (by with_reducible assumption) ?_ ?_); focus (first | omega | (simp; done) | (simp; omega))))), HH.below (by repeat (first | ((with_reducible refine Below.setc ?_ ?_ _); focus (first | omega | (simp; done) | (simp; omega))) | ((with_reducible refine Below.allocc ?_ ?_ _); focus (first | omega | (simp; done) | (simp; omega))) | (with_reducible refine Below.drew ?_) | (with_reducible refine Below.drewn ?_) | (with_reducible assumption) | (with_reducible exact Below.refl _ _) | ((with_reducible refine Below.stepp (by with_reducible assumption) ?_ ?_); focus (first | omega | (simp; done) | (simp; omega))))), HC.below (by repeat (first | ((with_reducible refine Below.setc ?_ ?_ _); focus (first | omega | (simp; done) | (simp; omega))) | ((with_reducible refine Below.allocc ?_ ?_ _); focus (first | omega | (simp; done) | (simp; omega))) | (with_reducible refine Below.drew ?_) | (with_reducible refine Below.drewn ?_) | (with_reducible assumption) | (with_reducible exact Below.refl _ _) | ((with_reducible refine Below.stepp (by with_reducible assumption) ?_ ?_); focus (first | omega | (simp; done) | (simp; omega))))), HX.below (by repeat (first | ((with_reducible refine Below.setc ?_ ?_ _); focus (first | omega | (simp; done) | (simp; omega))) | ((with_reducible refine Below.allocc ?_ ?_ _); focus (first | omega | (simp; done) | (simp; omega))) | (with_reducible refine Below.drew ?_) | (with_reducible refine Below.drewn ?_) | (with_reducible assumption) | (with_reducible exact Below.refl _ _) | ((with_reducible refine Below.stepp (by with_reducible assumption) ?_ ?_); focus (first | omega | (simp; done) | (simp; omega))))), HBX.below (by repeat (first | ((with_reducible refine Below.setc ?_ ?_ _); focus (first | omega | (simp; done) | (simp; omega))) | ((with_reducible refine Below.allocc ?_ ?_ _); focus (first | omega | (simp; done) | (simp; omega))) | (with_reducible refine Below.drew ?_) | (with_reducible refine Below.drewn ?_) | (with_reducible assumption) | (with_reducible exact Below.refl _ _) | ((with_reducible refine Below.stepp (by with_reducible assumption) ?_ ?_); focus (first | omega | (simp; done) | (simp; omega))))), hV2.below (by repeat (first | ((with_reducible refine Below.setc ?_ ?_ _); focus (first | omega | (simp; done) | (simp; omega))) | ((with_reducible refine Below.allocc ?_ ?_ _); focus (first | omega | (simp; done) | (simp; omega))) | (with_reducible refine Below.drew ?_) | (with_reducible refine Below.drewn ?_) | (with_reducible assumption) | (with_reducible exact Below.refl _ _) | ((with_reducible refine Below.stepp (by with_reducible assumption) ?_ ?_); focus (first | omega | (simp; done) | (simp; omega))))), Bx.new _ _ _⟩ ?_
  generalize w2.heap.size = by_
  clear HB HV HH HC HX HBX hV2 zB
  rintro W ⟨HB, HV, HH, HC, HX, HBX, HY, HBY⟩
  have c0 := HBX.c 0 _ rfl
  have c1 := HBX.c 1 _ rfl
  have d0 := HBY.c 0 _ rfl
  have d1 := HBY.c 1 _ rfl
  have hE : eqB X.1 X.1 = true := eqB_of rfl
  go_wp2_with fail
  (with_reducible refine (sameHeap_any _ _ X.1 X.1 _ HX HY).mono ?_); rw [hE]; rintro e w2 ⟨rfl, hB⟩
  have HB := HB.trans (hB.mono HB.size)
  have zB := HB.size
  have HV := HV.below hB
  have HH := HH.below hB
  have HC := HC.below hB
  have HX := HX.below hB
  have HBX := HBX.below hB
  clear hB hE c0 c1 d0 d1 HY HBY
  rcases bool_ft X.2 with hx | hx
  · rw [hx]
    go_wp2_with fail
    (with_reducible refine (alive_any _).mono ?_); rintro e w3 ⟨rfl, hB⟩
    have zb := hB.size
    go_wp2_with fail
    go_ret
    exact ⟨rfl, (by repeat (first | ((with_reducible refine Below.setc ?_ ?_ _); focus (first | omega | (simp; done) | (simp; omega))) | ((with_reducible refine Below.allocc ?_ ?_ _); focus (first | omega | (simp; done) | (simp; omega))) | (with_reducible refine Below.drew ?_) | (with_reducible refine Below.drewn ?_) | (with_reducible assumption) | (with_reducible exact Below.refl _ _) | ((with_reducible refine Below.stepp (by with_reducible assumption) ?_ ?_); focus (first | omega | (simp; done) | (simp; omega)))))⟩
  have d0 := HC.c 0 _ rfl
  by_cases h1 : o.op = 1
  · rw [h1] at d0
    rw [hx]
    go_wp2_with fail
    (with_reducible refine (alive_any _).mono ?_); rintro e w3 ⟨rfl, hB⟩
    have zb := hB.size
    go_wp2_with fail
    go_ret
    exact ⟨rfl, (by repeat (first | ((with_reducible refine Below.setc ?_ ?_ _); focus (first | omega | (simp; done) | (simp; omega))) | ((with_reducible refine Below.allocc ?_ ?_ _); focus (first | omega | (simp; done) | (simp; omega))) | (with_reducible refine Below.drew ?_) | (with_reducible refine Below.drewn ?_) | (with_reducible assumption) | (with_reducible exact Below.refl _ _) | ((with_reducible refine Below.stepp (by with_reducible assumption) ?_ ?_); focus (first | omega | (simp; done) | (simp; omega)))))⟩
  have h1b : (o.op == 1) = false := by simp [h1]
  have HL : Hid ((reachM X.1).length = (reachM h).length ∧ ∀ k, (reachM X.1).getD k false = true → (reachM h).getD k false = true) := by
    have h9 := hx
    rw [hX.out] at h9 ⊢
    exact law_DropLess h9 h1
  have HVH : Hid (validM h = true ∧ validM X.1 = true) := by
    have h9 := hx
    rw [hX.out] at h9 ⊢
    exact ⟨step_from h9, (step_done h9).1⟩
  rw [hx]
  have c0 := HH.c 0 _ rfl
  have c1 := HH.c 1 _ rfl
  go_wp2_with fail
  (with_reducible refine (implReachable_any _ h _ HV).mono ?_); rintro e w3 ⟨S1, cs1, rfl, hO1, -, hB⟩
  have zb := hB.size
  have HB := HB.trans (hB.mono HB.size)
  have zB := HB.size
  have HX := HX.below hB
  have HBX := HBX.below hB
  have HR1 : RF fb w3 S1 (reachM h) := by have h9 := hO1.rf; rwa [reachableM, if_pos HVH.out.1] at h9
  have hl1 : reachableM h = reachM h := if_pos HVH.out.1
  rw [hl1]
  clear hB hO1 c0 c1 HH HV HC d0 hl1 zb
  have c0 := HBX.c 0 _ rfl
  have c1 := HBX.c 1 _ rfl
  go_wp2_with fail
  (with_reducible refine (implReachable_any _ X.1 _ HX).mono ?_); rintro e w4 ⟨S2, cs2, rfl, hO2, -, hB⟩
  have zb := hB.size
  have HB := HB.trans (hB.mono HB.size)
  have zB := HB.size
  have HR1 := HR1.below hB
  have HR2 : RF fb w4 S2 (reachM X.1) := by have h9 := hO2.rf; rwa [reachableM, if_pos HVH.out.2] at h9
  have hl2 : reachableM X.1 = reachM X.1 := if_pos HVH.out.2
  rw [hl2]
  clear hB hO2 c0 c1 HBX HX hl2 zb
  have hlen : Hid ((reachM X.1).length = (reachM h).length) := HL.out.1
  have h40 : (reachM X.1).length ≤ 9223372036854775807 := by
    rw [reachM_len]
    have := HVH.out.2
    unfold validM at this
    simp at this
    omega
  go_wp2_with fail
  go_loopw [11] (fun s11 wr => ∃ k : Nat, s11 = .int .i64 (k : Int) ∧ k ≤ (reachM X.1).length ∧ wr = w4) (fun s11 _ => (reachM X.1).length - (intOf s11).toNat)
  case atStart => exact ⟨0, rfl, by omega, rfl⟩
  case round =>
    obtain ⟨k, rfl, hk, rfl⟩ := hrel
    by_cases hlt : k < (reachM X.1).length
    · have hlt2 : k < (reachM h).length := by have := hlen.out; omega
      obtain ⟨b1, o1, x1, rfl, g1, q1, -⟩ := HR2.at_ hlt
      obtain ⟨b2, o2, x2, rfl, g2, q2, -⟩ := HR1.at_ hlt2
      have hi : Hid (x1 = true → x2 = true) := by
        intro h9
        have h8 := HL.out.2 k
        simp only [List.getD_eq_getElem?_getD, g1, g2, Option.getD_some] at h8
        exact h8 h9
      have i0 : (0 : Int) ≤ (k : Int) := by omega
      have i1 : (k : Int) < ((reachM X.1).length : Int) := by omega
      have i2 : (k : Int) < ((reachM h).length : Int) := by omega
      have q1' : wr.cell? ⟨b1, o1 + k, none⟩ = some (.bool x1) := q1
      have q2' : wr.cell? ⟨b2, o2 + k, none⟩ = some (.bool x2) := q2
      clear q1 q2 g1 g2 HR1 HR2
      rcases bool_ft x1 with h7 | h7
      · rw [h7] at q1'
        go_wp2_with fail
        go_roundw
        case rel => exact ⟨k + 1, by go_num, by omega, by first | trivial | rfl⟩
        case measure => simp [intOf]; omega
      · rw [h7] at q1'
        rw [hi.out h7] at q2'
        go_wp2_with fail
        go_roundw
        case rel => exact ⟨k + 1, by go_num, by omega, by first | trivial | rfl⟩
        case measure => simp [intOf]; omega
    · have hke : k = (reachM X.1).length := by omega
      have hle : ((reachM X.1).length == (reachM h).length) = true := by simp [hlen.out]
      have hle2 : (((reachM X.1).length : Int) == ((reachM h).length : Int)) = true := by simp [hlen.out]
      have HK := Lib.hid hke
      clear hke
      go_wp2_with fail
      go_ret
      exact ⟨by first | rfl | (congr 1; simp [hlen.out]), HB⟩
end Go.Proofs.Ytngmkflmjjkjaaa
