/- FnStepSweep: the law's call returns true. -/
import Derived.Test.YtngmkflmjjkjaaaChecked
import Derived.Deep.QuietTactic
import Derived.BigQuiet
import Derived.Deep.RegionWith
import Derived.Test.YtngmkflmjjkjaaaDrawA
import Derived.Test.YtngmkflmjjkjaaaGrSame
import Derived.Test.YtngmkflmjjkjaaaCtx
import Derived.Test.YtngmkflmjjkjaaaStepH
import Derived.Test.YtngmkflmjjkjaaaDrawB
import Derived.Test.YtngmkflmjjkjaaaGrSwt
import Derived.Test.YtngmkflmjjkjaaaViewI
import Derived.Test.YtngmkflmjjkjaaaGrIso
namespace Go.Proofs.Ytngmkflmjjkjaaa
open Go.RowKit
set_option maxRecDepth 100000
set_option linter.unusedSimpArgs false
set_option linter.unusedVariables false
set_option maxHeartbeats 8000000 in
theorem walkStepSweep (C : Option Addr) (bs : List Int) (c : Nat) (w : World) (hr : RF fu w C bs) (hb : ∀ x ∈ bs, 0 ≤ x ∧ x < 256) (hc : bs.length ≤ c) (hc2 : c ≤ 9223372036854775807) :
    Calls Try.prog 12 #[.slice C bs.length c] w fun e w' => e = .returned (.bool true) ∧ Below w.heap.size w w' := by
  by_cases hbig : 1048576 < bs.length
  · go_enter Try.func12, Try.ntmps12
    go_wp2
    go_ret
    exact ⟨rfl, blw_⟩
  go_enter Try.func12, Try.ntmps12
  go_wp2_with fail
  (with_reducible refine (drawStepSweep_any C bs c _ hr hb hc hc2).mono ?_); rintro e w1 ⟨v, h, o, r, rfl, -, hV, hB⟩
  obtain ⟨A, n, A', n', rfl⟩ := hV.parts
  have zB := hB.size
  clear hr hb
  simp only [cmdV]
  go_wp2_with fail
  refine Calls.gen (fun W => Below w.heap.size w W ∧ RH W (.agg #[.slice A h.cells.length n, .slice A' h.roots.length n']) h ∧ Bx W w1.heap.size [.slice A h.cells.length n, .slice A' h.roots.length n'] ∧ Bx W (w1.heap.size + 1) [.int .i64 o.op, .int .i64 o.a, .int .i64 o.b, .int .i64 o.c]) ⟨blw_, hV.below blw_, (Bx.new w1 [.slice A h.cells.length n, .slice A' h.roots.length n'] 28).below blw_, by simpa using Bx.new (w1.alloc (.cells #[.slice A h.cells.length n, .slice A' h.roots.length n'] 28)) [.int .i64 o.op, .int .i64 o.a, .int .i64 o.b, .int .i64 o.c] 36⟩ ?_
  obtain ⟨bc, hbc⟩ : ∃ x, Hid (x = w1.heap.size + 1) := ⟨_, rfl⟩
  rw [← hbc.out]
  generalize w1.heap.size = bh
  clear hB hV zB hbc
  rintro W ⟨HB, HV, HH, HC⟩
  obtain ⟨X, hX⟩ : ∃ X, Hid (X = stepSweepM h (r : Int) o) := ⟨_, rfl⟩
  (with_reducible refine (implStepSweep_any _ h (r : Int) o _ HV).mono ?_); rw [← hX.out]; rintro e w2 ⟨v2, rfl, oH, hB⟩
  have hV2 := oH.rh
  obtain ⟨A2, n2, A2', n2', rfl⟩ := hV2.parts
  have HB := HB.trans (hB.mono HB.size)
  have zB := HB.size
  have HV := HV.below hB
  have HH := HH.below hB
  have HC := HC.below hB
  clear hB oH
  go_upto_region 5 with fail
  refine Code.gen (fun W => Below w.heap.size w W ∧ RH W (.agg #[.slice A h.cells.length n, .slice A' h.roots.length n']) h ∧ Bx W bh [.slice A h.cells.length n, .slice A' h.roots.length n'] ∧ Bx W bc [.int .i64 o.op, .int .i64 o.a, .int .i64 o.b, .int .i64 o.c] ∧ RH W (.agg #[.slice A2 X.1.cells.length n2, .slice A2' X.1.roots.length n2']) X.1 ∧ Bx W w2.heap.size [.slice A2 X.1.cells.length n2, .slice A2' X.1.roots.length n2']) ⟨blw_, HV.below blw_, HH.below blw_, HC.below blw_, hV2.below blw_, Bx.new _ _ _⟩ ?_
  generalize w2.heap.size = bx
  clear HB HV HH HC hV2 zB
  rintro W ⟨HB, HV, HH, HC, HX, HBX⟩
  have c0 := HH.c 0 _ rfl
  have c1 := HH.c 1 _ rfl
  have d0 := HC.c 0 _ rfl
  have d1 := HC.c 1 _ rfl
  have d2 := HC.c 2 _ rfl
  have d3 := HC.c 3 _ rfl
  go_wp2_with fail
  (with_reducible refine (specStepSweep_any _ h (r : Int) o _ HV).mono ?_); rw [← hX.out]; rintro e w2 ⟨v2, rfl, oH, hB⟩
  have hV2 := oH.rh
  obtain ⟨A3, n3, A3', n3', rfl⟩ := hV2.parts
  have HB := HB.trans (hB.mono HB.size)
  have zB := HB.size
  have HV := HV.below hB
  have HH := HH.below hB
  have HC := HC.below hB
  have HX := HX.below hB
  have HBX := HBX.below hB
  clear hB oH c0 c1 d0 d1 d2 d3
  go_upto_region 6 with fail
  refine Code.gen (fun W => Below w.heap.size w W ∧ RH W (.agg #[.slice A h.cells.length n, .slice A' h.roots.length n']) h ∧ Bx W bh [.slice A h.cells.length n, .slice A' h.roots.length n'] ∧ Bx W bc [.int .i64 o.op, .int .i64 o.a, .int .i64 o.b, .int .i64 o.c] ∧ RH W (.agg #[.slice A2 X.1.cells.length n2, .slice A2' X.1.roots.length n2']) X.1 ∧ Bx W bx [.slice A2 X.1.cells.length n2, .slice A2' X.1.roots.length n2'] ∧ RH W (.agg #[.slice A3 X.1.cells.length n3, .slice A3' X.1.roots.length n3']) X.1 ∧ Bx W w2.heap.size [.slice A3 X.1.cells.length n3, .slice A3' X.1.roots.length n3']) ⟨blw_, HV.below blw_, HH.below blw_, HC.below blw_, HX.below blw_, HBX.below blw_, hV2.below blw_, Bx.new _ _ _⟩ ?_
  generalize w2.heap.size = by_
  clear HB HV HH HC HX HBX hV2 zB
  rintro W ⟨HB, HV, HH, HC, HX, HBX, HY, HBY⟩
  have c0 := HBX.c 0 _ rfl
  have c1 := HBX.c 1 _ rfl
  have d0 := HBY.c 0 _ rfl
  have d1 := HBY.c 1 _ rfl
  have hE : eqB X.1 X.1 = true := eqB_of rfl
  go_wp2_with fail
  (with_reducible refine (sameHeap_any _ _ X.1 X.1 _ HX HY).mono ?_); rw [hE]; rintro e w2 ⟨rfl, hB⟩
  have HB := HB.trans (hB.mono HB.size)
  have zB := HB.size
  have HV := HV.below hB
  have HH := HH.below hB
  have HC := HC.below hB
  have HX := HX.below hB
  have HBX := HBX.below hB
  clear hB hE c0 c1 d0 d1 HY HBY
  rcases bool_ft X.2 with hx | hx
  · have HN : Hid (X.1.roots.length = 0 ∨ sameViewM X.1 h = true) := by
      have h9 := hx
      rw [hX.out] at h9 ⊢
      exact law_StepSweep_no h9
    rw [hx]
    have c0 := HBX.c 0 _ rfl
    have c1 := HBX.c 1 _ rfl
    have e0 := HH.c 0 _ rfl
    have e1 := HH.c 1 _ rfl
    by_cases hl0 : X.1.roots.length = 0
    · have hl0' : ((X.1.roots.length : Int) == 0) = true := by simp [hl0]
      rw [hl0] at c1
      go_wp2_with fail
      (with_reducible refine (alive_any _).mono ?_); rintro e w3 ⟨rfl, hB⟩
      have zb := hB.size
      go_wp2_with fail
      go_ret
      exact ⟨rfl, blw_⟩
    · have hl0' : ((X.1.roots.length : Int) == 0) = false := by simp [hl0]
      have hE : sameViewM X.1 h = true := HN.out.resolve_left hl0
      go_wp2_with fail
      (with_reducible refine (sameView_any _ _ X.1 h _ HX HV).mono ?_); rw [hE]; rintro e w3 ⟨rfl, hB⟩
      have HB := HB.trans (hB.mono HB.size)
      have zB := HB.size
      clear hB hE c0 c1 e0 e1
      go_wp2_with fail
      (with_reducible refine (alive_any _).mono ?_); rintro e w4 ⟨rfl, hB⟩
      have zb := hB.size
      go_wp2_with fail
      go_ret
      exact ⟨rfl, blw_⟩
  have HL : Hid (validM X.1 = true ∧ ((stepM h o).2 = true → sameViewM X.1 (stepM h o).1 = true) ∧ (X.1.cells.length : Int) ≤ max (r : Int) (h.cells.length : Int)) := by
    have h9 := hx
    rw [hX.out] at h9 ⊢
    exact law_StepSweep h9
  obtain ⟨Y, hY⟩ : ∃ Y, Hid (Y = stepM h o) := ⟨_, rfl⟩
  rw [← hY.out] at HL
  rw [hx]
  have e0 := HH.c 0 _ rfl
  have e1 := HH.c 1 _ rfl
  have d0 := HC.c 0 _ rfl
  have d1 := HC.c 1 _ rfl
  have d2 := HC.c 2 _ rfl
  have d3 := HC.c 3 _ rfl
  go_wp2_with fail
  (with_reducible refine (implStepHeap_any _ h o _ HV).mono ?_); rw [← hY.out]; rintro e w3 ⟨v3, rfl, oH, hB⟩
  have hV3 := oH.rh
  obtain ⟨A3, n3, A3', n3', rfl⟩ := hV3.parts
  have HB := HB.trans (hB.mono HB.size)
  have zB := HB.size
  have HH := HH.below hB
  have HX := HX.below hB
  have HBX := HBX.below hB
  clear hB oH e0 e1 d0 d1 d2 d3 HV HC
  go_upto_region 11 with fail
  refine Code.gen (fun W => Below w.heap.size w W ∧ Bx W bh [.slice A h.cells.length n, .slice A' h.roots.length n'] ∧ RH W (.agg #[.slice A2 X.1.cells.length n2, .slice A2' X.1.roots.length n2']) X.1 ∧ Bx W bx [.slice A2 X.1.cells.length n2, .slice A2' X.1.roots.length n2'] ∧ RH W (.agg #[.slice A3 Y.1.cells.length n3, .slice A3' Y.1.roots.length n3']) Y.1 ∧ Bx W w3.heap.size [.slice A3 Y.1.cells.length n3, .slice A3' Y.1.roots.length n3']) ⟨blw_, HH.below blw_, HX.below blw_, HBX.below blw_, hV3.below blw_, Bx.new _ _ _⟩ ?_
  generalize w3.heap.size = bw
  clear HB HH HX HBX hV3 zB
  rintro W ⟨HB, HH, HX, HBX, HY, HBY⟩
  have c0 := HBX.c 0 _ rfl
  have c1 := HBX.c 1 _ rfl
  have hvv := HL.out.1
  go_wp2_with fail
  (with_reducible refine (implHeapValid_any _ X.1 _ HX).mono ?_); rw [hvv]; rintro e w4 ⟨rfl, hB⟩
  have HB := HB.trans (hB.mono HB.size)
  have HH := HH.below hB
  have HX := HX.below hB
  have HBX := HBX.below hB
  have HY := HY.below hB
  have HBY := HBY.below hB
  clear hB c0 c1 hvv
  have c0 := HBX.c 0 _ rfl
  have c1 := HBX.c 1 _ rfl
  have e0 := HH.c 0 _ rfl
  have hmx := HL.out.2.2
  have hmi : decide ((X.1.cells.length : Int) ≤ max (r : Int) (h.cells.length : Int)) = true := decide_eq_true hmx
  rcases bool_ft Y.2 with hy | hy
  · rw [hy]
    go_wp2_with fail
    all_goals
      go_ret
      exact ⟨by first | rfl | (congr 1; simp; omega), HB⟩
  · have hsv := HL.out.2.1 hy
    have g0 := HBY.c 0 _ rfl
    have g1 := HBY.c 1 _ rfl
    rw [hy]
    go_wp2_with fail
    (with_reducible refine (sameView_any _ _ X.1 Y.1 _ HX HY).mono ?_); rw [hsv]; rintro e w5 ⟨rfl, hB⟩
    have HB := HB.trans (hB.mono HB.size)
    have HH := HH.below hB
    have HBX := HBX.below hB
    clear hB c0 c1 e0 g0 g1 hsv
    have c0 := HBX.c 0 _ rfl
    have e0 := HH.c 0 _ rfl
    go_wp2_with fail
    all_goals
      go_ret
      exact ⟨by first | rfl | (congr 1; simp; omega), HB⟩
end Go.Proofs.Ytngmkflmjjkjaaa
