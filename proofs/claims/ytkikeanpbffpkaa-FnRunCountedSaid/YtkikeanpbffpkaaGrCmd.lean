/- Texts of one family, one behind the other: Cmd, CmdI, CmdV, CmdP, OpF, CmdQ, CmdQS. -/
import Derived.Test.YtkikeanpbffpkaaChecked
import Derived.Deep.RegionHeld3
import Derived.Deep.DeepCutAuto
import Derived.Test.YtkikeanpbffpkaaGrHeap
import Derived.Test.YtkikeanpbffpkaaGrData
import Derived.Deep.WholeRow
import Derived.Laws.EntriesVeiled
import Derived.Test.YtkikeanpbffpkaaGrOwn
import Derived.Lib.QuietBelow
/- Instructions: CommandValid of both, and CommandsValid of both. -/
namespace Go.Proofs.Ytkikeanpbffpkaa
open Go.RowKit
set_option maxRecDepth 100000
set_option linter.unusedSimpArgs false
set_option linter.unusedVariables false
theorem cmdOk_iff {o : CmdM} : cmdOk o = true ↔ (1 ≤ o.op ∧ o.op ≤ 6) ∧ (0 ≤ o.a ∧ o.a ≤ 3) ∧ (0 ≤ o.b ∧ o.b ≤ maxB o.op) ∧ (0 ≤ o.c ∧ o.c ≤ maxC o.op) := by
  simp [cmdOk, inB]
theorem cmdOk_not {o : CmdM} (h : ¬ ((1 ≤ o.op ∧ o.op ≤ 6) ∧ (0 ≤ o.a ∧ o.a ≤ 3) ∧ (0 ≤ o.b ∧ o.b ≤ maxB o.op) ∧ (0 ≤ o.c ∧ o.c ≤ maxC o.op))) : cmdOk o = false := by
  rw [← Bool.not_eq_true, cmdOk_iff]; exact h
theorem inB_zero (n : Int) : inB 0 n 0 = decide (n = 0) := by
  rw [Bool.eq_iff_iff, inB_iff]; simp; omega
theorem in1 : inB 1 1 6 = true := rfl
theorem in2 : inB 1 2 6 = true := rfl
theorem in3 : inB 1 3 6 = true := rfl
theorem in4 : inB 1 4 6 = true := rfl
theorem in5 : inB 1 5 6 = true := rfl
theorem in6 : inB 1 6 6 = true := rfl
set_option maxHeartbeats 4000000 in
theorem specCommandValid_any (o : CmdM) (w : World) :
    Calls Try.prog 32 #[.agg #[.int .i64 o.op, .int .i64 o.a, .int .i64 o.b, .int .i64 o.c]] w fun e w' => e = .returned (.bool (cmdOk o)) ∧ Below w.heap.size w w' := by
  obtain ⟨op, a, b, c⟩ := o
  dsimp only
  rcases (by omega : op = 1 ∨ op = 2 ∨ op = 3 ∨ op = 4 ∨ op = 5 ∨ op = 6 ∨ (op ≠ 1 ∧ op ≠ 2 ∧ op ≠ 3 ∧ op ≠ 4 ∧ op ≠ 5 ∧ op ≠ 6)) with rfl | rfl | rfl | rfl | rfl | rfl | ⟨n1, n2, n3, n4, n5, n6⟩
  · rcases bool_ft (inB 0 a 3) with ha | ha
    · go_enter Try.func32, Try.ntmps32; go_wp2_with (go_at_call 67; refine (l1In_any _ _ _ _).mono ?_; (try rw [ha]); (try rw [hb]); (try rw [hc]); rintro e w1 ⟨rfl, rfl⟩); go_ret; exact ⟨ret_bool (by simp [cmdOk, maxB, maxC, inB_zero, in1, in2, in3, in4, in5, in6, *]; done), blw_⟩
    rcases bool_ft (inB 0 b 3) with hb | hb
    · go_enter Try.func32, Try.ntmps32; go_wp2_with (go_at_call 67; refine (l1In_any _ _ _ _).mono ?_; (try rw [ha]); (try rw [hb]); (try rw [hc]); rintro e w1 ⟨rfl, rfl⟩); go_ret; exact ⟨ret_bool (by simp [cmdOk, maxB, maxC, inB_zero, in1, in2, in3, in4, in5, in6, *]; done), blw_⟩
    rcases bool_ft (inB 0 c 99) with hc | hc <;> (go_enter Try.func32, Try.ntmps32; go_wp2_with (go_at_call 67; refine (l1In_any _ _ _ _).mono ?_; (try rw [ha]); (try rw [hb]); (try rw [hc]); rintro e w1 ⟨rfl, rfl⟩); go_ret; exact ⟨ret_bool (by simp [cmdOk, maxB, maxC, inB_zero, in1, in2, in3, in4, in5, in6, *]; done), blw_⟩)
  · rcases bool_ft (inB 0 a 3) with ha | ha
    · go_enter Try.func32, Try.ntmps32; go_wp2_with (go_at_call 67; refine (l1In_any _ _ _ _).mono ?_; (try rw [ha]); (try rw [hb]); (try rw [hc]); rintro e w1 ⟨rfl, rfl⟩); go_ret; exact ⟨ret_bool (by simp [cmdOk, maxB, maxC, inB_zero, in1, in2, in3, in4, in5, in6, *]; done), blw_⟩
    rcases bool_ft (inB 0 b 3) with hb | hb
    · go_enter Try.func32, Try.ntmps32; go_wp2_with (go_at_call 67; refine (l1In_any _ _ _ _).mono ?_; (try rw [ha]); (try rw [hb]); (try rw [hc]); rintro e w1 ⟨rfl, rfl⟩); go_ret; exact ⟨ret_bool (by simp [cmdOk, maxB, maxC, inB_zero, in1, in2, in3, in4, in5, in6, *]; done), blw_⟩
    rcases bool_ft (inB 0 c 2) with hc | hc <;> (go_enter Try.func32, Try.ntmps32; go_wp2_with (go_at_call 67; refine (l1In_any _ _ _ _).mono ?_; (try rw [ha]); (try rw [hb]); (try rw [hc]); rintro e w1 ⟨rfl, rfl⟩); go_ret; exact ⟨ret_bool (by simp [cmdOk, maxB, maxC, inB_zero, in1, in2, in3, in4, in5, in6, *]; done), blw_⟩)
  · rcases bool_ft (inB 0 a 3) with ha | ha
    · go_enter Try.func32, Try.ntmps32; go_wp2_with (go_at_call 67; refine (l1In_any _ _ _ _).mono ?_; (try rw [ha]); (try rw [hb]); (try rw [hc]); rintro e w1 ⟨rfl, rfl⟩); go_ret; exact ⟨ret_bool (by simp [cmdOk, maxB, maxC, inB_zero, in1, in2, in3, in4, in5, in6, *]; done), blw_⟩
    rcases bool_ft (inB 0 b 3) with hb | hb
    · go_enter Try.func32, Try.ntmps32; go_wp2_with (go_at_call 67; refine (l1In_any _ _ _ _).mono ?_; (try rw [ha]); (try rw [hb]); (try rw [hc]); rintro e w1 ⟨rfl, rfl⟩); go_ret; exact ⟨ret_bool (by simp [cmdOk, maxB, maxC, inB_zero, in1, in2, in3, in4, in5, in6, *]; done), blw_⟩
    rcases bool_ft (inB 0 c 2) with hc | hc <;> (go_enter Try.func32, Try.ntmps32; go_wp2_with (go_at_call 67; refine (l1In_any _ _ _ _).mono ?_; (try rw [ha]); (try rw [hb]); (try rw [hc]); rintro e w1 ⟨rfl, rfl⟩); go_ret; exact ⟨ret_bool (by simp [cmdOk, maxB, maxC, inB_zero, in1, in2, in3, in4, in5, in6, *]; done), blw_⟩)
  · rcases bool_ft (inB 0 a 3) with ha | ha
    · go_enter Try.func32, Try.ntmps32; go_wp2_with (go_at_call 67; refine (l1In_any _ _ _ _).mono ?_; (try rw [ha]); (try rw [hb]); (try rw [hc]); rintro e w1 ⟨rfl, rfl⟩); go_ret; exact ⟨ret_bool (by simp [cmdOk, maxB, maxC, inB_zero, in1, in2, in3, in4, in5, in6, *]; done), blw_⟩
    rcases bool_ft (inB 0 b 3) with hb | hb
    · go_enter Try.func32, Try.ntmps32; go_wp2_with (go_at_call 67; refine (l1In_any _ _ _ _).mono ?_; (try rw [ha]); (try rw [hb]); (try rw [hc]); rintro e w1 ⟨rfl, rfl⟩); go_ret; exact ⟨ret_bool (by simp [cmdOk, maxB, maxC, inB_zero, in1, in2, in3, in4, in5, in6, *]; done), blw_⟩
    rcases Classical.em (c = 0) with hc | hc <;> (go_enter Try.func32, Try.ntmps32; go_wp2_with (go_at_call 67; refine (l1In_any _ _ _ _).mono ?_; (try rw [ha]); (try rw [hb]); (try rw [hc]); rintro e w1 ⟨rfl, rfl⟩); go_ret; exact ⟨ret_bool (by simp [cmdOk, maxB, maxC, inB_zero, in1, in2, in3, in4, in5, in6, *]; done), blw_⟩)
  · rcases bool_ft (inB 0 a 3) with ha | ha
    · go_enter Try.func32, Try.ntmps32; go_wp2_with (go_at_call 67; refine (l1In_any _ _ _ _).mono ?_; (try rw [ha]); (try rw [hb]); (try rw [hc]); rintro e w1 ⟨rfl, rfl⟩); go_ret; exact ⟨ret_bool (by simp [cmdOk, maxB, maxC, inB_zero, in1, in2, in3, in4, in5, in6, *]; done), blw_⟩
    rcases Classical.em (b = 0) with hb | hb <;> rcases Classical.em (c = 0) with hc | hc <;> (go_enter Try.func32, Try.ntmps32; go_wp2_with (go_at_call 67; refine (l1In_any _ _ _ _).mono ?_; (try rw [ha]); (try rw [hb]); (try rw [hc]); rintro e w1 ⟨rfl, rfl⟩); go_ret; exact ⟨ret_bool (by simp [cmdOk, maxB, maxC, inB_zero, in1, in2, in3, in4, in5, in6, *]; done), blw_⟩)
  · rcases bool_ft (inB 0 a 3) with ha | ha
    · go_enter Try.func32, Try.ntmps32; go_wp2_with (go_at_call 67; refine (l1In_any _ _ _ _).mono ?_; (try rw [ha]); (try rw [hb]); (try rw [hc]); rintro e w1 ⟨rfl, rfl⟩); go_ret; exact ⟨ret_bool (by simp [cmdOk, maxB, maxC, inB_zero, in1, in2, in3, in4, in5, in6, *]; done), blw_⟩
    rcases bool_ft (inB 0 b 99) with hb | hb
    · go_enter Try.func32, Try.ntmps32; go_wp2_with (go_at_call 67; refine (l1In_any _ _ _ _).mono ?_; (try rw [ha]); (try rw [hb]); (try rw [hc]); rintro e w1 ⟨rfl, rfl⟩); go_ret; exact ⟨ret_bool (by simp [cmdOk, maxB, maxC, inB_zero, in1, in2, in3, in4, in5, in6, *]; done), blw_⟩
    rcases Classical.em (c = 0) with hc | hc <;> (go_enter Try.func32, Try.ntmps32; go_wp2_with (go_at_call 67; refine (l1In_any _ _ _ _).mono ?_; (try rw [ha]); (try rw [hb]); (try rw [hc]); rintro e w1 ⟨rfl, rfl⟩); go_ret; exact ⟨ret_bool (by simp [cmdOk, maxB, maxC, inB_zero, in1, in2, in3, in4, in5, in6, *]; done), blw_⟩)
  · have hop : inB 1 op 6 = false := inB_false.2 (by omega)
    go_enter Try.func32, Try.ntmps32; go_wp2_with (go_at_call 67; refine (l1In_any _ _ _ _).mono ?_; (try rw [ha]); (try rw [hb]); (try rw [hc]); rintro e w1 ⟨rfl, rfl⟩); go_ret; exact ⟨ret_bool (by simp [cmdOk, maxB, maxC, inB_zero, in1, in2, in3, in4, in5, in6, *]; done), blw_⟩
end Go.Proofs.Ytkikeanpbffpkaa

/- The table of the program's operations; the program's CommandValid. -/
namespace Go.Proofs.Ytkikeanpbffpkaa
open Go.RowKit
set_option maxRecDepth 100000
set_option linter.unusedSimpArgs false
set_option linter.unusedVariables false
theorem results_cell {P : Program} {fn : Func} {p : Tmp} {ty : TypeId} (h : fn.results = #[.cell p ty]) (tmps : Array Value) (w : World) (b : Addr) (v : Value) (hp : tmps.getD p undef = .pointer (some b)) (hl : (loadVar ty b).run P w = .ok v w) :
    (results fn tmps).run P w = .ok v w := by
  simp only [results, h]
  have hp2 : tmps[p]?.getD undef = .pointer (some b) := by simpa using hp
  simp [Sem.run_bind, Result.andThen, hp2, asAddr, hl]
theorem ops_arr : Try.prog.underlying 92 = some (.array 7 91) := by kernel_rfl
theorem ops_size : (Try.prog.info? 92).map (·.size) = some 28 := by kernel_rfl
set_option maxHeartbeats 4000000 in
theorem operations_any (w : World) : Calls Try.prog 64 #[] w fun e w' => e = .returned (.agg #[.int .i64 0, .int .i64 0, .nilFunc, .nilFunc, .int .i64 3, .int .i64 99, .func (.func 82) #[] #[], .nilFunc, .int .i64 3, .int .i64 2, .func (.func 83) #[] #[], .func (.func 85) #[] #[], .int .i64 3, .int .i64 2, .func (.func 86) #[] #[], .func (.func 87) #[] #[], .int .i64 3, .int .i64 0, .func (.func 82) #[] #[], .func (.func 88) #[] #[], .int .i64 0, .int .i64 0, .func (.func 82) #[] #[], .func (.func 89) #[] #[], .int .i64 99, .int .i64 0, .func (.func 90) #[] #[], .func (.func 91) #[] #[]]) ∧ w' = w.alloc (.cells #[.int .i64 0, .int .i64 0, .nilFunc, .nilFunc, .int .i64 3, .int .i64 99, .func (.func 82) #[] #[], .nilFunc, .int .i64 3, .int .i64 2, .func (.func 83) #[] #[], .func (.func 85) #[] #[], .int .i64 3, .int .i64 2, .func (.func 86) #[] #[], .func (.func 87) #[] #[], .int .i64 3, .int .i64 0, .func (.func 82) #[] #[], .func (.func 88) #[] #[], .int .i64 0, .int .i64 0, .func (.func 82) #[] #[], .func (.func 89) #[] #[], .int .i64 99, .int .i64 0, .func (.func 90) #[] #[], .func (.func 91) #[] #[]] 92) := by
  go_enter Try.func64, Try.ntmps64
  go_upto_region 1 with fail
  refine wp_region_list ?_
  refine wpList_build rfl _ _ rfl (by kernel_rfl) ?_
  refine wpList_build rfl _ _ rfl (by kernel_rfl) ?_
  refine wpList_build rfl _ _ rfl (by kernel_rfl) ?_
  refine wpList_build rfl _ _ rfl (by kernel_rfl) ?_
  refine wpList_build rfl _ _ rfl (by kernel_rfl) ?_
  refine wpList_build rfl _ _ rfl (by kernel_rfl) ?_
  refine wpList_build rfl _ _ rfl (by kernel_rfl) ?_
  refine wpList_store_row rfl 92 _ _ rfl w.heap.size #[.int .i64 0, .int .i64 0, .nilFunc, .nilFunc, .int .i64 3, .int .i64 99, .func (.func 82) #[] #[], .nilFunc, .int .i64 3, .int .i64 2, .func (.func 83) #[] #[], .func (.func 85) #[] #[], .int .i64 3, .int .i64 2, .func (.func 86) #[] #[], .func (.func 87) #[] #[], .int .i64 3, .int .i64 0, .func (.func 82) #[] #[], .func (.func 88) #[] #[], .int .i64 0, .int .i64 0, .func (.func 82) #[] #[], .func (.func 89) #[] #[], .int .i64 99, .int .i64 0, .func (.func 90) #[] #[], .func (.func 91) #[] #[]] rfl (by kernel_rfl) 92 _ (heap_alloc_last w _) ops_size rfl (by kernel_rfl) ?_
  rw [World.setRow_alloc_new]
  go_wp2
  refine bodyPost_ret (v := .agg #[.int .i64 0, .int .i64 0, .nilFunc, .nilFunc, .int .i64 3, .int .i64 99, .func (.func 82) #[] #[], .nilFunc, .int .i64 3, .int .i64 2, .func (.func 83) #[] #[], .func (.func 85) #[] #[], .int .i64 3, .int .i64 2, .func (.func 86) #[] #[], .func (.func 87) #[] #[], .int .i64 3, .int .i64 0, .func (.func 82) #[] #[], .func (.func 88) #[] #[], .int .i64 0, .int .i64 0, .func (.func 82) #[] #[], .func (.func 89) #[] #[], .int .i64 99, .int .i64 0, .func (.func 90) #[] #[], .func (.func 91) #[] #[]]) (results_cell rfl _ _ ⟨w.heap.size, 0, none⟩ _ rfl (run_loadVar_new w 92 _ 7 _ ops_arr ops_size)) rfl ⟨rfl, rfl⟩
theorem opIx1 (W : World) : Sem.run Try.prog (Instr.index 92 (.agg #[.int .i64 0, .int .i64 0, .nilFunc, .nilFunc, .int .i64 3, .int .i64 99, .func (.func 82) #[] #[], .nilFunc, .int .i64 3, .int .i64 2, .func (.func 83) #[] #[], .func (.func 85) #[] #[], .int .i64 3, .int .i64 2, .func (.func 86) #[] #[], .func (.func 87) #[] #[], .int .i64 3, .int .i64 0, .func (.func 82) #[] #[], .func (.func 88) #[] #[], .int .i64 0, .int .i64 0, .func (.func 82) #[] #[], .func (.func 89) #[] #[], .int .i64 99, .int .i64 0, .func (.func 90) #[] #[], .func (.func 91) #[] #[]]) (.int .i64 1)) W = .ok (.agg #[.int .i64 3, .int .i64 99, .func (.func 82) #[] #[], .nilFunc]) W := by kernel_rfl
theorem opIx2 (W : World) : Sem.run Try.prog (Instr.index 92 (.agg #[.int .i64 0, .int .i64 0, .nilFunc, .nilFunc, .int .i64 3, .int .i64 99, .func (.func 82) #[] #[], .nilFunc, .int .i64 3, .int .i64 2, .func (.func 83) #[] #[], .func (.func 85) #[] #[], .int .i64 3, .int .i64 2, .func (.func 86) #[] #[], .func (.func 87) #[] #[], .int .i64 3, .int .i64 0, .func (.func 82) #[] #[], .func (.func 88) #[] #[], .int .i64 0, .int .i64 0, .func (.func 82) #[] #[], .func (.func 89) #[] #[], .int .i64 99, .int .i64 0, .func (.func 90) #[] #[], .func (.func 91) #[] #[]]) (.int .i64 2)) W = .ok (.agg #[.int .i64 3, .int .i64 2, .func (.func 83) #[] #[], .func (.func 85) #[] #[]]) W := by kernel_rfl
theorem opIx3 (W : World) : Sem.run Try.prog (Instr.index 92 (.agg #[.int .i64 0, .int .i64 0, .nilFunc, .nilFunc, .int .i64 3, .int .i64 99, .func (.func 82) #[] #[], .nilFunc, .int .i64 3, .int .i64 2, .func (.func 83) #[] #[], .func (.func 85) #[] #[], .int .i64 3, .int .i64 2, .func (.func 86) #[] #[], .func (.func 87) #[] #[], .int .i64 3, .int .i64 0, .func (.func 82) #[] #[], .func (.func 88) #[] #[], .int .i64 0, .int .i64 0, .func (.func 82) #[] #[], .func (.func 89) #[] #[], .int .i64 99, .int .i64 0, .func (.func 90) #[] #[], .func (.func 91) #[] #[]]) (.int .i64 3)) W = .ok (.agg #[.int .i64 3, .int .i64 2, .func (.func 86) #[] #[], .func (.func 87) #[] #[]]) W := by kernel_rfl
theorem opIx4 (W : World) : Sem.run Try.prog (Instr.index 92 (.agg #[.int .i64 0, .int .i64 0, .nilFunc, .nilFunc, .int .i64 3, .int .i64 99, .func (.func 82) #[] #[], .nilFunc, .int .i64 3, .int .i64 2, .func (.func 83) #[] #[], .func (.func 85) #[] #[], .int .i64 3, .int .i64 2, .func (.func 86) #[] #[], .func (.func 87) #[] #[], .int .i64 3, .int .i64 0, .func (.func 82) #[] #[], .func (.func 88) #[] #[], .int .i64 0, .int .i64 0, .func (.func 82) #[] #[], .func (.func 89) #[] #[], .int .i64 99, .int .i64 0, .func (.func 90) #[] #[], .func (.func 91) #[] #[]]) (.int .i64 4)) W = .ok (.agg #[.int .i64 3, .int .i64 0, .func (.func 82) #[] #[], .func (.func 88) #[] #[]]) W := by kernel_rfl
theorem opIx5 (W : World) : Sem.run Try.prog (Instr.index 92 (.agg #[.int .i64 0, .int .i64 0, .nilFunc, .nilFunc, .int .i64 3, .int .i64 99, .func (.func 82) #[] #[], .nilFunc, .int .i64 3, .int .i64 2, .func (.func 83) #[] #[], .func (.func 85) #[] #[], .int .i64 3, .int .i64 2, .func (.func 86) #[] #[], .func (.func 87) #[] #[], .int .i64 3, .int .i64 0, .func (.func 82) #[] #[], .func (.func 88) #[] #[], .int .i64 0, .int .i64 0, .func (.func 82) #[] #[], .func (.func 89) #[] #[], .int .i64 99, .int .i64 0, .func (.func 90) #[] #[], .func (.func 91) #[] #[]]) (.int .i64 5)) W = .ok (.agg #[.int .i64 0, .int .i64 0, .func (.func 82) #[] #[], .func (.func 89) #[] #[]]) W := by kernel_rfl
theorem opIx6 (W : World) : Sem.run Try.prog (Instr.index 92 (.agg #[.int .i64 0, .int .i64 0, .nilFunc, .nilFunc, .int .i64 3, .int .i64 99, .func (.func 82) #[] #[], .nilFunc, .int .i64 3, .int .i64 2, .func (.func 83) #[] #[], .func (.func 85) #[] #[], .int .i64 3, .int .i64 2, .func (.func 86) #[] #[], .func (.func 87) #[] #[], .int .i64 3, .int .i64 0, .func (.func 82) #[] #[], .func (.func 88) #[] #[], .int .i64 0, .int .i64 0, .func (.func 82) #[] #[], .func (.func 89) #[] #[], .int .i64 99, .int .i64 0, .func (.func 90) #[] #[], .func (.func 91) #[] #[]]) (.int .i64 6)) W = .ok (.agg #[.int .i64 99, .int .i64 0, .func (.func 90) #[] #[], .func (.func 91) #[] #[]]) W := by kernel_rfl
end Go.Proofs.Ytkikeanpbffpkaa

/- The program's CommandValid; both CommandsValid. -/
namespace Go.Proofs.Ytkikeanpbffpkaa
open Go.RowKit
set_option maxRecDepth 100000
set_option linter.unusedSimpArgs false
set_option linter.unusedVariables false
set_option maxHeartbeats 4000000 in
theorem implCommandValid_any (o : CmdM) (w : World) :
    Calls Try.prog 25 #[.agg #[.int .i64 o.op, .int .i64 o.a, .int .i64 o.b, .int .i64 o.c]] w fun e w' => e = .returned (.bool (cmdOk o)) ∧ Below w.heap.size w w' := by
  rcases Classical.em (1 ≤ o.op ∧ o.op ≤ 6) with ⟨hop1, hop6⟩ | hop
  · have k0 : (w.alloc (.cells #[.int .i64 o.op, .int .i64 o.a, .int .i64 o.b, .int .i64 o.c] 30)).cell? ⟨w.heap.size, 0, none⟩ = some (.int .i64 o.op) := by simp [go_sem]
    have k1 : (w.alloc (.cells #[.int .i64 o.op, .int .i64 o.a, .int .i64 o.b, .int .i64 o.c] 30)).cell? ⟨w.heap.size, 1, none⟩ = some (.int .i64 o.a) := by simp [go_sem]
    have k2 : (w.alloc (.cells #[.int .i64 o.op, .int .i64 o.a, .int .i64 o.b, .int .i64 o.c] 30)).cell? ⟨w.heap.size, 2, none⟩ = some (.int .i64 o.b) := by simp [go_sem]
    have k3 : (w.alloc (.cells #[.int .i64 o.op, .int .i64 o.a, .int .i64 o.b, .int .i64 o.c] 30)).cell? ⟨w.heap.size, 3, none⟩ = some (.int .i64 o.c) := by simp [go_sem]
    go_enter Try.func25, Try.ntmps25
    go_upto_region 3 with fail
    go_cut [3] (fun s3 wx => ∃ b3, s3 = .pointer (some ⟨b3, 0, none⟩) ∧ wx.cell? ⟨b3, 0, none⟩ = some (.int .i64 (maxB o.op)) ∧ wx.cell? ⟨b3, 1, none⟩ = some (.int .i64 (maxC o.op)) ∧ Below (w.alloc (.cells #[.int .i64 o.op, .int .i64 o.a, .int .i64 o.b, .int .i64 o.c] 30)).heap.size (w.alloc (.cells #[.int .i64 o.op, .int .i64 o.a, .int .i64 o.b, .int .i64 o.c] 30)) wx)
    case first =>
      obtain ⟨op, a, b, c⟩ := o
      dsimp only at *
      rcases (by omega : op = 1 ∨ op = 2 ∨ op = 3 ∨ op = 4 ∨ op = 5 ∨ op = 6) with rfl | rfl | rfl | rfl | rfl | rfl
      · have hix := opIx1
        go_region_held3 (fun w' => w'.cell? ⟨w.heap.size, 0, none⟩ = some (.int .i64 1))
          (first | exact cell_below k0 blw_)
          (first | (go_at_call 64; (with_reducible refine (operations_any _).mono ?_); rintro e w1 ⟨rfl, rfl⟩))
        all_goals
          go_wp2_with fail
          go_meet
          exact ⟨_, rfl, by simp [go_sem, maxB], by simp [go_sem, maxC], blw_⟩
      · have hix := opIx2
        go_region_held3 (fun w' => w'.cell? ⟨w.heap.size, 0, none⟩ = some (.int .i64 2))
          (first | exact cell_below k0 blw_)
          (first | (go_at_call 64; (with_reducible refine (operations_any _).mono ?_); rintro e w1 ⟨rfl, rfl⟩))
        all_goals
          go_wp2_with fail
          go_meet
          exact ⟨_, rfl, by simp [go_sem, maxB], by simp [go_sem, maxC], blw_⟩
      · have hix := opIx3
        go_region_held3 (fun w' => w'.cell? ⟨w.heap.size, 0, none⟩ = some (.int .i64 3))
          (first | exact cell_below k0 blw_)
          (first | (go_at_call 64; (with_reducible refine (operations_any _).mono ?_); rintro e w1 ⟨rfl, rfl⟩))
        all_goals
          go_wp2_with fail
          go_meet
          exact ⟨_, rfl, by simp [go_sem, maxB], by simp [go_sem, maxC], blw_⟩
      · have hix := opIx4
        go_region_held3 (fun w' => w'.cell? ⟨w.heap.size, 0, none⟩ = some (.int .i64 4))
          (first | exact cell_below k0 blw_)
          (first | (go_at_call 64; (with_reducible refine (operations_any _).mono ?_); rintro e w1 ⟨rfl, rfl⟩))
        all_goals
          go_wp2_with fail
          go_meet
          exact ⟨_, rfl, by simp [go_sem, maxB], by simp [go_sem, maxC], blw_⟩
      · have hix := opIx5
        go_region_held3 (fun w' => w'.cell? ⟨w.heap.size, 0, none⟩ = some (.int .i64 5))
          (first | exact cell_below k0 blw_)
          (first | (go_at_call 64; (with_reducible refine (operations_any _).mono ?_); rintro e w1 ⟨rfl, rfl⟩))
        all_goals
          go_wp2_with fail
          go_meet
          exact ⟨_, rfl, by simp [go_sem, maxB], by simp [go_sem, maxC], blw_⟩
      · have hix := opIx6
        go_region_held3 (fun w' => w'.cell? ⟨w.heap.size, 0, none⟩ = some (.int .i64 6))
          (first | exact cell_below k0 blw_)
          (first | (go_at_call 64; (with_reducible refine (operations_any _).mono ?_); rintro e w1 ⟨rfl, rfl⟩))
        all_goals
          go_wp2_with fail
          go_meet
          exact ⟨_, rfl, by simp [go_sem, maxB], by simp [go_sem, maxC], blw_⟩
    case rest =>
      obtain ⟨b3, rfl, p0, p1, hB⟩ := hcut
      have n1 := cell_below k1 hB
      have n2 := cell_below k2 hB
      have n3 := cell_below k3 hB
      have hw : Below w.heap.size w wc := (show Below w.heap.size w (w.alloc (.cells #[.int .i64 o.op, .int .i64 o.a, .int .i64 o.b, .int .i64 o.c] 30)) from (Below.refl _ _).alloc (Nat.le_refl _) _).trans (hB.mono (by simp))
      clear k0 k1 k2 k3 hB
      rcases Classical.em (0 ≤ o.a) with a0 | a0
      · rcases Classical.em (o.a < 4) with a4 | a4
        · rcases Classical.em (0 ≤ o.b) with b0 | b0
          · rcases Classical.em (o.b ≤ maxB o.op) with b4 | b4
            · rcases Classical.em (0 ≤ o.c) with c0 | c0
              · rcases Classical.em (o.c ≤ maxC o.op) with c4 | c4
                · have HN := Lib.hid (cmdOk_iff.2 ⟨⟨hop1, hop6⟩, ⟨a0, by omega⟩, ⟨b0, b4⟩, c0, c4⟩)
                  go_wp2
                  go_ret
                  exact ⟨ret_bool HN.out.symm, hw⟩
                · have HN := Lib.hid (cmdOk_not (o := o) (fun h => by omega)); go_wp2; go_ret; exact ⟨ret_bool HN.out.symm, hw⟩
              · have HN := Lib.hid (cmdOk_not (o := o) (fun h => by omega)); go_wp2; go_ret; exact ⟨ret_bool HN.out.symm, hw⟩
            · have HN := Lib.hid (cmdOk_not (o := o) (fun h => by omega)); go_wp2; go_ret; exact ⟨ret_bool HN.out.symm, hw⟩
          · have HN := Lib.hid (cmdOk_not (o := o) (fun h => by omega)); go_wp2; go_ret; exact ⟨ret_bool HN.out.symm, hw⟩
        · have HN := Lib.hid (cmdOk_not (o := o) (fun h => by omega)); go_wp2; go_ret; exact ⟨ret_bool HN.out.symm, hw⟩
      · have HN := Lib.hid (cmdOk_not (o := o) (fun h => by omega)); go_wp2; go_ret; exact ⟨ret_bool HN.out.symm, hw⟩
  · have HN := Lib.hid (cmdOk_not (o := o) (fun h => hop h.1))
    rcases Classical.em (o.op < 1) with h1 | h1
    · go_enter Try.func25, Try.ntmps25
      go_wp2
      go_ret
      exact ⟨ret_bool HN.out.symm, blw_⟩
    · have h6 : 6 < o.op := by omega
      go_enter Try.func25, Try.ntmps25
      go_wp2
      go_ret
      exact ⟨ret_bool HN.out.symm, blw_⟩
end Go.Proofs.Ytkikeanpbffpkaa

/- Where an instruction's reference lies (place), and whether an instruction is possible, in both. -/
namespace Go.Proofs.Ytkikeanpbffpkaa
open Go.RowKit
set_option maxRecDepth 100000
set_option linter.unusedSimpArgs false
set_option linter.unusedVariables false
theorem rootAt_of {h : HeapM} {root r : Int} (hr : h.roots[root.toNat]? = some r) : rootAt h root = r := by simp [rootAt, hr]
theorem placeOk_neg {h : HeapM} {root c r : Int} (hr : h.roots[root.toNat]? = some r) (h0 : r < 0) : placeOk h root c = false := by
  unfold placeOk; rw [rootAt_of hr]; simp; omega
theorem placeOk_at {h : HeapM} {root c r : Int} {d : CellM} (hr : h.roots[root.toNat]? = some r) (h0 : 0 ≤ r) (hd : h.cells[r.toNat]? = some d) : placeOk h root c = decide (c < (d.refs.length : Int)) := by
  unfold placeOk; rw [rootAt_of hr, refsAt_of hd]; simp [h0]
set_option maxHeartbeats 4000000 in
theorem place_any (A A' : Option Addr) (c c' : Nat) (h : HeapM) (root ci : Int) (w : World) (hv : RHs w A A' h) (hr0 : 0 ≤ root) (hr1 : root < h.roots.length) (hlt : ∀ r ∈ h.roots, r < h.cells.length) (hc0 : 0 ≤ ci) :
    Calls Try.prog 84 #[.agg #[.slice A h.cells.length c, .slice A' h.roots.length c'], .int .i64 root, .int .i64 ci] w fun e w' =>
      ∃ P, e = .returned (.tuple #[.pointer P, .bool (placeOk h root ci)]) ∧ (placeOk h root ci = true → ∃ b o Ar n cr b2 o2, A = some ⟨b, o, none⟩ ∧ 0 ≤ rootAt h root ∧ w.cell? ⟨b, o + (rootAt h root).toNat * 3 + 2, none⟩ = some (.slice Ar n cr) ∧ Ar = some ⟨b2, o2, none⟩ ∧ P = some ⟨b2, o2 + ci.toNat, none⟩) ∧ Below w.heap.size w w' := by
  obtain ⟨hc, hr, hl1, hl2⟩ := hv
  obtain ⟨b', o', r, rfl, gr, c1, hb'⟩ := hr.at_ (k := root.toNat) (by omega)
  have c1' : (w.alloc (.cells #[.slice A h.cells.length c, .slice (some ⟨b', o', none⟩) h.roots.length c'] 26)).cell? ⟨b', o' + root.toNat, none⟩ = some (.int .i64 r) := cell_below c1 blw_
  have hrx := hlt r (List.mem_of_getElem? gr)
  have HRA := Lib.hid (rootAt_of gr)
  rcases Classical.em (r < 0) with h0 | h0
  · have HP := Lib.hid (placeOk_neg (c := ci) gr h0)
    clear gr hlt c1 hc hr
    go_enter Try.func84, Try.ntmps84
    go_wp2
    go_ret2
    refine ⟨none, ?_, ?_, blw_⟩
    · rw [HP.out]; rfl
    · intro hp; rw [HP.out] at hp; cases hp
  · obtain ⟨b, o, d, Ar, cr, rfl, gd, c2, c3, c4, hrr, hrl, hb⟩ := hc.at_ (k := r.toNat) (by omega)
    have HP := Lib.hid (placeOk_at (c := ci) gr (by omega) gd)
    have c4' : (w.alloc (.cells #[.slice (some ⟨b, o, none⟩) h.cells.length c, .slice (some ⟨b', o', none⟩) h.roots.length c'] 26)).cell? ⟨b, o + r.toNat * 3 + 2, none⟩ = some (.slice Ar d.refs.length cr) := cell_below c4 blw_
    have h0' : 0 ≤ r := by omega
    have HC4 := Lib.hid c4
    clear gr gd hlt c1 c2 c3 c4 hc hr h0
    rcases Classical.em (ci < (d.refs.length : Int)) with h1 | h1
    · obtain ⟨b2, o2, x, rfl, gx, c5, hb2⟩ := hrr.at_ (k := ci.toNat) (by omega)
      clear gx c5 hrr
      go_enter Try.func84, Try.ntmps84
      go_wp2
      go_ret2
      refine ⟨some ⟨b2, o2 + ci.toNat, none⟩, ?_, ?_, blw_⟩
      · rw [HP.out]; simp [h1]
      · intro _; exact ⟨b, o, _, _, _, b2, o2, rfl, by rw [HRA.out]; exact h0', by rw [HRA.out]; exact HC4.out, rfl, rfl⟩
    · clear hrr
      go_enter Try.func84, Try.ntmps84
      go_wp2
      go_ret2
      refine ⟨none, ?_, ?_, blw_⟩
      · rw [HP.out]; simp [h1]
      · intro hp; rw [HP.out] at hp; exact absurd (of_decide_eq_true hp) (by omega)
set_option maxHeartbeats 400000 in
theorem always_any (A A' : Option Addr) (c c' : Nat) (h : HeapM) (o : CmdM) (w : World) : Calls Try.prog 82 #[.agg #[.slice A h.cells.length c, .slice A' h.roots.length c'], .agg #[.int .i64 o.op, .int .i64 o.a, .int .i64 o.b, .int .i64 o.c]] w fun e w' => e = .returned (.bool true) ∧ Below w.heap.size w w' := by
  go_enter Try.func82, Try.ntmps82
  go_wp2
  go_ret
  exact ⟨rfl, blw_⟩
set_option maxHeartbeats 400000 in
theorem poss1_any (A A' : Option Addr) (c c' : Nat) (h : HeapM) (o : CmdM) (w : World) (hv : RHs w A A' h) (hr0 : 0 ≤ o.b) (hr1 : o.b < h.roots.length) (hlt : ∀ r ∈ h.roots, r < h.cells.length) (hc0 : 0 ≤ o.c) :
    Calls Try.prog 83 #[.agg #[.slice A h.cells.length c, .slice A' h.roots.length c'], .agg #[.int .i64 o.op, .int .i64 o.a, .int .i64 o.b, .int .i64 o.c]] w fun e w' => e = .returned (.bool (placeOk h o.b o.c)) ∧ Below w.heap.size w w' := by
  go_enter Try.func83, Try.ntmps83
  go_wp2_with (go_at_call 84; refine (place_any A A' c c' h _ _ _ (hv.below blw_) hr0 hr1 hlt hc0).mono ?_; rintro e w1 ⟨P, rfl, -, hB1⟩)
  go_ret
  exact ⟨rfl, blw_⟩
set_option maxHeartbeats 400000 in
theorem poss3_any (A A' : Option Addr) (c c' : Nat) (h : HeapM) (o : CmdM) (w : World) (hv : RHs w A A' h) (hr0 : 0 ≤ o.a) (hr1 : o.a < h.roots.length) (hlt : ∀ r ∈ h.roots, r < h.cells.length) (hc0 : 0 ≤ o.c) :
    Calls Try.prog 86 #[.agg #[.slice A h.cells.length c, .slice A' h.roots.length c'], .agg #[.int .i64 o.op, .int .i64 o.a, .int .i64 o.b, .int .i64 o.c]] w fun e w' => e = .returned (.bool (placeOk h o.a o.c)) ∧ Below w.heap.size w w' := by
  go_enter Try.func86, Try.ntmps86
  go_wp2_with (go_at_call 84; refine (place_any A A' c c' h _ _ _ (hv.below blw_) hr0 hr1 hlt hc0).mono ?_; rintro e w1 ⟨P, rfl, -, hB1⟩)
  go_ret
  exact ⟨rfl, blw_⟩
set_option maxHeartbeats 400000 in
theorem poss7_any (A A' : Option Addr) (c c' : Nat) (h : HeapM) (o : CmdM) (w : World) (hv : RHs w A A' h) (hr0 : 0 ≤ o.a) (hr1 : o.a < h.roots.length) :
    Calls Try.prog 90 #[.agg #[.slice A h.cells.length c, .slice A' h.roots.length c'], .agg #[.int .i64 o.op, .int .i64 o.a, .int .i64 o.b, .int .i64 o.c]] w fun e w' => e = .returned (.bool (decide (0 ≤ rootAt h o.a))) ∧ Below w.heap.size w w' := by
  obtain ⟨hc, hr, hl1, hl2⟩ := hv
  obtain ⟨b', o', r, rfl, gr, c1, hb'⟩ := hr.at_ (k := o.a.toNat) (by omega)
  have c1' : (((w.alloc (.cells #[.slice A h.cells.length c, .slice (some ⟨b', o', none⟩) h.roots.length c'] 26))).alloc (.cells #[.int .i64 o.op, .int .i64 o.a, .int .i64 o.b, .int .i64 o.c] 30)).cell? ⟨b', o' + o.a.toNat, none⟩ = some (.int .i64 r) := cell_below c1 blw_
  have HRA := Lib.hid (rootAt_of gr)
  clear gr c1
  rcases Classical.em (0 ≤ r) with h0 | h0
  · go_enter Try.func90, Try.ntmps90
    go_wp2
    go_ret
    exact ⟨ret_bool (by rw [HRA.out]; simp [h0]), blw_⟩
  · go_enter Try.func90, Try.ntmps90
    go_wp2
    go_ret
    exact ⟨ret_bool (by rw [HRA.out]; simp [h0]), blw_⟩
end Go.Proofs.Ytkikeanpbffpkaa

/- The fields of the operations in the program's table. -/
namespace Go.Proofs.Ytkikeanpbffpkaa
open Go.RowKit
theorem opFp1 (W : World) : Sem.run Try.prog (Instr.field 91 (.agg #[.int .i64 3, .int .i64 99, .func (.func 82) #[] #[], .nilFunc]) 2) W = .ok (.func (.func 82) #[] #[]) W := by kernel_rfl
theorem opFp2 (W : World) : Sem.run Try.prog (Instr.field 91 (.agg #[.int .i64 3, .int .i64 2, .func (.func 83) #[] #[], .func (.func 85) #[] #[]]) 2) W = .ok (.func (.func 83) #[] #[]) W := by kernel_rfl
theorem opFr2 (W : World) : Sem.run Try.prog (Instr.field 91 (.agg #[.int .i64 3, .int .i64 2, .func (.func 83) #[] #[], .func (.func 85) #[] #[]]) 3) W = .ok (.func (.func 85) #[] #[]) W := by kernel_rfl
theorem opFp3 (W : World) : Sem.run Try.prog (Instr.field 91 (.agg #[.int .i64 3, .int .i64 2, .func (.func 86) #[] #[], .func (.func 87) #[] #[]]) 2) W = .ok (.func (.func 86) #[] #[]) W := by kernel_rfl
theorem opFr3 (W : World) : Sem.run Try.prog (Instr.field 91 (.agg #[.int .i64 3, .int .i64 2, .func (.func 86) #[] #[], .func (.func 87) #[] #[]]) 3) W = .ok (.func (.func 87) #[] #[]) W := by kernel_rfl
theorem opFp4 (W : World) : Sem.run Try.prog (Instr.field 91 (.agg #[.int .i64 3, .int .i64 0, .func (.func 82) #[] #[], .func (.func 88) #[] #[]]) 2) W = .ok (.func (.func 82) #[] #[]) W := by kernel_rfl
theorem opFr4 (W : World) : Sem.run Try.prog (Instr.field 91 (.agg #[.int .i64 3, .int .i64 0, .func (.func 82) #[] #[], .func (.func 88) #[] #[]]) 3) W = .ok (.func (.func 88) #[] #[]) W := by kernel_rfl
theorem opFp5 (W : World) : Sem.run Try.prog (Instr.field 91 (.agg #[.int .i64 0, .int .i64 0, .func (.func 82) #[] #[], .func (.func 89) #[] #[]]) 2) W = .ok (.func (.func 82) #[] #[]) W := by kernel_rfl
theorem opFr5 (W : World) : Sem.run Try.prog (Instr.field 91 (.agg #[.int .i64 0, .int .i64 0, .func (.func 82) #[] #[], .func (.func 89) #[] #[]]) 3) W = .ok (.func (.func 89) #[] #[]) W := by kernel_rfl
theorem opFp6 (W : World) : Sem.run Try.prog (Instr.field 91 (.agg #[.int .i64 99, .int .i64 0, .func (.func 90) #[] #[], .func (.func 91) #[] #[]]) 2) W = .ok (.func (.func 90) #[] #[]) W := by kernel_rfl
theorem opFr6 (W : World) : Sem.run Try.prog (Instr.field 91 (.agg #[.int .i64 99, .int .i64 0, .func (.func 90) #[] #[], .func (.func 91) #[] #[]]) 3) W = .ok (.func (.func 91) #[] #[]) W := by kernel_rfl
end Go.Proofs.Ytkikeanpbffpkaa

/- CommandPossible of both is possM. -/
namespace Go.Proofs.Ytkikeanpbffpkaa
open Go.RowKit
open Go.Sort
set_option maxRecDepth 100000
set_option linter.unusedSimpArgs false
set_option linter.unusedVariables false
theorem possM_false {h : HeapM} {o : CmdM} (hv : validM h = false) : possM h o = false := by unfold possM; rw [hv]; rfl
theorem possM_bad {h : HeapM} {o : CmdM} (hv : cmdOk o = false) : possM h o = false := by unfold possM; rw [hv]; simp
theorem possM_ok {h : HeapM} {o : CmdM} (hv : validM h = true) (hc : cmdOk o = true) : possM h o = possO h o := by unfold possM; rw [hv, hc]; rfl
set_option maxHeartbeats 4000000 in
theorem implCommandPossible_any (v : Value) (h : HeapM) (o : CmdM) (w : World) (hv : RH w v h) :
    Calls Try.prog 42 #[v, .agg #[.int .i64 o.op, .int .i64 o.a, .int .i64 o.b, .int .i64 o.c]] w fun e w' => e = .returned (.bool (possM h o)) ∧ Below w.heap.size w w' := by
  have hv0 := hv
  obtain ⟨A, c, A', c', rfl, hc, hr, hl1, hl2⟩ := hv
  have hrhs : RHs w A A' h := ⟨hc, hr, hl1, hl2⟩
  obtain ⟨op, oa, ob, oc⟩ := o
  dsimp only
  have HB : ∀ d os_, Below w.heap.size w (grow (redrawn ((w.alloc (.cells #[.slice A h.cells.length c, .slice A' h.roots.length c'] 26)).alloc (.cells #[.int .i64 op, .int .i64 oa, .int .i64 ob, .int .i64 oc] 30)) d) os_) := fun d os_ => (show Below w.heap.size w ((w.alloc (.cells #[.slice A h.cells.length c, .slice A' h.roots.length c'] 26)).alloc (.cells #[.int .i64 op, .int .i64 oa, .int .i64 ob, .int .i64 oc] 30)) from blw_).trans ((below_regrown _ d os_).mono (by simp; omega))
  have HWB : Hid (Below w.heap.size w ((w.alloc (.cells #[.slice A h.cells.length c, .slice A' h.roots.length c'] 26)).alloc (.cells #[.int .i64 op, .int .i64 oa, .int .i64 ob, .int .i64 oc] 30))) := by unfold Hid; exact blw_
  have k0 := cell_regrown (show ((w.alloc (.cells #[.slice A h.cells.length c, .slice A' h.roots.length c'] 26)).alloc (.cells #[.int .i64 op, .int .i64 oa, .int .i64 ob, .int .i64 oc] 30)).cell? ⟨w.heap.size, 0, none⟩ = some (.slice A h.cells.length c) from by simp [go_sem])
  have k1 := cell_regrown (show ((w.alloc (.cells #[.slice A h.cells.length c, .slice A' h.roots.length c'] 26)).alloc (.cells #[.int .i64 op, .int .i64 oa, .int .i64 ob, .int .i64 oc] 30)).cell? ⟨w.heap.size, 1, none⟩ = some (.slice A' h.roots.length c') from by simp [go_sem])
  have m0 := cell_regrown (show ((w.alloc (.cells #[.slice A h.cells.length c, .slice A' h.roots.length c'] 26)).alloc (.cells #[.int .i64 op, .int .i64 oa, .int .i64 ob, .int .i64 oc] 30)).cell? ⟨w.heap.size + 1, 0, none⟩ = some (.int .i64 op) from by simp [go_sem])
  have m1 := cell_regrown (show ((w.alloc (.cells #[.slice A h.cells.length c, .slice A' h.roots.length c'] 26)).alloc (.cells #[.int .i64 op, .int .i64 oa, .int .i64 ob, .int .i64 oc] 30)).cell? ⟨w.heap.size + 1, 1, none⟩ = some (.int .i64 oa) from by simp [go_sem])
  have m2 := cell_regrown (show ((w.alloc (.cells #[.slice A h.cells.length c, .slice A' h.roots.length c'] 26)).alloc (.cells #[.int .i64 op, .int .i64 oa, .int .i64 ob, .int .i64 oc] 30)).cell? ⟨w.heap.size + 1, 2, none⟩ = some (.int .i64 ob) from by simp [go_sem])
  have m3 := cell_regrown (show ((w.alloc (.cells #[.slice A h.cells.length c, .slice A' h.roots.length c'] 26)).alloc (.cells #[.int .i64 op, .int .i64 oa, .int .i64 ob, .int .i64 oc] 30)).cell? ⟨w.heap.size + 1, 3, none⟩ = some (.int .i64 oc) from by simp [go_sem])
  have cO : ∀ d os_, Calls Try.prog 64 #[] (grow (redrawn ((w.alloc (.cells #[.slice A h.cells.length c, .slice A' h.roots.length c'] 26)).alloc (.cells #[.int .i64 op, .int .i64 oa, .int .i64 ob, .int .i64 oc] 30)) d) os_) fun e w'' => e = .returned (.agg #[.int .i64 0, .int .i64 0, .nilFunc, .nilFunc, .int .i64 3, .int .i64 99, .func (.func 82) #[] #[], .nilFunc, .int .i64 3, .int .i64 2, .func (.func 83) #[] #[], .func (.func 85) #[] #[], .int .i64 3, .int .i64 2, .func (.func 86) #[] #[], .func (.func 87) #[] #[], .int .i64 3, .int .i64 0, .func (.func 82) #[] #[], .func (.func 88) #[] #[], .int .i64 0, .int .i64 0, .func (.func 82) #[] #[], .func (.func 89) #[] #[], .int .i64 99, .int .i64 0, .func (.func 90) #[] #[], .func (.func 91) #[] #[]]) ∧ ∃ p : Regrown, w'' = grow (redrawn ((w.alloc (.cells #[.slice A h.cells.length c, .slice A' h.roots.length c'] 26)).alloc (.cells #[.int .i64 op, .int .i64 oa, .int .i64 ob, .int .i64 oc] 30)) p.d) p.os := fun d os_ => Calls.regrown_of ((operations_any _).mono fun e w' hw => ⟨hw.1, by rw [hw.2]; exact (Below.refl _ _).alloc (Nat.le_refl _) _⟩)
  cases hva : validM h
  · have HPM := Lib.hid (possM_false (o := ⟨op, oa, ob, oc⟩) hva)
    have cH : ∀ d os_, Calls Try.prog 41 #[.agg #[.slice A h.cells.length c, .slice A' h.roots.length c']] (grow (redrawn ((w.alloc (.cells #[.slice A h.cells.length c, .slice A' h.roots.length c'] 26)).alloc (.cells #[.int .i64 op, .int .i64 oa, .int .i64 ob, .int .i64 oc] 30)) d) os_) fun e w'' => e = .returned (.bool false) ∧ ∃ p : Regrown, w'' = grow (redrawn ((w.alloc (.cells #[.slice A h.cells.length c, .slice A' h.roots.length c'] 26)).alloc (.cells #[.int .i64 op, .int .i64 oa, .int .i64 ob, .int .i64 oc] 30)) p.d) p.os := fun d os_ => Calls.regrown_of (by have h9 := implHeapValid_any _ h _ (hv0.below (HB d os_)); rw [hva] at h9; exact h9)
    clear hva HB hrhs hc hr
    go_enter Try.func42, Try.ntmps42
    (go_wp2_with (fail)); generalize (w.alloc (.cells #[.slice A h.cells.length c, .slice A' h.roots.length c'] 26)).alloc (.cells #[.int .i64 op, .int .i64 oa, .int .i64 ob, .int .i64 oc] 30) = W at *; refine wp_region_quiet_below (by kernel_rfl) (by kernel_rfl) ?_; (with_reducible refine wpQuiet_step (fun K hK => ?_)); go_simp; (with_reducible refine hK _ ?_); clear hK K; (with_reducible refine wpQuiet_step (fun K hK => ?_)); go_simp; apply Exists.intro; refine ⟨fun _ => ?_, hK _ ?_⟩; exact cH _ _; clear hK K; (with_reducible refine wpQuiet_step (fun K hK => ?_)); go_simp; (with_reducible refine hK _ ?_); clear hK K; (with_reducible refine wpQuiet_step (fun K hK => ?_)); go_simp; (with_reducible refine hK _ ?_); clear hK K; (with_reducible refine wpQuiet_step (fun K hK => ?_)); go_simp; (with_reducible refine hK _ ?_); clear hK K; (with_reducible refine wpQuiet_step (fun K hK => ?_)); go_simp; (with_reducible refine hK _ ?_); clear hK K; (with_reducible refine wpQuiet_step (fun K hK => ?_)); go_simp; (with_reducible refine hK _ ?_); clear hK K; (with_reducible refine wpQuiet_step (fun K hK => ?_)); go_simp; (with_reducible refine hK _ ?_); clear hK K; (with_reducible refine wpQuiet_step (fun K hK => ?_)); go_simp; (with_reducible refine hK _ ?_); clear hK K; (with_reducible refine wpQuiet_step (fun K hK => ?_)); go_simp; (with_reducible refine hK _ ?_); clear hK K; (with_reducible refine wpQuiet_step (fun K hK => ?_)); go_simp; (with_reducible refine hK _ ?_); clear hK K; (with_reducible refine wpQuiet_step (fun K hK => ?_)); go_simp; (with_reducible refine hK _ ?_); clear hK K; (with_reducible refine wpQuiet_step (fun K hK => ?_)); go_simp; (with_reducible refine hK _ ?_); clear hK K; (with_reducible refine wpQuiet_step (fun K hK => ?_)); go_simp; (with_reducible refine hK _ ?_); clear hK K; (with_reducible refine wpQuiet_step (fun K hK => ?_)); go_simp; (with_reducible refine hK _ ?_); clear hK K; (with_reducible refine wpQuiet_step (fun K hK => ?_)); go_simp; (with_reducible refine hK _ ?_); clear hK K; (with_reducible refine wpQuiet_step (fun K hK => ?_)); go_simp; (with_reducible refine hK _ ?_); clear hK K; refine wpQuiet_nil ?_; intro _ hw'; obtain ⟨⟨dq, osq⟩, hw''⟩ := hw'; subst hw''; go_wp2; go_ret
    exact ⟨ret_bool HPM.out.symm, HWB.out.trans ((below_regrown _ dq osq).mono HWB.out.size)⟩
  have cH : ∀ d os_, Calls Try.prog 41 #[.agg #[.slice A h.cells.length c, .slice A' h.roots.length c']] (grow (redrawn ((w.alloc (.cells #[.slice A h.cells.length c, .slice A' h.roots.length c'] 26)).alloc (.cells #[.int .i64 op, .int .i64 oa, .int .i64 ob, .int .i64 oc] 30)) d) os_) fun e w'' => e = .returned (.bool true) ∧ ∃ p : Regrown, w'' = grow (redrawn ((w.alloc (.cells #[.slice A h.cells.length c, .slice A' h.roots.length c'] 26)).alloc (.cells #[.int .i64 op, .int .i64 oa, .int .i64 ob, .int .i64 oc] 30)) p.d) p.os := fun d os_ => Calls.regrown_of (by have h9 := implHeapValid_any _ h _ (hv0.below (HB d os_)); rw [hva] at h9; exact h9)
  cases hok : cmdOk ⟨op, oa, ob, oc⟩
  · have HPM := Lib.hid (possM_bad (h := h) hok)
    have cC : ∀ d os_, Calls Try.prog 25 #[.agg #[.int .i64 op, .int .i64 oa, .int .i64 ob, .int .i64 oc]] (grow (redrawn ((w.alloc (.cells #[.slice A h.cells.length c, .slice A' h.roots.length c'] 26)).alloc (.cells #[.int .i64 op, .int .i64 oa, .int .i64 ob, .int .i64 oc] 30)) d) os_) fun e w'' => e = .returned (.bool false) ∧ ∃ p : Regrown, w'' = grow (redrawn ((w.alloc (.cells #[.slice A h.cells.length c, .slice A' h.roots.length c'] 26)).alloc (.cells #[.int .i64 op, .int .i64 oa, .int .i64 ob, .int .i64 oc] 30)) p.d) p.os := fun d os_ => Calls.regrown_of (by have h9 := implCommandValid_any ⟨op, oa, ob, oc⟩ (grow (redrawn ((w.alloc (.cells #[.slice A h.cells.length c, .slice A' h.roots.length c'] 26)).alloc (.cells #[.int .i64 op, .int .i64 oa, .int .i64 ob, .int .i64 oc] 30)) d) os_); rw [hok] at h9; exact h9)
    clear hva hok HB hrhs hc hr
    go_enter Try.func42, Try.ntmps42
    (go_wp2_with (fail)); generalize (w.alloc (.cells #[.slice A h.cells.length c, .slice A' h.roots.length c'] 26)).alloc (.cells #[.int .i64 op, .int .i64 oa, .int .i64 ob, .int .i64 oc] 30) = W at *; refine wp_region_quiet_below (by kernel_rfl) (by kernel_rfl) ?_; (with_reducible refine wpQuiet_step (fun K hK => ?_)); go_simp; (with_reducible refine hK _ ?_); clear hK K; (with_reducible refine wpQuiet_step (fun K hK => ?_)); go_simp; apply Exists.intro; refine ⟨fun _ => ?_, hK _ ?_⟩; exact cH _ _; clear hK K; (with_reducible refine wpQuiet_step (fun K hK => ?_)); go_simp; (with_reducible refine hK _ ?_); clear hK K; (with_reducible refine wpQuiet_step (fun K hK => ?_)); go_simp; (with_reducible refine hK _ ?_); clear hK K; (with_reducible refine wpQuiet_step (fun K hK => ?_)); go_simp; apply Exists.intro; refine ⟨fun _ => ?_, hK _ ?_⟩; exact cC _ _; clear hK K; (with_reducible refine wpQuiet_step (fun K hK => ?_)); go_simp; (with_reducible refine hK _ ?_); clear hK K; (with_reducible refine wpQuiet_step (fun K hK => ?_)); go_simp; (with_reducible refine hK _ ?_); clear hK K; (with_reducible refine wpQuiet_step (fun K hK => ?_)); go_simp; (with_reducible refine hK _ ?_); clear hK K; (with_reducible refine wpQuiet_step (fun K hK => ?_)); go_simp; (with_reducible refine hK _ ?_); clear hK K; (with_reducible refine wpQuiet_step (fun K hK => ?_)); go_simp; (with_reducible refine hK _ ?_); clear hK K; (with_reducible refine wpQuiet_step (fun K hK => ?_)); go_simp; (with_reducible refine hK _ ?_); clear hK K; (with_reducible refine wpQuiet_step (fun K hK => ?_)); go_simp; (with_reducible refine hK _ ?_); clear hK K; (with_reducible refine wpQuiet_step (fun K hK => ?_)); go_simp; (with_reducible refine hK _ ?_); clear hK K; (with_reducible refine wpQuiet_step (fun K hK => ?_)); go_simp; (with_reducible refine hK _ ?_); clear hK K; (with_reducible refine wpQuiet_step (fun K hK => ?_)); go_simp; (with_reducible refine hK _ ?_); clear hK K; (with_reducible refine wpQuiet_step (fun K hK => ?_)); go_simp; (with_reducible refine hK _ ?_); clear hK K; (with_reducible refine wpQuiet_step (fun K hK => ?_)); go_simp; (with_reducible refine hK _ ?_); clear hK K; refine wpQuiet_nil ?_; intro _ hw'; obtain ⟨⟨dq, osq⟩, hw''⟩ := hw'; subst hw''; go_wp2; go_ret
    exact ⟨ret_bool HPM.out.symm, HWB.out.trans ((below_regrown _ dq osq).mono HWB.out.size)⟩
  have cC : ∀ d os_, Calls Try.prog 25 #[.agg #[.int .i64 op, .int .i64 oa, .int .i64 ob, .int .i64 oc]] (grow (redrawn ((w.alloc (.cells #[.slice A h.cells.length c, .slice A' h.roots.length c'] 26)).alloc (.cells #[.int .i64 op, .int .i64 oa, .int .i64 ob, .int .i64 oc] 30)) d) os_) fun e w'' => e = .returned (.bool true) ∧ ∃ p : Regrown, w'' = grow (redrawn ((w.alloc (.cells #[.slice A h.cells.length c, .slice A' h.roots.length c'] 26)).alloc (.cells #[.int .i64 op, .int .i64 oa, .int .i64 ob, .int .i64 oc] 30)) p.d) p.os := fun d os_ => Calls.regrown_of (by have h9 := implCommandValid_any ⟨op, oa, ob, oc⟩ (grow (redrawn ((w.alloc (.cells #[.slice A h.cells.length c, .slice A' h.roots.length c'] 26)).alloc (.cells #[.int .i64 op, .int .i64 oa, .int .i64 ob, .int .i64 oc] 30)) d) os_); rw [hok] at h9; exact h9)
  have HPM := Lib.hid (possM_ok hva hok)
  have hl4 := (valid_small hva).2.1
  have HLT := Lib.hid (validM_lt hva).2
  obtain ⟨⟨o1, o6⟩, ⟨a0, a3⟩, ⟨b0, b9⟩, ⟨c0, c9⟩⟩ := cmdOk_iff.1 hok
  dsimp only at o1 o6 a0 a3 b0 b9 c0 c9
  have ha1 : oa < h.roots.length := by omega
  have hr4 : 4 ≤ h.roots.length := by omega
  clear hva hok hl4 hc hr
  rcases (by omega : op = 1 ∨ op = 2 ∨ op = 3 ∨ op = 4 ∨ op = 5 ∨ op = 6) with rfl | rfl | rfl | rfl | rfl | rfl
  · have hix := opIx1
    have hfl := opFp1
    have HPO : Hid (possO h ⟨1, oa, ob, oc⟩ = (true)) := by unfold Hid possO; simp
    simp only [maxB, maxC] at b9 c9
    have cP : ∀ d os_, Calls Try.prog 82 #[.agg #[.slice A h.cells.length c, .slice A' h.roots.length c'], .agg #[.int .i64 1, .int .i64 oa, .int .i64 ob, .int .i64 oc]] (grow (redrawn ((w.alloc (.cells #[.slice A h.cells.length c, .slice A' h.roots.length c'] 26)).alloc (.cells #[.int .i64 1, .int .i64 oa, .int .i64 ob, .int .i64 oc] 30)) d) os_) fun e w'' => e = .returned (.bool true) ∧ ∃ p : Regrown, w'' = grow (redrawn ((w.alloc (.cells #[.slice A h.cells.length c, .slice A' h.roots.length c'] 26)).alloc (.cells #[.int .i64 1, .int .i64 oa, .int .i64 ob, .int .i64 oc] 30)) p.d) p.os := fun d os_ => Calls.regrown_of (always_any A A' c c' h ⟨1, oa, ob, oc⟩ _)
    clear b9 c9 HB hrhs
    go_enter Try.func42, Try.ntmps42
    (go_wp2_with (fail)); generalize (w.alloc (.cells #[.slice A h.cells.length c, .slice A' h.roots.length c'] 26)).alloc (.cells #[.int .i64 1, .int .i64 oa, .int .i64 ob, .int .i64 oc] 30) = W at *; refine wp_region_quiet_below (by kernel_rfl) (by kernel_rfl) ?_; (with_reducible refine wpQuiet_step (fun K hK => ?_)); go_simp; (with_reducible refine hK _ ?_); clear hK K; (with_reducible refine wpQuiet_step (fun K hK => ?_)); go_simp; apply Exists.intro; refine ⟨fun _ => ?_, hK _ ?_⟩; exact cH _ _; clear hK K; (with_reducible refine wpQuiet_step (fun K hK => ?_)); go_simp; (with_reducible refine hK _ ?_); clear hK K; (with_reducible refine wpQuiet_step (fun K hK => ?_)); go_simp; (with_reducible refine hK _ ?_); clear hK K; (with_reducible refine wpQuiet_step (fun K hK => ?_)); go_simp; apply Exists.intro; refine ⟨fun _ => ?_, hK _ ?_⟩; exact cC _ _; clear hK K; (with_reducible refine wpQuiet_step (fun K hK => ?_)); go_simp; (with_reducible refine hK _ ?_); clear hK K; (with_reducible refine wpQuiet_step (fun K hK => ?_)); go_simp; (with_reducible refine hK _ ?_); clear hK K; (with_reducible refine wpQuiet_step (fun K hK => ?_)); go_simp; apply Exists.intro; refine ⟨fun _ => ?_, hK _ ?_⟩; exact cO _ _; clear hK K; (with_reducible refine wpQuiet_step (fun K hK => ?_)); go_simp; (with_reducible refine hK _ ?_); clear hK K; (with_reducible refine wpQuiet_step (fun K hK => ?_)); go_simp; (with_reducible refine hK _ ?_); clear hK K; (with_reducible refine wpQuiet_step (fun K hK => ?_)); go_simp; (with_reducible refine hK _ ?_); clear hK K; (with_reducible refine wpQuiet_step (fun K hK => ?_)); go_simp; (with_reducible refine hK _ ?_); clear hK K; (with_reducible refine wpQuiet_step (fun K hK => ?_)); go_simp; (with_reducible refine hK _ ?_); clear hK K; (with_reducible refine wpQuiet_step (fun K hK => ?_)); go_simp; (with_reducible refine hK _ ?_); clear hK K; (with_reducible refine wpQuiet_step (fun K hK => ?_)); go_simp; apply Exists.intro; refine ⟨fun _ => ?_, hK _ ?_⟩; exact cP _ _; clear hK K; (with_reducible refine wpQuiet_step (fun K hK => ?_)); go_simp; (with_reducible refine hK _ ?_); clear hK K; (with_reducible refine wpQuiet_step (fun K hK => ?_)); go_simp; (with_reducible refine hK _ ?_); clear hK K; refine wpQuiet_nil ?_; intro _ hw'; obtain ⟨⟨dq, osq⟩, hw''⟩ := hw'; subst hw''; go_wp2; go_ret
    exact ⟨ret_bool (by rw [HPM.out, HPO.out]), HWB.out.trans ((below_regrown _ dq osq).mono HWB.out.size)⟩
  · have hix := opIx2
    have hfl := opFp2
    have HPO : Hid (possO h ⟨2, oa, ob, oc⟩ = ((placeOk h ob oc))) := by unfold Hid possO; simp
    simp only [maxB, maxC] at b9 c9
    have hb1 : ob < h.roots.length := by simp at b9; omega
    have cP : ∀ d os_, Calls Try.prog 83 #[.agg #[.slice A h.cells.length c, .slice A' h.roots.length c'], .agg #[.int .i64 2, .int .i64 oa, .int .i64 ob, .int .i64 oc]] (grow (redrawn ((w.alloc (.cells #[.slice A h.cells.length c, .slice A' h.roots.length c'] 26)).alloc (.cells #[.int .i64 2, .int .i64 oa, .int .i64 ob, .int .i64 oc] 30)) d) os_) fun e w'' => e = .returned (.bool (placeOk h ob oc)) ∧ ∃ p : Regrown, w'' = grow (redrawn ((w.alloc (.cells #[.slice A h.cells.length c, .slice A' h.roots.length c'] 26)).alloc (.cells #[.int .i64 2, .int .i64 oa, .int .i64 ob, .int .i64 oc] 30)) p.d) p.os := fun d os_ => Calls.regrown_of (poss1_any A A' c c' h ⟨2, oa, ob, oc⟩ _ (hrhs.below (HB d os_)) b0 hb1 HLT.out c0)
    clear b9 c9 HB hrhs
    go_enter Try.func42, Try.ntmps42
    (go_wp2_with (fail)); generalize (w.alloc (.cells #[.slice A h.cells.length c, .slice A' h.roots.length c'] 26)).alloc (.cells #[.int .i64 2, .int .i64 oa, .int .i64 ob, .int .i64 oc] 30) = W at *; refine wp_region_quiet_below (by kernel_rfl) (by kernel_rfl) ?_; (with_reducible refine wpQuiet_step (fun K hK => ?_)); go_simp; (with_reducible refine hK _ ?_); clear hK K; (with_reducible refine wpQuiet_step (fun K hK => ?_)); go_simp; apply Exists.intro; refine ⟨fun _ => ?_, hK _ ?_⟩; exact cH _ _; clear hK K; (with_reducible refine wpQuiet_step (fun K hK => ?_)); go_simp; (with_reducible refine hK _ ?_); clear hK K; (with_reducible refine wpQuiet_step (fun K hK => ?_)); go_simp; (with_reducible refine hK _ ?_); clear hK K; (with_reducible refine wpQuiet_step (fun K hK => ?_)); go_simp; apply Exists.intro; refine ⟨fun _ => ?_, hK _ ?_⟩; exact cC _ _; clear hK K; (with_reducible refine wpQuiet_step (fun K hK => ?_)); go_simp; (with_reducible refine hK _ ?_); clear hK K; (with_reducible refine wpQuiet_step (fun K hK => ?_)); go_simp; (with_reducible refine hK _ ?_); clear hK K; (with_reducible refine wpQuiet_step (fun K hK => ?_)); go_simp; apply Exists.intro; refine ⟨fun _ => ?_, hK _ ?_⟩; exact cO _ _; clear hK K; (with_reducible refine wpQuiet_step (fun K hK => ?_)); go_simp; (with_reducible refine hK _ ?_); clear hK K; (with_reducible refine wpQuiet_step (fun K hK => ?_)); go_simp; (with_reducible refine hK _ ?_); clear hK K; (with_reducible refine wpQuiet_step (fun K hK => ?_)); go_simp; (with_reducible refine hK _ ?_); clear hK K; (with_reducible refine wpQuiet_step (fun K hK => ?_)); go_simp; (with_reducible refine hK _ ?_); clear hK K; (with_reducible refine wpQuiet_step (fun K hK => ?_)); go_simp; (with_reducible refine hK _ ?_); clear hK K; (with_reducible refine wpQuiet_step (fun K hK => ?_)); go_simp; (with_reducible refine hK _ ?_); clear hK K; (with_reducible refine wpQuiet_step (fun K hK => ?_)); go_simp; apply Exists.intro; refine ⟨fun _ => ?_, hK _ ?_⟩; exact cP _ _; clear hK K; (with_reducible refine wpQuiet_step (fun K hK => ?_)); go_simp; (with_reducible refine hK _ ?_); clear hK K; (with_reducible refine wpQuiet_step (fun K hK => ?_)); go_simp; (with_reducible refine hK _ ?_); clear hK K; refine wpQuiet_nil ?_; intro _ hw'; obtain ⟨⟨dq, osq⟩, hw''⟩ := hw'; subst hw''; go_wp2; go_ret
    exact ⟨ret_bool (by rw [HPM.out, HPO.out]), HWB.out.trans ((below_regrown _ dq osq).mono HWB.out.size)⟩
  · have hix := opIx3
    have hfl := opFp3
    have HPO : Hid (possO h ⟨3, oa, ob, oc⟩ = ((placeOk h oa oc))) := by unfold Hid possO; simp
    simp only [maxB, maxC] at b9 c9
    have cP : ∀ d os_, Calls Try.prog 86 #[.agg #[.slice A h.cells.length c, .slice A' h.roots.length c'], .agg #[.int .i64 3, .int .i64 oa, .int .i64 ob, .int .i64 oc]] (grow (redrawn ((w.alloc (.cells #[.slice A h.cells.length c, .slice A' h.roots.length c'] 26)).alloc (.cells #[.int .i64 3, .int .i64 oa, .int .i64 ob, .int .i64 oc] 30)) d) os_) fun e w'' => e = .returned (.bool (placeOk h oa oc)) ∧ ∃ p : Regrown, w'' = grow (redrawn ((w.alloc (.cells #[.slice A h.cells.length c, .slice A' h.roots.length c'] 26)).alloc (.cells #[.int .i64 3, .int .i64 oa, .int .i64 ob, .int .i64 oc] 30)) p.d) p.os := fun d os_ => Calls.regrown_of (poss3_any A A' c c' h ⟨3, oa, ob, oc⟩ _ (hrhs.below (HB d os_)) a0 ha1 HLT.out c0)
    clear b9 c9 HB hrhs
    go_enter Try.func42, Try.ntmps42
    (go_wp2_with (fail)); generalize (w.alloc (.cells #[.slice A h.cells.length c, .slice A' h.roots.length c'] 26)).alloc (.cells #[.int .i64 3, .int .i64 oa, .int .i64 ob, .int .i64 oc] 30) = W at *; refine wp_region_quiet_below (by kernel_rfl) (by kernel_rfl) ?_; (with_reducible refine wpQuiet_step (fun K hK => ?_)); go_simp; (with_reducible refine hK _ ?_); clear hK K; (with_reducible refine wpQuiet_step (fun K hK => ?_)); go_simp; apply Exists.intro; refine ⟨fun _ => ?_, hK _ ?_⟩; exact cH _ _; clear hK K; (with_reducible refine wpQuiet_step (fun K hK => ?_)); go_simp; (with_reducible refine hK _ ?_); clear hK K; (with_reducible refine wpQuiet_step (fun K hK => ?_)); go_simp; (with_reducible refine hK _ ?_); clear hK K; (with_reducible refine wpQuiet_step (fun K hK => ?_)); go_simp; apply Exists.intro; refine ⟨fun _ => ?_, hK _ ?_⟩; exact cC _ _; clear hK K; (with_reducible refine wpQuiet_step (fun K hK => ?_)); go_simp; (with_reducible refine hK _ ?_); clear hK K; (with_reducible refine wpQuiet_step (fun K hK => ?_)); go_simp; (with_reducible refine hK _ ?_); clear hK K; (with_reducible refine wpQuiet_step (fun K hK => ?_)); go_simp; apply Exists.intro; refine ⟨fun _ => ?_, hK _ ?_⟩; exact cO _ _; clear hK K; (with_reducible refine wpQuiet_step (fun K hK => ?_)); go_simp; (with_reducible refine hK _ ?_); clear hK K; (with_reducible refine wpQuiet_step (fun K hK => ?_)); go_simp; (with_reducible refine hK _ ?_); clear hK K; (with_reducible refine wpQuiet_step (fun K hK => ?_)); go_simp; (with_reducible refine hK _ ?_); clear hK K; (with_reducible refine wpQuiet_step (fun K hK => ?_)); go_simp; (with_reducible refine hK _ ?_); clear hK K; (with_reducible refine wpQuiet_step (fun K hK => ?_)); go_simp; (with_reducible refine hK _ ?_); clear hK K; (with_reducible refine wpQuiet_step (fun K hK => ?_)); go_simp; (with_reducible refine hK _ ?_); clear hK K; (with_reducible refine wpQuiet_step (fun K hK => ?_)); go_simp; apply Exists.intro; refine ⟨fun _ => ?_, hK _ ?_⟩; exact cP _ _; clear hK K; (with_reducible refine wpQuiet_step (fun K hK => ?_)); go_simp; (with_reducible refine hK _ ?_); clear hK K; (with_reducible refine wpQuiet_step (fun K hK => ?_)); go_simp; (with_reducible refine hK _ ?_); clear hK K; refine wpQuiet_nil ?_; intro _ hw'; obtain ⟨⟨dq, osq⟩, hw''⟩ := hw'; subst hw''; go_wp2; go_ret
    exact ⟨ret_bool (by rw [HPM.out, HPO.out]), HWB.out.trans ((below_regrown _ dq osq).mono HWB.out.size)⟩
  · have hix := opIx4
    have hfl := opFp4
    have HPO : Hid (possO h ⟨4, oa, ob, oc⟩ = (true)) := by unfold Hid possO; simp
    simp only [maxB, maxC] at b9 c9
    have cP : ∀ d os_, Calls Try.prog 82 #[.agg #[.slice A h.cells.length c, .slice A' h.roots.length c'], .agg #[.int .i64 4, .int .i64 oa, .int .i64 ob, .int .i64 oc]] (grow (redrawn ((w.alloc (.cells #[.slice A h.cells.length c, .slice A' h.roots.length c'] 26)).alloc (.cells #[.int .i64 4, .int .i64 oa, .int .i64 ob, .int .i64 oc] 30)) d) os_) fun e w'' => e = .returned (.bool true) ∧ ∃ p : Regrown, w'' = grow (redrawn ((w.alloc (.cells #[.slice A h.cells.length c, .slice A' h.roots.length c'] 26)).alloc (.cells #[.int .i64 4, .int .i64 oa, .int .i64 ob, .int .i64 oc] 30)) p.d) p.os := fun d os_ => Calls.regrown_of (always_any A A' c c' h ⟨4, oa, ob, oc⟩ _)
    clear b9 c9 HB hrhs
    go_enter Try.func42, Try.ntmps42
    (go_wp2_with (fail)); generalize (w.alloc (.cells #[.slice A h.cells.length c, .slice A' h.roots.length c'] 26)).alloc (.cells #[.int .i64 4, .int .i64 oa, .int .i64 ob, .int .i64 oc] 30) = W at *; refine wp_region_quiet_below (by kernel_rfl) (by kernel_rfl) ?_; (with_reducible refine wpQuiet_step (fun K hK => ?_)); go_simp; (with_reducible refine hK _ ?_); clear hK K; (with_reducible refine wpQuiet_step (fun K hK => ?_)); go_simp; apply Exists.intro; refine ⟨fun _ => ?_, hK _ ?_⟩; exact cH _ _; clear hK K; (with_reducible refine wpQuiet_step (fun K hK => ?_)); go_simp; (with_reducible refine hK _ ?_); clear hK K; (with_reducible refine wpQuiet_step (fun K hK => ?_)); go_simp; (with_reducible refine hK _ ?_); clear hK K; (with_reducible refine wpQuiet_step (fun K hK => ?_)); go_simp; apply Exists.intro; refine ⟨fun _ => ?_, hK _ ?_⟩; exact cC _ _; clear hK K; (with_reducible refine wpQuiet_step (fun K hK => ?_)); go_simp; (with_reducible refine hK _ ?_); clear hK K; (with_reducible refine wpQuiet_step (fun K hK => ?_)); go_simp; (with_reducible refine hK _ ?_); clear hK K; (with_reducible refine wpQuiet_step (fun K hK => ?_)); go_simp; apply Exists.intro; refine ⟨fun _ => ?_, hK _ ?_⟩; exact cO _ _; clear hK K; (with_reducible refine wpQuiet_step (fun K hK => ?_)); go_simp; (with_reducible refine hK _ ?_); clear hK K; (with_reducible refine wpQuiet_step (fun K hK => ?_)); go_simp; (with_reducible refine hK _ ?_); clear hK K; (with_reducible refine wpQuiet_step (fun K hK => ?_)); go_simp; (with_reducible refine hK _ ?_); clear hK K; (with_reducible refine wpQuiet_step (fun K hK => ?_)); go_simp; (with_reducible refine hK _ ?_); clear hK K; (with_reducible refine wpQuiet_step (fun K hK => ?_)); go_simp; (with_reducible refine hK _ ?_); clear hK K; (with_reducible refine wpQuiet_step (fun K hK => ?_)); go_simp; (with_reducible refine hK _ ?_); clear hK K; (with_reducible refine wpQuiet_step (fun K hK => ?_)); go_simp; apply Exists.intro; refine ⟨fun _ => ?_, hK _ ?_⟩; exact cP _ _; clear hK K; (with_reducible refine wpQuiet_step (fun K hK => ?_)); go_simp; (with_reducible refine hK _ ?_); clear hK K; (with_reducible refine wpQuiet_step (fun K hK => ?_)); go_simp; (with_reducible refine hK _ ?_); clear hK K; refine wpQuiet_nil ?_; intro _ hw'; obtain ⟨⟨dq, osq⟩, hw''⟩ := hw'; subst hw''; go_wp2; go_ret
    exact ⟨ret_bool (by rw [HPM.out, HPO.out]), HWB.out.trans ((below_regrown _ dq osq).mono HWB.out.size)⟩
  · have hix := opIx5
    have hfl := opFp5
    have HPO : Hid (possO h ⟨5, oa, ob, oc⟩ = (true)) := by unfold Hid possO; simp
    simp only [maxB, maxC] at b9 c9
    have cP : ∀ d os_, Calls Try.prog 82 #[.agg #[.slice A h.cells.length c, .slice A' h.roots.length c'], .agg #[.int .i64 5, .int .i64 oa, .int .i64 ob, .int .i64 oc]] (grow (redrawn ((w.alloc (.cells #[.slice A h.cells.length c, .slice A' h.roots.length c'] 26)).alloc (.cells #[.int .i64 5, .int .i64 oa, .int .i64 ob, .int .i64 oc] 30)) d) os_) fun e w'' => e = .returned (.bool true) ∧ ∃ p : Regrown, w'' = grow (redrawn ((w.alloc (.cells #[.slice A h.cells.length c, .slice A' h.roots.length c'] 26)).alloc (.cells #[.int .i64 5, .int .i64 oa, .int .i64 ob, .int .i64 oc] 30)) p.d) p.os := fun d os_ => Calls.regrown_of (always_any A A' c c' h ⟨5, oa, ob, oc⟩ _)
    clear b9 c9 HB hrhs
    go_enter Try.func42, Try.ntmps42
    (go_wp2_with (fail)); generalize (w.alloc (.cells #[.slice A h.cells.length c, .slice A' h.roots.length c'] 26)).alloc (.cells #[.int .i64 5, .int .i64 oa, .int .i64 ob, .int .i64 oc] 30) = W at *; refine wp_region_quiet_below (by kernel_rfl) (by kernel_rfl) ?_; (with_reducible refine wpQuiet_step (fun K hK => ?_)); go_simp; (with_reducible refine hK _ ?_); clear hK K; (with_reducible refine wpQuiet_step (fun K hK => ?_)); go_simp; apply Exists.intro; refine ⟨fun _ => ?_, hK _ ?_⟩; exact cH _ _; clear hK K; (with_reducible refine wpQuiet_step (fun K hK => ?_)); go_simp; (with_reducible refine hK _ ?_); clear hK K; (with_reducible refine wpQuiet_step (fun K hK => ?_)); go_simp; (with_reducible refine hK _ ?_); clear hK K; (with_reducible refine wpQuiet_step (fun K hK => ?_)); go_simp; apply Exists.intro; refine ⟨fun _ => ?_, hK _ ?_⟩; exact cC _ _; clear hK K; (with_reducible refine wpQuiet_step (fun K hK => ?_)); go_simp; (with_reducible refine hK _ ?_); clear hK K; (with_reducible refine wpQuiet_step (fun K hK => ?_)); go_simp; (with_reducible refine hK _ ?_); clear hK K; (with_reducible refine wpQuiet_step (fun K hK => ?_)); go_simp; apply Exists.intro; refine ⟨fun _ => ?_, hK _ ?_⟩; exact cO _ _; clear hK K; (with_reducible refine wpQuiet_step (fun K hK => ?_)); go_simp; (with_reducible refine hK _ ?_); clear hK K; (with_reducible refine wpQuiet_step (fun K hK => ?_)); go_simp; (with_reducible refine hK _ ?_); clear hK K; (with_reducible refine wpQuiet_step (fun K hK => ?_)); go_simp; (with_reducible refine hK _ ?_); clear hK K; (with_reducible refine wpQuiet_step (fun K hK => ?_)); go_simp; (with_reducible refine hK _ ?_); clear hK K; (with_reducible refine wpQuiet_step (fun K hK => ?_)); go_simp; (with_reducible refine hK _ ?_); clear hK K; (with_reducible refine wpQuiet_step (fun K hK => ?_)); go_simp; (with_reducible refine hK _ ?_); clear hK K; (with_reducible refine wpQuiet_step (fun K hK => ?_)); go_simp; apply Exists.intro; refine ⟨fun _ => ?_, hK _ ?_⟩; exact cP _ _; clear hK K; (with_reducible refine wpQuiet_step (fun K hK => ?_)); go_simp; (with_reducible refine hK _ ?_); clear hK K; (with_reducible refine wpQuiet_step (fun K hK => ?_)); go_simp; (with_reducible refine hK _ ?_); clear hK K; refine wpQuiet_nil ?_; intro _ hw'; obtain ⟨⟨dq, osq⟩, hw''⟩ := hw'; subst hw''; go_wp2; go_ret
    exact ⟨ret_bool (by rw [HPM.out, HPO.out]), HWB.out.trans ((below_regrown _ dq osq).mono HWB.out.size)⟩
  · have hix := opIx6
    have hfl := opFp6
    have HPO : Hid (possO h ⟨6, oa, ob, oc⟩ = ((decide (0 ≤ rootAt h oa)))) := by unfold Hid possO; simp
    simp only [maxB, maxC] at b9 c9
    have cP : ∀ d os_, Calls Try.prog 90 #[.agg #[.slice A h.cells.length c, .slice A' h.roots.length c'], .agg #[.int .i64 6, .int .i64 oa, .int .i64 ob, .int .i64 oc]] (grow (redrawn ((w.alloc (.cells #[.slice A h.cells.length c, .slice A' h.roots.length c'] 26)).alloc (.cells #[.int .i64 6, .int .i64 oa, .int .i64 ob, .int .i64 oc] 30)) d) os_) fun e w'' => e = .returned (.bool (decide (0 ≤ rootAt h oa))) ∧ ∃ p : Regrown, w'' = grow (redrawn ((w.alloc (.cells #[.slice A h.cells.length c, .slice A' h.roots.length c'] 26)).alloc (.cells #[.int .i64 6, .int .i64 oa, .int .i64 ob, .int .i64 oc] 30)) p.d) p.os := fun d os_ => Calls.regrown_of (poss7_any A A' c c' h ⟨6, oa, ob, oc⟩ _ (hrhs.below (HB d os_)) a0 ha1)
    clear b9 c9 HB hrhs
    go_enter Try.func42, Try.ntmps42
    (go_wp2_with (fail)); generalize (w.alloc (.cells #[.slice A h.cells.length c, .slice A' h.roots.length c'] 26)).alloc (.cells #[.int .i64 6, .int .i64 oa, .int .i64 ob, .int .i64 oc] 30) = W at *; refine wp_region_quiet_below (by kernel_rfl) (by kernel_rfl) ?_; (with_reducible refine wpQuiet_step (fun K hK => ?_)); go_simp; (with_reducible refine hK _ ?_); clear hK K; (with_reducible refine wpQuiet_step (fun K hK => ?_)); go_simp; apply Exists.intro; refine ⟨fun _ => ?_, hK _ ?_⟩; exact cH _ _; clear hK K; (with_reducible refine wpQuiet_step (fun K hK => ?_)); go_simp; (with_reducible refine hK _ ?_); clear hK K; (with_reducible refine wpQuiet_step (fun K hK => ?_)); go_simp; (with_reducible refine hK _ ?_); clear hK K; (with_reducible refine wpQuiet_step (fun K hK => ?_)); go_simp; apply Exists.intro; refine ⟨fun _ => ?_, hK _ ?_⟩; exact cC _ _; clear hK K; (with_reducible refine wpQuiet_step (fun K hK => ?_)); go_simp; (with_reducible refine hK _ ?_); clear hK K; (with_reducible refine wpQuiet_step (fun K hK => ?_)); go_simp; (with_reducible refine hK _ ?_); clear hK K; (with_reducible refine wpQuiet_step (fun K hK => ?_)); go_simp; apply Exists.intro; refine ⟨fun _ => ?_, hK _ ?_⟩; exact cO _ _; clear hK K; (with_reducible refine wpQuiet_step (fun K hK => ?_)); go_simp; (with_reducible refine hK _ ?_); clear hK K; (with_reducible refine wpQuiet_step (fun K hK => ?_)); go_simp; (with_reducible refine hK _ ?_); clear hK K; (with_reducible refine wpQuiet_step (fun K hK => ?_)); go_simp; (with_reducible refine hK _ ?_); clear hK K; (with_reducible refine wpQuiet_step (fun K hK => ?_)); go_simp; (with_reducible refine hK _ ?_); clear hK K; (with_reducible refine wpQuiet_step (fun K hK => ?_)); go_simp; (with_reducible refine hK _ ?_); clear hK K; (with_reducible refine wpQuiet_step (fun K hK => ?_)); go_simp; (with_reducible refine hK _ ?_); clear hK K; (with_reducible refine wpQuiet_step (fun K hK => ?_)); go_simp; apply Exists.intro; refine ⟨fun _ => ?_, hK _ ?_⟩; exact cP _ _; clear hK K; (with_reducible refine wpQuiet_step (fun K hK => ?_)); go_simp; (with_reducible refine hK _ ?_); clear hK K; (with_reducible refine wpQuiet_step (fun K hK => ?_)); go_simp; (with_reducible refine hK _ ?_); clear hK K; refine wpQuiet_nil ?_; intro _ hw'; obtain ⟨⟨dq, osq⟩, hw''⟩ := hw'; subst hw''; go_wp2; go_ret
    exact ⟨ret_bool (by rw [HPM.out, HPO.out]), HWB.out.trans ((below_regrown _ dq osq).mono HWB.out.size)⟩
end Go.Proofs.Ytkikeanpbffpkaa

/- The reference's CommandPossible is possM. -/
namespace Go.Proofs.Ytkikeanpbffpkaa
open Go.RowKit
set_option maxRecDepth 100000
set_option linter.unusedSimpArgs false
set_option linter.unusedVariables false
theorem RF.get {α : Type} {f : α → Value} {w : World} {b o : Nat} {xs : List α} (h : RF f w (some ⟨b, o, none⟩) xs) {k : Nat} (hk : k < xs.length) : ∃ x, xs[k]? = some x ∧ w.cell? ⟨b, o + k, none⟩ = some (f x) := by
  obtain ⟨b2, o2, x, e, g, c⟩ := h k hk
  injection e with e
  injection e with e1 e2
  subst e1; subst e2
  exact ⟨x, g, c⟩
set_option maxHeartbeats 4000000 in
theorem l8Place_any (A A' : Option Addr) (c c' : Nat) (h : HeapM) (n pl : Int) (w : World) (hv : RHs w A A' h) (hlt : n < h.cells.length) :
    Calls Try.prog 68 #[.agg #[.slice A h.cells.length c, .slice A' h.roots.length c'], .int .i64 n, .int .i64 pl] w fun e w' => e = .returned (.bool (decide (0 ≤ n) && decide (pl < ((refsAt h n.toNat).length : Int)))) ∧ Below w.heap.size w w' := by
  obtain ⟨hc, hr, hl1, hl2⟩ := hv
  rcases Classical.em (0 ≤ n) with h0 | h0
  · obtain ⟨b, o, d, Ar, cr, rfl, gd, c2, c3, c4, hrr, hrl, hb⟩ := hc.at_ (k := n.toNat) (by omega)
    have c4' : (w.alloc (.cells #[.slice (some ⟨b, o, none⟩) h.cells.length c, .slice A' h.roots.length c'] 26)).cell? ⟨b, o + n.toNat * 3 + 2, none⟩ = some (.slice Ar d.refs.length cr) := cell_below c4 blw_
    have HR := Lib.hid (refsAt_of gd)
    clear gd c2 c3 c4 hc hr hrr
    rcases Classical.em (pl < (d.refs.length : Int)) with h1 | h1
    · go_enter Try.func68, Try.ntmps68
      go_wp2
      go_ret
      exact ⟨ret_bool (by rw [HR.out]; simp [h0, h1]), blw_⟩
    · go_enter Try.func68, Try.ntmps68
      go_wp2
      go_ret
      exact ⟨ret_bool (by rw [HR.out]; simp [h0, h1]), blw_⟩
  · go_enter Try.func68, Try.ntmps68
    go_wp2
    go_ret
    exact ⟨ret_bool (by have h9 : decide (0 ≤ n) = false := by simpa using h0
                        rw [h9]; rfl), blw_⟩
set_option maxHeartbeats 4000000 in
theorem specCommandPossible_any (v : Value) (h : HeapM) (o : CmdM) (w : World) (hv : RH w v h) :
    Calls Try.prog 34 #[v, .agg #[.int .i64 o.op, .int .i64 o.a, .int .i64 o.b, .int .i64 o.c]] w fun e w' => e = .returned (.bool (possM h o)) ∧ Below w.heap.size w w' := by
  have hv0 := hv
  obtain ⟨A, c, A', c', rfl, hc, hr, hl1, hl2⟩ := hv
  have hrhs : RHs w A A' h := ⟨hc, hr, hl1, hl2⟩
  cases hva : validM h
  · have HV := Lib.hid hva
    have HPM := Lib.hid (possM_false (o := o) hva)
    clear hva
    go_enter Try.func34, Try.ntmps34
    go_wp2_with (go_at_call 66; (refine (specHeapValid_any _ h _ (hv0.below blw_)).mono ?_); rw [HV.out]; rintro e w1 ⟨rfl, hB1⟩; obtain ⟨hbc, hbf, hbz⟩ := bcell hB1; have z0w1 : w.heap.size < w1.heap.size := (by (try simp at hbz); omega); have z1w1 : w.heap.size + 1 < w1.heap.size := (by (try simp at hbz); omega))
    go_ret
    exact ⟨ret_bool HPM.out.symm, blw_⟩
  have hvm := hva
  have HV := Lib.hid hva
  clear hva
  obtain ⟨op, oa, ob, oc⟩ := o
  dsimp only
  cases hok : cmdOk ⟨op, oa, ob, oc⟩
  · have HO := Lib.hid hok
    have HPM := Lib.hid (possM_bad (h := h) hok)
    clear hok hvm
    go_enter Try.func34, Try.ntmps34
    go_wp2_with fail
    refine (specHeapValid_any _ h _ (hv0.below blw_)).mono ?_
    rw [HV.out]
    rintro e w1 ⟨rfl, hB1⟩
    obtain ⟨hbc, hbf, hbz⟩ := bcell hB1
    have z0w1 : w.heap.size < w1.heap.size := (by (try simp at hbz); omega); have z1w1 : w.heap.size + 1 < w1.heap.size := (by (try simp at hbz); omega)
    go_wp2_with fail
    refine (specCommandValid_any ⟨op, oa, ob, oc⟩ _).mono ?_
    rw [HO.out]
    rintro e w2 ⟨rfl, hB2⟩
    go_wp2
    go_ret
    exact ⟨ret_bool HPM.out.symm, blw_⟩
  have HO := Lib.hid hok
  have HPM := Lib.hid (possM_ok hvm hok)
  obtain ⟨v1, v2, v3⟩ := valid_small hvm
  have hlt := (validM_lt hvm).2
  obtain ⟨⟨o1, o6⟩, ⟨a0, a3⟩, ⟨b0, b9⟩, ⟨c0, c9⟩⟩ := cmdOk_iff.1 hok
  dsimp only at *
  have ha1 : oa < h.roots.length := by omega
  have hr4 : 4 ≤ h.roots.length := by omega
  clear hvm hok v2 v3
  obtain ⟨ba, p_a, xa0, rfl, -, -, -⟩ := hr.at_ (k := 0) (by omega)
  obtain ⟨ra, ga, ca⟩ := hr.get (k := oa.toNat) (by omega)
  have hra := hlt ra (List.mem_of_getElem? ga)
  have HRA := Lib.hid (rootAt_of ga)
  have HRS := Lib.hid hrhs
  have HLT := Lib.hid hlt
  clear ga hc hrhs hlt
  rcases (by omega : op = 1 ∨ op = 2 ∨ op = 3 ∨ op = 4 ∨ op = 5 ∨ op = 6) with rfl | rfl | rfl | rfl | rfl | rfl
  · simp only [maxB, maxC] at b9 c9
    clear b9 c9 hr
    go_enter Try.func34, Try.ntmps34
    go_wp2_with fail
    refine (specHeapValid_any _ h _ (hv0.below blw_)).mono ?_
    rw [HV.out]
    rintro e w1 ⟨rfl, hB1⟩
    obtain ⟨hbc, hbf, hbz⟩ := bcell hB1
    have z0w1 : w.heap.size < w1.heap.size := (by (try simp at hbz); omega); have z1w1 : w.heap.size + 1 < w1.heap.size := (by (try simp at hbz); omega)
    go_wp2_with fail
    refine (specCommandValid_any ⟨1, oa, ob, oc⟩ _).mono ?_
    rw [HO.out]
    rintro e w2 ⟨rfl, hB2⟩
    have hz2 := hB2.size
    have HBx : Below (((w.alloc (.cells #[.slice A h.cells.length c, .slice (some ⟨ba, p_a, none⟩) h.roots.length c'] 26)).alloc (.cells #[.int .i64 1, .int .i64 oa, .int .i64 ob, .int .i64 oc] 30))).heap.size ((w.alloc (.cells #[.slice A h.cells.length c, .slice (some ⟨ba, p_a, none⟩) h.roots.length c'] 26)).alloc (.cells #[.int .i64 1, .int .i64 oa, .int .i64 ob, .int .i64 oc] 30)) w2 := blw_
    have hBw : Below w.heap.size w w2 := blw_
    have k0 := cell_below (w := ((w.alloc (.cells #[.slice A h.cells.length c, .slice (some ⟨ba, p_a, none⟩) h.roots.length c'] 26)).alloc (.cells #[.int .i64 1, .int .i64 oa, .int .i64 ob, .int .i64 oc] 30))) (a := ⟨w.heap.size, 0, none⟩) (v := .slice A h.cells.length c) (by simp [go_sem]) HBx
    have k1 := cell_below (w := ((w.alloc (.cells #[.slice A h.cells.length c, .slice (some ⟨ba, p_a, none⟩) h.roots.length c'] 26)).alloc (.cells #[.int .i64 1, .int .i64 oa, .int .i64 ob, .int .i64 oc] 30))) (a := ⟨w.heap.size, 1, none⟩) (v := .slice (some ⟨ba, p_a, none⟩) h.roots.length c') (by simp [go_sem]) HBx
    have m0 := cell_below (w := ((w.alloc (.cells #[.slice A h.cells.length c, .slice (some ⟨ba, p_a, none⟩) h.roots.length c'] 26)).alloc (.cells #[.int .i64 1, .int .i64 oa, .int .i64 ob, .int .i64 oc] 30))) (a := ⟨w.heap.size + 1, 0, none⟩) (v := .int .i64 1) (by simp [go_sem]) HBx
    have m1 := cell_below (w := ((w.alloc (.cells #[.slice A h.cells.length c, .slice (some ⟨ba, p_a, none⟩) h.roots.length c'] 26)).alloc (.cells #[.int .i64 1, .int .i64 oa, .int .i64 ob, .int .i64 oc] 30))) (a := ⟨w.heap.size + 1, 1, none⟩) (v := .int .i64 oa) (by simp [go_sem]) HBx
    have m2 := cell_below (w := ((w.alloc (.cells #[.slice A h.cells.length c, .slice (some ⟨ba, p_a, none⟩) h.roots.length c'] 26)).alloc (.cells #[.int .i64 1, .int .i64 oa, .int .i64 ob, .int .i64 oc] 30))) (a := ⟨w.heap.size + 1, 2, none⟩) (v := .int .i64 ob) (by simp [go_sem]) HBx
    have m3 := cell_below (w := ((w.alloc (.cells #[.slice A h.cells.length c, .slice (some ⟨ba, p_a, none⟩) h.roots.length c'] 26)).alloc (.cells #[.int .i64 1, .int .i64 oa, .int .i64 ob, .int .i64 oc] 30))) (a := ⟨w.heap.size + 1, 3, none⟩) (v := .int .i64 oc) (by simp [go_sem]) HBx
    have da : w2.cell? ⟨ba, p_a + oa.toNat, none⟩ = some (.int .i64 ra) := cell_below ca hBw
    have hrw := HRS.out.below hBw
    have HBW := Lib.hid hBw
    clear hbc hbf hB1 hB2 HBx hBw
    go_wp2
    go_ret
    exact ⟨ret_bool (by rw [HPM.out]; unfold possO; simp), HBW.out⟩
  · simp only [maxB, maxC] at b9 c9
    have hb1 : ob < h.roots.length := by simp at b9; omega
    obtain ⟨rb, gb, cb⟩ := hr.get (k := ob.toNat) (by omega)
    have hrb := HLT.out rb (List.mem_of_getElem? gb)
    have HRB := Lib.hid (rootAt_of gb)
    clear gb
    clear b9 c9 hr
    go_enter Try.func34, Try.ntmps34
    go_wp2_with fail
    refine (specHeapValid_any _ h _ (hv0.below blw_)).mono ?_
    rw [HV.out]
    rintro e w1 ⟨rfl, hB1⟩
    obtain ⟨hbc, hbf, hbz⟩ := bcell hB1
    have z0w1 : w.heap.size < w1.heap.size := (by (try simp at hbz); omega); have z1w1 : w.heap.size + 1 < w1.heap.size := (by (try simp at hbz); omega)
    go_wp2_with fail
    refine (specCommandValid_any ⟨2, oa, ob, oc⟩ _).mono ?_
    rw [HO.out]
    rintro e w2 ⟨rfl, hB2⟩
    have hz2 := hB2.size
    have HBx : Below (((w.alloc (.cells #[.slice A h.cells.length c, .slice (some ⟨ba, p_a, none⟩) h.roots.length c'] 26)).alloc (.cells #[.int .i64 2, .int .i64 oa, .int .i64 ob, .int .i64 oc] 30))).heap.size ((w.alloc (.cells #[.slice A h.cells.length c, .slice (some ⟨ba, p_a, none⟩) h.roots.length c'] 26)).alloc (.cells #[.int .i64 2, .int .i64 oa, .int .i64 ob, .int .i64 oc] 30)) w2 := blw_
    have hBw : Below w.heap.size w w2 := blw_
    have k0 := cell_below (w := ((w.alloc (.cells #[.slice A h.cells.length c, .slice (some ⟨ba, p_a, none⟩) h.roots.length c'] 26)).alloc (.cells #[.int .i64 2, .int .i64 oa, .int .i64 ob, .int .i64 oc] 30))) (a := ⟨w.heap.size, 0, none⟩) (v := .slice A h.cells.length c) (by simp [go_sem]) HBx
    have k1 := cell_below (w := ((w.alloc (.cells #[.slice A h.cells.length c, .slice (some ⟨ba, p_a, none⟩) h.roots.length c'] 26)).alloc (.cells #[.int .i64 2, .int .i64 oa, .int .i64 ob, .int .i64 oc] 30))) (a := ⟨w.heap.size, 1, none⟩) (v := .slice (some ⟨ba, p_a, none⟩) h.roots.length c') (by simp [go_sem]) HBx
    have m0 := cell_below (w := ((w.alloc (.cells #[.slice A h.cells.length c, .slice (some ⟨ba, p_a, none⟩) h.roots.length c'] 26)).alloc (.cells #[.int .i64 2, .int .i64 oa, .int .i64 ob, .int .i64 oc] 30))) (a := ⟨w.heap.size + 1, 0, none⟩) (v := .int .i64 2) (by simp [go_sem]) HBx
    have m1 := cell_below (w := ((w.alloc (.cells #[.slice A h.cells.length c, .slice (some ⟨ba, p_a, none⟩) h.roots.length c'] 26)).alloc (.cells #[.int .i64 2, .int .i64 oa, .int .i64 ob, .int .i64 oc] 30))) (a := ⟨w.heap.size + 1, 1, none⟩) (v := .int .i64 oa) (by simp [go_sem]) HBx
    have m2 := cell_below (w := ((w.alloc (.cells #[.slice A h.cells.length c, .slice (some ⟨ba, p_a, none⟩) h.roots.length c'] 26)).alloc (.cells #[.int .i64 2, .int .i64 oa, .int .i64 ob, .int .i64 oc] 30))) (a := ⟨w.heap.size + 1, 2, none⟩) (v := .int .i64 ob) (by simp [go_sem]) HBx
    have m3 := cell_below (w := ((w.alloc (.cells #[.slice A h.cells.length c, .slice (some ⟨ba, p_a, none⟩) h.roots.length c'] 26)).alloc (.cells #[.int .i64 2, .int .i64 oa, .int .i64 ob, .int .i64 oc] 30))) (a := ⟨w.heap.size + 1, 3, none⟩) (v := .int .i64 oc) (by simp [go_sem]) HBx
    have da : w2.cell? ⟨ba, p_a + oa.toNat, none⟩ = some (.int .i64 ra) := cell_below ca hBw
    have db : w2.cell? ⟨ba, p_a + ob.toNat, none⟩ = some (.int .i64 rb) := cell_below cb hBw
    have hrw := HRS.out.below hBw
    have HBW := Lib.hid hBw
    clear hbc hbf hB1 hB2 HBx hBw
    go_wp2_with fail
    go_still_tail 9, (by kernel_rfl)
    change wpList _ _ _ _ _ w2.drew
    go_wp2_with fail
    (with_reducible refine (l8Place_any A _ c c' h rb oc _ (hrw.below (Below.refl _ _).drew) hrb).mono ?_)
    rintro e w3 ⟨rfl, hB3⟩
    go_wp2
    go_ret
    exact ⟨ret_bool (by rw [HPM.out]; unfold possO placeOk; rw [HRB.out]; simp), HBW.out.drew.trans (hB3.mono HBW.out.size)⟩
  · simp only [maxB, maxC] at b9 c9
    clear b9 c9 hr
    go_enter Try.func34, Try.ntmps34
    go_wp2_with fail
    refine (specHeapValid_any _ h _ (hv0.below blw_)).mono ?_
    rw [HV.out]
    rintro e w1 ⟨rfl, hB1⟩
    obtain ⟨hbc, hbf, hbz⟩ := bcell hB1
    have z0w1 : w.heap.size < w1.heap.size := (by (try simp at hbz); omega); have z1w1 : w.heap.size + 1 < w1.heap.size := (by (try simp at hbz); omega)
    go_wp2_with fail
    refine (specCommandValid_any ⟨3, oa, ob, oc⟩ _).mono ?_
    rw [HO.out]
    rintro e w2 ⟨rfl, hB2⟩
    have hz2 := hB2.size
    have HBx : Below (((w.alloc (.cells #[.slice A h.cells.length c, .slice (some ⟨ba, p_a, none⟩) h.roots.length c'] 26)).alloc (.cells #[.int .i64 3, .int .i64 oa, .int .i64 ob, .int .i64 oc] 30))).heap.size ((w.alloc (.cells #[.slice A h.cells.length c, .slice (some ⟨ba, p_a, none⟩) h.roots.length c'] 26)).alloc (.cells #[.int .i64 3, .int .i64 oa, .int .i64 ob, .int .i64 oc] 30)) w2 := blw_
    have hBw : Below w.heap.size w w2 := blw_
    have k0 := cell_below (w := ((w.alloc (.cells #[.slice A h.cells.length c, .slice (some ⟨ba, p_a, none⟩) h.roots.length c'] 26)).alloc (.cells #[.int .i64 3, .int .i64 oa, .int .i64 ob, .int .i64 oc] 30))) (a := ⟨w.heap.size, 0, none⟩) (v := .slice A h.cells.length c) (by simp [go_sem]) HBx
    have k1 := cell_below (w := ((w.alloc (.cells #[.slice A h.cells.length c, .slice (some ⟨ba, p_a, none⟩) h.roots.length c'] 26)).alloc (.cells #[.int .i64 3, .int .i64 oa, .int .i64 ob, .int .i64 oc] 30))) (a := ⟨w.heap.size, 1, none⟩) (v := .slice (some ⟨ba, p_a, none⟩) h.roots.length c') (by simp [go_sem]) HBx
    have m0 := cell_below (w := ((w.alloc (.cells #[.slice A h.cells.length c, .slice (some ⟨ba, p_a, none⟩) h.roots.length c'] 26)).alloc (.cells #[.int .i64 3, .int .i64 oa, .int .i64 ob, .int .i64 oc] 30))) (a := ⟨w.heap.size + 1, 0, none⟩) (v := .int .i64 3) (by simp [go_sem]) HBx
    have m1 := cell_below (w := ((w.alloc (.cells #[.slice A h.cells.length c, .slice (some ⟨ba, p_a, none⟩) h.roots.length c'] 26)).alloc (.cells #[.int .i64 3, .int .i64 oa, .int .i64 ob, .int .i64 oc] 30))) (a := ⟨w.heap.size + 1, 1, none⟩) (v := .int .i64 oa) (by simp [go_sem]) HBx
    have m2 := cell_below (w := ((w.alloc (.cells #[.slice A h.cells.length c, .slice (some ⟨ba, p_a, none⟩) h.roots.length c'] 26)).alloc (.cells #[.int .i64 3, .int .i64 oa, .int .i64 ob, .int .i64 oc] 30))) (a := ⟨w.heap.size + 1, 2, none⟩) (v := .int .i64 ob) (by simp [go_sem]) HBx
    have m3 := cell_below (w := ((w.alloc (.cells #[.slice A h.cells.length c, .slice (some ⟨ba, p_a, none⟩) h.roots.length c'] 26)).alloc (.cells #[.int .i64 3, .int .i64 oa, .int .i64 ob, .int .i64 oc] 30))) (a := ⟨w.heap.size + 1, 3, none⟩) (v := .int .i64 oc) (by simp [go_sem]) HBx
    have da : w2.cell? ⟨ba, p_a + oa.toNat, none⟩ = some (.int .i64 ra) := cell_below ca hBw
    have hrw := HRS.out.below hBw
    have HBW := Lib.hid hBw
    clear hbc hbf hB1 hB2 HBx hBw
    go_wp2_with fail
    go_still_tail 9, (by kernel_rfl)
    change wpList _ _ _ _ _ w2.drew
    go_wp2_with fail
    (with_reducible refine (l8Place_any A _ c c' h ra oc _ (hrw.below (Below.refl _ _).drew) hra).mono ?_)
    rintro e w3 ⟨rfl, hB3⟩
    go_wp2
    go_ret
    exact ⟨ret_bool (by rw [HPM.out]; unfold possO placeOk; rw [HRA.out]; simp), HBW.out.drew.trans (hB3.mono HBW.out.size)⟩
  · simp only [maxB, maxC] at b9 c9
    clear b9 c9 hr
    go_enter Try.func34, Try.ntmps34
    go_wp2_with fail
    refine (specHeapValid_any _ h _ (hv0.below blw_)).mono ?_
    rw [HV.out]
    rintro e w1 ⟨rfl, hB1⟩
    obtain ⟨hbc, hbf, hbz⟩ := bcell hB1
    have z0w1 : w.heap.size < w1.heap.size := (by (try simp at hbz); omega); have z1w1 : w.heap.size + 1 < w1.heap.size := (by (try simp at hbz); omega)
    go_wp2_with fail
    refine (specCommandValid_any ⟨4, oa, ob, oc⟩ _).mono ?_
    rw [HO.out]
    rintro e w2 ⟨rfl, hB2⟩
    have hz2 := hB2.size
    have HBx : Below (((w.alloc (.cells #[.slice A h.cells.length c, .slice (some ⟨ba, p_a, none⟩) h.roots.length c'] 26)).alloc (.cells #[.int .i64 4, .int .i64 oa, .int .i64 ob, .int .i64 oc] 30))).heap.size ((w.alloc (.cells #[.slice A h.cells.length c, .slice (some ⟨ba, p_a, none⟩) h.roots.length c'] 26)).alloc (.cells #[.int .i64 4, .int .i64 oa, .int .i64 ob, .int .i64 oc] 30)) w2 := blw_
    have hBw : Below w.heap.size w w2 := blw_
    have k0 := cell_below (w := ((w.alloc (.cells #[.slice A h.cells.length c, .slice (some ⟨ba, p_a, none⟩) h.roots.length c'] 26)).alloc (.cells #[.int .i64 4, .int .i64 oa, .int .i64 ob, .int .i64 oc] 30))) (a := ⟨w.heap.size, 0, none⟩) (v := .slice A h.cells.length c) (by simp [go_sem]) HBx
    have k1 := cell_below (w := ((w.alloc (.cells #[.slice A h.cells.length c, .slice (some ⟨ba, p_a, none⟩) h.roots.length c'] 26)).alloc (.cells #[.int .i64 4, .int .i64 oa, .int .i64 ob, .int .i64 oc] 30))) (a := ⟨w.heap.size, 1, none⟩) (v := .slice (some ⟨ba, p_a, none⟩) h.roots.length c') (by simp [go_sem]) HBx
    have m0 := cell_below (w := ((w.alloc (.cells #[.slice A h.cells.length c, .slice (some ⟨ba, p_a, none⟩) h.roots.length c'] 26)).alloc (.cells #[.int .i64 4, .int .i64 oa, .int .i64 ob, .int .i64 oc] 30))) (a := ⟨w.heap.size + 1, 0, none⟩) (v := .int .i64 4) (by simp [go_sem]) HBx
    have m1 := cell_below (w := ((w.alloc (.cells #[.slice A h.cells.length c, .slice (some ⟨ba, p_a, none⟩) h.roots.length c'] 26)).alloc (.cells #[.int .i64 4, .int .i64 oa, .int .i64 ob, .int .i64 oc] 30))) (a := ⟨w.heap.size + 1, 1, none⟩) (v := .int .i64 oa) (by simp [go_sem]) HBx
    have m2 := cell_below (w := ((w.alloc (.cells #[.slice A h.cells.length c, .slice (some ⟨ba, p_a, none⟩) h.roots.length c'] 26)).alloc (.cells #[.int .i64 4, .int .i64 oa, .int .i64 ob, .int .i64 oc] 30))) (a := ⟨w.heap.size + 1, 2, none⟩) (v := .int .i64 ob) (by simp [go_sem]) HBx
    have m3 := cell_below (w := ((w.alloc (.cells #[.slice A h.cells.length c, .slice (some ⟨ba, p_a, none⟩) h.roots.length c'] 26)).alloc (.cells #[.int .i64 4, .int .i64 oa, .int .i64 ob, .int .i64 oc] 30))) (a := ⟨w.heap.size + 1, 3, none⟩) (v := .int .i64 oc) (by simp [go_sem]) HBx
    have da : w2.cell? ⟨ba, p_a + oa.toNat, none⟩ = some (.int .i64 ra) := cell_below ca hBw
    have hrw := HRS.out.below hBw
    have HBW := Lib.hid hBw
    clear hbc hbf hB1 hB2 HBx hBw
    go_wp2
    go_ret
    exact ⟨ret_bool (by rw [HPM.out]; unfold possO; simp), HBW.out⟩
  · simp only [maxB, maxC] at b9 c9
    clear b9 c9 hr
    go_enter Try.func34, Try.ntmps34
    go_wp2_with fail
    refine (specHeapValid_any _ h _ (hv0.below blw_)).mono ?_
    rw [HV.out]
    rintro e w1 ⟨rfl, hB1⟩
    obtain ⟨hbc, hbf, hbz⟩ := bcell hB1
    have z0w1 : w.heap.size < w1.heap.size := (by (try simp at hbz); omega); have z1w1 : w.heap.size + 1 < w1.heap.size := (by (try simp at hbz); omega)
    go_wp2_with fail
    refine (specCommandValid_any ⟨5, oa, ob, oc⟩ _).mono ?_
    rw [HO.out]
    rintro e w2 ⟨rfl, hB2⟩
    have hz2 := hB2.size
    have HBx : Below (((w.alloc (.cells #[.slice A h.cells.length c, .slice (some ⟨ba, p_a, none⟩) h.roots.length c'] 26)).alloc (.cells #[.int .i64 5, .int .i64 oa, .int .i64 ob, .int .i64 oc] 30))).heap.size ((w.alloc (.cells #[.slice A h.cells.length c, .slice (some ⟨ba, p_a, none⟩) h.roots.length c'] 26)).alloc (.cells #[.int .i64 5, .int .i64 oa, .int .i64 ob, .int .i64 oc] 30)) w2 := blw_
    have hBw : Below w.heap.size w w2 := blw_
    have k0 := cell_below (w := ((w.alloc (.cells #[.slice A h.cells.length c, .slice (some ⟨ba, p_a, none⟩) h.roots.length c'] 26)).alloc (.cells #[.int .i64 5, .int .i64 oa, .int .i64 ob, .int .i64 oc] 30))) (a := ⟨w.heap.size, 0, none⟩) (v := .slice A h.cells.length c) (by simp [go_sem]) HBx
    have k1 := cell_below (w := ((w.alloc (.cells #[.slice A h.cells.length c, .slice (some ⟨ba, p_a, none⟩) h.roots.length c'] 26)).alloc (.cells #[.int .i64 5, .int .i64 oa, .int .i64 ob, .int .i64 oc] 30))) (a := ⟨w.heap.size, 1, none⟩) (v := .slice (some ⟨ba, p_a, none⟩) h.roots.length c') (by simp [go_sem]) HBx
    have m0 := cell_below (w := ((w.alloc (.cells #[.slice A h.cells.length c, .slice (some ⟨ba, p_a, none⟩) h.roots.length c'] 26)).alloc (.cells #[.int .i64 5, .int .i64 oa, .int .i64 ob, .int .i64 oc] 30))) (a := ⟨w.heap.size + 1, 0, none⟩) (v := .int .i64 5) (by simp [go_sem]) HBx
    have m1 := cell_below (w := ((w.alloc (.cells #[.slice A h.cells.length c, .slice (some ⟨ba, p_a, none⟩) h.roots.length c'] 26)).alloc (.cells #[.int .i64 5, .int .i64 oa, .int .i64 ob, .int .i64 oc] 30))) (a := ⟨w.heap.size + 1, 1, none⟩) (v := .int .i64 oa) (by simp [go_sem]) HBx
    have m2 := cell_below (w := ((w.alloc (.cells #[.slice A h.cells.length c, .slice (some ⟨ba, p_a, none⟩) h.roots.length c'] 26)).alloc (.cells #[.int .i64 5, .int .i64 oa, .int .i64 ob, .int .i64 oc] 30))) (a := ⟨w.heap.size + 1, 2, none⟩) (v := .int .i64 ob) (by simp [go_sem]) HBx
    have m3 := cell_below (w := ((w.alloc (.cells #[.slice A h.cells.length c, .slice (some ⟨ba, p_a, none⟩) h.roots.length c'] 26)).alloc (.cells #[.int .i64 5, .int .i64 oa, .int .i64 ob, .int .i64 oc] 30))) (a := ⟨w.heap.size + 1, 3, none⟩) (v := .int .i64 oc) (by simp [go_sem]) HBx
    have da : w2.cell? ⟨ba, p_a + oa.toNat, none⟩ = some (.int .i64 ra) := cell_below ca hBw
    have hrw := HRS.out.below hBw
    have HBW := Lib.hid hBw
    clear hbc hbf hB1 hB2 HBx hBw
    go_wp2
    go_ret
    exact ⟨ret_bool (by rw [HPM.out]; unfold possO; simp), HBW.out⟩
  · simp only [maxB, maxC] at b9 c9
    clear b9 c9 hr
    go_enter Try.func34, Try.ntmps34
    go_wp2_with fail
    refine (specHeapValid_any _ h _ (hv0.below blw_)).mono ?_
    rw [HV.out]
    rintro e w1 ⟨rfl, hB1⟩
    obtain ⟨hbc, hbf, hbz⟩ := bcell hB1
    have z0w1 : w.heap.size < w1.heap.size := (by (try simp at hbz); omega); have z1w1 : w.heap.size + 1 < w1.heap.size := (by (try simp at hbz); omega)
    go_wp2_with fail
    refine (specCommandValid_any ⟨6, oa, ob, oc⟩ _).mono ?_
    rw [HO.out]
    rintro e w2 ⟨rfl, hB2⟩
    have hz2 := hB2.size
    have HBx : Below (((w.alloc (.cells #[.slice A h.cells.length c, .slice (some ⟨ba, p_a, none⟩) h.roots.length c'] 26)).alloc (.cells #[.int .i64 6, .int .i64 oa, .int .i64 ob, .int .i64 oc] 30))).heap.size ((w.alloc (.cells #[.slice A h.cells.length c, .slice (some ⟨ba, p_a, none⟩) h.roots.length c'] 26)).alloc (.cells #[.int .i64 6, .int .i64 oa, .int .i64 ob, .int .i64 oc] 30)) w2 := blw_
    have hBw : Below w.heap.size w w2 := blw_
    have k0 := cell_below (w := ((w.alloc (.cells #[.slice A h.cells.length c, .slice (some ⟨ba, p_a, none⟩) h.roots.length c'] 26)).alloc (.cells #[.int .i64 6, .int .i64 oa, .int .i64 ob, .int .i64 oc] 30))) (a := ⟨w.heap.size, 0, none⟩) (v := .slice A h.cells.length c) (by simp [go_sem]) HBx
    have k1 := cell_below (w := ((w.alloc (.cells #[.slice A h.cells.length c, .slice (some ⟨ba, p_a, none⟩) h.roots.length c'] 26)).alloc (.cells #[.int .i64 6, .int .i64 oa, .int .i64 ob, .int .i64 oc] 30))) (a := ⟨w.heap.size, 1, none⟩) (v := .slice (some ⟨ba, p_a, none⟩) h.roots.length c') (by simp [go_sem]) HBx
    have m0 := cell_below (w := ((w.alloc (.cells #[.slice A h.cells.length c, .slice (some ⟨ba, p_a, none⟩) h.roots.length c'] 26)).alloc (.cells #[.int .i64 6, .int .i64 oa, .int .i64 ob, .int .i64 oc] 30))) (a := ⟨w.heap.size + 1, 0, none⟩) (v := .int .i64 6) (by simp [go_sem]) HBx
    have m1 := cell_below (w := ((w.alloc (.cells #[.slice A h.cells.length c, .slice (some ⟨ba, p_a, none⟩) h.roots.length c'] 26)).alloc (.cells #[.int .i64 6, .int .i64 oa, .int .i64 ob, .int .i64 oc] 30))) (a := ⟨w.heap.size + 1, 1, none⟩) (v := .int .i64 oa) (by simp [go_sem]) HBx
    have m2 := cell_below (w := ((w.alloc (.cells #[.slice A h.cells.length c, .slice (some ⟨ba, p_a, none⟩) h.roots.length c'] 26)).alloc (.cells #[.int .i64 6, .int .i64 oa, .int .i64 ob, .int .i64 oc] 30))) (a := ⟨w.heap.size + 1, 2, none⟩) (v := .int .i64 ob) (by simp [go_sem]) HBx
    have m3 := cell_below (w := ((w.alloc (.cells #[.slice A h.cells.length c, .slice (some ⟨ba, p_a, none⟩) h.roots.length c'] 26)).alloc (.cells #[.int .i64 6, .int .i64 oa, .int .i64 ob, .int .i64 oc] 30))) (a := ⟨w.heap.size + 1, 3, none⟩) (v := .int .i64 oc) (by simp [go_sem]) HBx
    have da : w2.cell? ⟨ba, p_a + oa.toNat, none⟩ = some (.int .i64 ra) := cell_below ca hBw
    have hrw := HRS.out.below hBw
    have HBW := Lib.hid hBw
    clear hbc hbf hB1 hB2 HBx hBw
    rcases Classical.em (0 ≤ ra) with h0 | h0
    · go_wp2
      go_ret
      exact ⟨ret_bool (by rw [HPM.out]; unfold possO; rw [HRA.out]; simp [h0]), HBW.out⟩
    · go_wp2
      go_ret
      exact ⟨ret_bool (by rw [HPM.out]; unfold possO; rw [HRA.out]; simp [h0]), HBW.out⟩
end Go.Proofs.Ytkikeanpbffpkaa
