/- The fields of the operations in the program's table. -/
import Derived.Test.YtngmkflmjjkjaaaChecked
import Derived.Test.YtngmkflmjjkjaaaCmdI
namespace Go.Proofs.Ytngmkflmjjkjaaa
open Go.RowKit
theorem opFp1 (W : World) : Sem.run Try.prog (Instr.field 78 (.agg #[.int .i64 3, .int .i64 99, .func (.func 100) #[] #[], .nilFunc]) 2) W = .ok (.func (.func 100) #[] #[]) W := by kernel_rfl
theorem opFp2 (W : World) : Sem.run Try.prog (Instr.field 78 (.agg #[.int .i64 3, .int .i64 2, .func (.func 101) #[] #[], .func (.func 103) #[] #[]]) 2) W = .ok (.func (.func 101) #[] #[]) W := by kernel_rfl
theorem opFr2 (W : World) : Sem.run Try.prog (Instr.field 78 (.agg #[.int .i64 3, .int .i64 2, .func (.func 101) #[] #[], .func (.func 103) #[] #[]]) 3) W = .ok (.func (.func 103) #[] #[]) W := by kernel_rfl
theorem opFp3 (W : World) : Sem.run Try.prog (Instr.field 78 (.agg #[.int .i64 3, .int .i64 2, .func (.func 104) #[] #[], .func (.func 105) #[] #[]]) 2) W = .ok (.func (.func 104) #[] #[]) W := by kernel_rfl
theorem opFr3 (W : World) : Sem.run Try.prog (Instr.field 78 (.agg #[.int .i64 3, .int .i64 2, .func (.func 104) #[] #[], .func (.func 105) #[] #[]]) 3) W = .ok (.func (.func 105) #[] #[]) W := by kernel_rfl
theorem opFp4 (W : World) : Sem.run Try.prog (Instr.field 78 (.agg #[.int .i64 3, .int .i64 0, .func (.func 100) #[] #[], .func (.func 106) #[] #[]]) 2) W = .ok (.func (.func 100) #[] #[]) W := by kernel_rfl
theorem opFr4 (W : World) : Sem.run Try.prog (Instr.field 78 (.agg #[.int .i64 3, .int .i64 0, .func (.func 100) #[] #[], .func (.func 106) #[] #[]]) 3) W = .ok (.func (.func 106) #[] #[]) W := by kernel_rfl
theorem opFp5 (W : World) : Sem.run Try.prog (Instr.field 78 (.agg #[.int .i64 0, .int .i64 0, .func (.func 100) #[] #[], .func (.func 107) #[] #[]]) 2) W = .ok (.func (.func 100) #[] #[]) W := by kernel_rfl
theorem opFr5 (W : World) : Sem.run Try.prog (Instr.field 78 (.agg #[.int .i64 0, .int .i64 0, .func (.func 100) #[] #[], .func (.func 107) #[] #[]]) 3) W = .ok (.func (.func 107) #[] #[]) W := by kernel_rfl
theorem opFp6 (W : World) : Sem.run Try.prog (Instr.field 78 (.agg #[.int .i64 99, .int .i64 0, .func (.func 108) #[] #[], .func (.func 109) #[] #[]]) 2) W = .ok (.func (.func 108) #[] #[]) W := by kernel_rfl
theorem opFr6 (W : World) : Sem.run Try.prog (Instr.field 78 (.agg #[.int .i64 99, .int .i64 0, .func (.func 108) #[] #[], .func (.func 109) #[] #[]]) 3) W = .ok (.func (.func 109) #[] #[]) W := by kernel_rfl
end Go.Proofs.Ytngmkflmjjkjaaa
