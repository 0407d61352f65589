/- The fields of the operations in the program's table. -/
import Derived.Test.YtkmfhadanbfadaaChecked
import Derived.Test.YtkmfhadanbfadaaCmdI
namespace Go.Proofs.Ytkmfhadanbfadaa
open Go.RowKit
theorem opFp1 (W : World) : Sem.run Try.prog (Instr.field 161 (.agg #[.int .i64 3, .int .i64 99, .func (.func 173) #[] #[], .nilFunc]) 2) W = .ok (.func (.func 173) #[] #[]) W := by kernel_rfl
theorem opFp2 (W : World) : Sem.run Try.prog (Instr.field 161 (.agg #[.int .i64 3, .int .i64 2, .func (.func 174) #[] #[], .func (.func 175) #[] #[]]) 2) W = .ok (.func (.func 174) #[] #[]) W := by kernel_rfl
theorem opFr2 (W : World) : Sem.run Try.prog (Instr.field 161 (.agg #[.int .i64 3, .int .i64 2, .func (.func 174) #[] #[], .func (.func 175) #[] #[]]) 3) W = .ok (.func (.func 175) #[] #[]) W := by kernel_rfl
theorem opFp3 (W : World) : Sem.run Try.prog (Instr.field 161 (.agg #[.int .i64 3, .int .i64 2, .func (.func 176) #[] #[], .func (.func 177) #[] #[]]) 2) W = .ok (.func (.func 176) #[] #[]) W := by kernel_rfl
theorem opFr3 (W : World) : Sem.run Try.prog (Instr.field 161 (.agg #[.int .i64 3, .int .i64 2, .func (.func 176) #[] #[], .func (.func 177) #[] #[]]) 3) W = .ok (.func (.func 177) #[] #[]) W := by kernel_rfl
theorem opFp4 (W : World) : Sem.run Try.prog (Instr.field 161 (.agg #[.int .i64 3, .int .i64 0, .func (.func 173) #[] #[], .func (.func 178) #[] #[]]) 2) W = .ok (.func (.func 173) #[] #[]) W := by kernel_rfl
theorem opFr4 (W : World) : Sem.run Try.prog (Instr.field 161 (.agg #[.int .i64 3, .int .i64 0, .func (.func 173) #[] #[], .func (.func 178) #[] #[]]) 3) W = .ok (.func (.func 178) #[] #[]) W := by kernel_rfl
theorem opFp5 (W : World) : Sem.run Try.prog (Instr.field 161 (.agg #[.int .i64 0, .int .i64 0, .func (.func 173) #[] #[], .func (.func 179) #[] #[]]) 2) W = .ok (.func (.func 173) #[] #[]) W := by kernel_rfl
theorem opFr5 (W : World) : Sem.run Try.prog (Instr.field 161 (.agg #[.int .i64 0, .int .i64 0, .func (.func 173) #[] #[], .func (.func 179) #[] #[]]) 3) W = .ok (.func (.func 179) #[] #[]) W := by kernel_rfl
theorem opFp6 (W : World) : Sem.run Try.prog (Instr.field 161 (.agg #[.int .i64 99, .int .i64 0, .func (.func 180) #[] #[], .func (.func 181) #[] #[]]) 2) W = .ok (.func (.func 180) #[] #[]) W := by kernel_rfl
theorem opFr6 (W : World) : Sem.run Try.prog (Instr.field 161 (.agg #[.int .i64 99, .int .i64 0, .func (.func 180) #[] #[], .func (.func 181) #[] #[]]) 3) W = .ok (.func (.func 181) #[] #[]) W := by kernel_rfl
end Go.Proofs.Ytkmfhadanbfadaa
