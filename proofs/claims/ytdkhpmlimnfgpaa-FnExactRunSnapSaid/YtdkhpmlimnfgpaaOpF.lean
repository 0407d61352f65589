/- The fields of the operations in the program's table. -/
import Derived.Test.YtdkhpmlimnfgpaaChecked
import Derived.Test.YtdkhpmlimnfgpaaCmdI
namespace Go.Proofs.Ytdkhpmlimnfgpaa
open Go.RowKit
theorem opFp1 (W : World) : Sem.run Try.prog (Instr.field 143 (.agg #[.int .i64 3, .int .i64 99, .func (.func 144) #[] #[], .nilFunc]) 2) W = .ok (.func (.func 144) #[] #[]) W := by kernel_rfl
theorem opFp2 (W : World) : Sem.run Try.prog (Instr.field 143 (.agg #[.int .i64 3, .int .i64 2, .func (.func 145) #[] #[], .func (.func 147) #[] #[]]) 2) W = .ok (.func (.func 145) #[] #[]) W := by kernel_rfl
theorem opFr2 (W : World) : Sem.run Try.prog (Instr.field 143 (.agg #[.int .i64 3, .int .i64 2, .func (.func 145) #[] #[], .func (.func 147) #[] #[]]) 3) W = .ok (.func (.func 147) #[] #[]) W := by kernel_rfl
theorem opFp3 (W : World) : Sem.run Try.prog (Instr.field 143 (.agg #[.int .i64 3, .int .i64 2, .func (.func 148) #[] #[], .func (.func 149) #[] #[]]) 2) W = .ok (.func (.func 148) #[] #[]) W := by kernel_rfl
theorem opFr3 (W : World) : Sem.run Try.prog (Instr.field 143 (.agg #[.int .i64 3, .int .i64 2, .func (.func 148) #[] #[], .func (.func 149) #[] #[]]) 3) W = .ok (.func (.func 149) #[] #[]) W := by kernel_rfl
theorem opFp4 (W : World) : Sem.run Try.prog (Instr.field 143 (.agg #[.int .i64 3, .int .i64 0, .func (.func 144) #[] #[], .func (.func 150) #[] #[]]) 2) W = .ok (.func (.func 144) #[] #[]) W := by kernel_rfl
theorem opFr4 (W : World) : Sem.run Try.prog (Instr.field 143 (.agg #[.int .i64 3, .int .i64 0, .func (.func 144) #[] #[], .func (.func 150) #[] #[]]) 3) W = .ok (.func (.func 150) #[] #[]) W := by kernel_rfl
theorem opFp5 (W : World) : Sem.run Try.prog (Instr.field 143 (.agg #[.int .i64 0, .int .i64 0, .func (.func 144) #[] #[], .func (.func 151) #[] #[]]) 2) W = .ok (.func (.func 144) #[] #[]) W := by kernel_rfl
theorem opFr5 (W : World) : Sem.run Try.prog (Instr.field 143 (.agg #[.int .i64 0, .int .i64 0, .func (.func 144) #[] #[], .func (.func 151) #[] #[]]) 3) W = .ok (.func (.func 151) #[] #[]) W := by kernel_rfl
theorem opFp6 (W : World) : Sem.run Try.prog (Instr.field 143 (.agg #[.int .i64 99, .int .i64 0, .func (.func 152) #[] #[], .func (.func 153) #[] #[]]) 2) W = .ok (.func (.func 152) #[] #[]) W := by kernel_rfl
theorem opFr6 (W : World) : Sem.run Try.prog (Instr.field 143 (.agg #[.int .i64 99, .int .i64 0, .func (.func 152) #[] #[], .func (.func 153) #[] #[]]) 3) W = .ok (.func (.func 153) #[] #[]) W := by kernel_rfl
end Go.Proofs.Ytdkhpmlimnfgpaa
