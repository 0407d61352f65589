/- The program's execute returns execM, in new memory, for every possible instruction. -/
import Derived.Test.YtkmfhadanbfadaaChecked
import Derived.Test.YtkmfhadanbfadaaExecN
namespace Go.Proofs.Ytkmfhadanbfadaa
open Go.RowKit
theorem execute_any (v : Value) (h : HeapM) (o : CmdM) (at_ : Nat) (w : World) (hv : RH w v h) (hva : validM h = true) (hok : cmdOk o = true) (hps : possO h o = true) (hat : at_ ≤ h.cells.length) :
    Calls Try.prog 100 #[v, .agg #[.int .i64 o.op, .int .i64 o.a, .int .i64 o.b, .int .i64 o.c], .int .i64 at_] w fun e w' => ∃ v', e = .returned v' ∧ OH w.heap.size w' v' (execM h o at_) ∧ Below w.heap.size w w' := by
  rcases Classical.em (o.op = 1) with h1 | h1
  · obtain ⟨op, a, b, c⟩ := o
    dsimp only at h1
    subst h1
    exact execNew_any v h a b c at_ w hv hva hok hat
  · exact execOld_any v h o at_ w hv hva hok hps h1
end Go.Proofs.Ytkmfhadanbfadaa
