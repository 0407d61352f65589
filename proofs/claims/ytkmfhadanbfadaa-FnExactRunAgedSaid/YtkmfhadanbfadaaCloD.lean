/- reachable and Reachable of the program, Reachable of the reference; CollectSweep of both. -/
import Derived.Test.YtkmfhadanbfadaaChecked
import Derived.Deep.RegionHeld3
import Derived.Deep.DeepCutAuto
import Derived.Lib.QuietBelow
import Derived.Test.YtkmfhadanbfadaaGrClo
import Derived.Test.YtkmfhadanbfadaaSweepJ
import Derived.Test.YtkmfhadanbfadaaSweepS
import Derived.Test.YtkmfhadanbfadaaSmall
import Derived.Test.YtkmfhadanbfadaaStepH
namespace Go.Proofs.Ytkmfhadanbfadaa
open Go.RowKit
open Go.Sort
set_option maxRecDepth 100000
set_option linter.unusedSimpArgs false
set_option linter.unusedVariables false
theorem used_lt {h : HeapM} {r : Int} (hr : hasB (usedBits h.cells) r = true) : r < h.cells.length := by
  unfold hasB at hr
  rw [usedBits_test] at hr
  simp only [Bool.and_eq_true, decide_eq_true_eq] at hr
  rcases Nat.lt_or_ge r.toNat h.cells.length with h1 | h1
  · omega
  · have := hr.2
    unfold usedN at this
    rw [getD_len (by simpa using h1)] at this; cases this
theorem used64 {h : HeapM} (hv : validM h = true) : usedBits h.cells < 18446744073709551616 := bitsOf_lt64 (by rw [List.length_map]; have := (valid_small hv).1; omega)
end Go.Proofs.Ytkmfhadanbfadaa
