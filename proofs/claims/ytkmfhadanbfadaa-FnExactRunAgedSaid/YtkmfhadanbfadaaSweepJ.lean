/- The program's SweepCells returns sweepM, in new memory. -/
import Derived.Test.YtkmfhadanbfadaaChecked
import Derived.Deep.DeepCutAuto
import Derived.Lib.QuietBelow
import Derived.Test.YtkmfhadanbfadaaSweepI
import Derived.Test.YtkmfhadanbfadaaGrExec
namespace Go.Proofs.Ytkmfhadanbfadaa
open Go.RowKit
open Go.Sort
set_option maxRecDepth 100000
set_option linter.unusedSimpArgs false
set_option linter.unusedVariables false
end Go.Proofs.Ytkmfhadanbfadaa
