/- reachable and Reachable of the program, Reachable of the reference; CollectSweep of both. -/
import Derived.Test.YtkmfhadanbfadaaChecked
import Derived.Deep.RegionHeld3
import Derived.Deep.DeepCutAuto
import Derived.Lib.QuietBelow
import Derived.Test.YtkmfhadanbfadaaGrClo
import Derived.Test.YtkmfhadanbfadaaSweepJ
import Derived.Test.YtkmfhadanbfadaaSweepS
import Derived.Test.YtkmfhadanbfadaaSmall
import Derived.Test.YtkmfhadanbfadaaStepH
namespace Go.Proofs.Ytkmfhadanbfadaa
open Go.RowKit
open Go.Sort
set_option maxRecDepth 100000
set_option linter.unusedSimpArgs false
set_option linter.unusedVariables false
end Go.Proofs.Ytkmfhadanbfadaa
