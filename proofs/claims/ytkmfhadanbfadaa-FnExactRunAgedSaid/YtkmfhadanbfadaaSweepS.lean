/- The reference's SweepCells returns sweepM, in new memory. -/
import Derived.Test.YtkmfhadanbfadaaChecked
import Derived.Deep.DeepCutAuto
import Derived.Test.YtkmfhadanbfadaaGrData
import Derived.Test.YtkmfhadanbfadaaSmall
import Derived.Test.YtkmfhadanbfadaaGrHeap
import Derived.Test.YtkmfhadanbfadaaGrCopy
import Derived.Test.YtkmfhadanbfadaaFreeC
namespace Go.Proofs.Ytkmfhadanbfadaa
open Go.RowKit
set_option maxRecDepth 100000
set_option linter.unusedSimpArgs false
set_option linter.unusedVariables false
end Go.Proofs.Ytkmfhadanbfadaa
