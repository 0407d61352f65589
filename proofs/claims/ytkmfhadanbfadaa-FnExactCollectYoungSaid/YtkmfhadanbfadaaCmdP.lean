/- Where an instruction's reference lies (place), and whether an instruction is possible, in both. -/
import Derived.Test.YtkmfhadanbfadaaChecked
import Derived.Deep.RegionHeld3
import Derived.Deep.DeepCutAuto
import Derived.Test.YtkmfhadanbfadaaCmdV
import Derived.Test.YtkmfhadanbfadaaGrHeap
import Derived.Test.YtkmfhadanbfadaaGrOwn
namespace Go.Proofs.Ytkmfhadanbfadaa
open Go.RowKit
set_option maxRecDepth 100000
set_option linter.unusedSimpArgs false
set_option linter.unusedVariables false
end Go.Proofs.Ytkmfhadanbfadaa
