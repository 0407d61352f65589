/- CommandPossible of both is possM. -/
import Derived.Test.YtkmfhadanbfadaaChecked
import Derived.Deep.RegionHeld3
import Derived.Deep.DeepCutAuto
import Derived.Lib.QuietBelow
import Derived.Test.YtkmfhadanbfadaaCmdP
import Derived.Test.YtkmfhadanbfadaaOpF
namespace Go.Proofs.Ytkmfhadanbfadaa
open Go.RowKit
open Go.Sort
set_option maxRecDepth 100000
set_option linter.unusedSimpArgs false
set_option linter.unusedVariables false
end Go.Proofs.Ytkmfhadanbfadaa
