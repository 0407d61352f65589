/- The program gathers cells in an order. -/
import Derived.Test.YtngmkflmjjkjaaaChecked
import Derived.Deep.RegionHeld3
import Derived.Deep.DeepCutAuto
import Derived.IntWalk
import Derived.Test.YtngmkflmjjkjaaaGrOrd
import Derived.Test.YtngmkflmjjkjaaaGrCopy
namespace Go.Proofs.Ytngmkflmjjkjaaa
open Go.RowKit
set_option maxRecDepth 100000
set_option linter.unusedSimpArgs false
set_option linter.unusedVariables false
end Go.Proofs.Ytngmkflmjjkjaaa
