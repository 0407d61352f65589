/- Texts of one family, one behind the other: SweepS, SweepI, SweepJ. -/
import Derived.Test.YtngmkflmjjkjaaaChecked
import Derived.Deep.DeepCutAuto
import Derived.Test.YtngmkflmjjkjaaaGrData
import Derived.Test.YtngmkflmjjkjaaaSmall
import Derived.Test.YtngmkflmjjkjaaaGrHeap
import Derived.Test.YtngmkflmjjkjaaaGrCopy
import Derived.Test.YtngmkflmjjkjaaaGrExec
import Derived.Test.YtngmkflmjjkjaaaSnapV
import Derived.Lib.QuietBelow
/- The reference's SweepCells returns sweepM, in new memory. -/
namespace Go.Proofs.Ytngmkflmjjkjaaa
open Go.RowKit
set_option maxRecDepth 100000
set_option linter.unusedSimpArgs false
set_option linter.unusedVariables false
end Go.Proofs.Ytngmkflmjjkjaaa

/- The program's refersOutside and SweepCells. -/
namespace Go.Proofs.Ytngmkflmjjkjaaa
open Go.RowKit
set_option maxRecDepth 100000
set_option linter.unusedSimpArgs false
set_option linter.unusedVariables false
end Go.Proofs.Ytngmkflmjjkjaaa

/- The program's SweepCells returns sweepM, in new memory. -/
namespace Go.Proofs.Ytngmkflmjjkjaaa
open Go.RowKit
open Go.Sort
set_option maxRecDepth 100000
set_option linter.unusedSimpArgs false
set_option linter.unusedVariables false
end Go.Proofs.Ytngmkflmjjkjaaa
