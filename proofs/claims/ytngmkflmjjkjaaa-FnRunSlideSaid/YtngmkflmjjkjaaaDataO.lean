/- Freeing cells in rows of cells of a call's own. -/
import Derived.Test.YtngmkflmjjkjaaaChecked
import Derived.Test.YtngmkflmjjkjaaaGrData
import Derived.Test.YtngmkflmjjkjaaaSet
import Derived.Test.YtngmkflmjjkjaaaGrOwn
namespace Go.Proofs.Ytngmkflmjjkjaaa
open Go.RowKit
set_option linter.unusedSimpArgs false
set_option linter.unusedVariables false
section
variable {f : Nat → OCell → Bool} {j : Nat} {os : List OCell}
end
end Go.Proofs.Ytngmkflmjjkjaaa
