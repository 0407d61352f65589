/- Small laws of heaps of the call's own, rows of one element, what is freed so far. No condition. -/
import Derived.Test.YtngmkflmjjkjaaaChecked
import Derived.Test.YtngmkflmjjkjaaaGrData
import Derived.Test.YtngmkflmjjkjaaaGrSz
import Derived.Test.YtngmkflmjjkjaaaGrOwn
import Derived.Test.YtngmkflmjjkjaaaGrCopy
namespace Go.Proofs.Ytngmkflmjjkjaaa
open Go.RowKit
set_option linter.unusedSimpArgs false
set_option linter.unusedVariables false
end Go.Proofs.Ytngmkflmjjkjaaa
