/- Meeting cells: the recorder's meet and the reference's l19Meet write the two lists of a snapshot as meetL and meet1 say. -/
import Derived.Test.YtngmkflmjjkjaaaChecked
import Derived.RegionTactic
import Derived.BigRegion
import Derived.Test.YtngmkflmjjkjaaaGrOwn
import Derived.Test.YtngmkflmjjkjaaaGrData
namespace Go.Proofs.Ytngmkflmjjkjaaa
open Go.RowKit
set_option maxRecDepth 100000
set_option linter.unusedSimpArgs false
set_option linter.unusedVariables false
end Go.Proofs.Ytngmkflmjjkjaaa
