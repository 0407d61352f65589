/- Sets of cells as words of 64 bits: what has, add, list, setOf and usedSet compute. Conditions: numbers of cells below 64. -/
import Derived.Test.YtkmfhadanbfadaaChecked
import Derived.Test.YtkmfhadanbfadaaGrTo
namespace Go.Proofs.Ytkmfhadanbfadaa
open Go.RowKit
set_option maxRecDepth 100000
set_option linter.unusedSimpArgs false
set_option linter.unusedVariables false

end Go.Proofs.Ytkmfhadanbfadaa
