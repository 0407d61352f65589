/- Freeing cells: the program's freeCells frees the used cells of a set, the reference's l11Drop returns a copy without the dead cells. -/
import Derived.Test.YtkmfhadanbfadaaChecked
import Derived.Test.YtkmfhadanbfadaaDataO
import Derived.Test.YtkmfhadanbfadaaGrCopy
namespace Go.Proofs.Ytkmfhadanbfadaa
open Go.RowKit
set_option maxRecDepth 100000
set_option linter.unusedSimpArgs false
set_option linter.unusedVariables false
end Go.Proofs.Ytkmfhadanbfadaa
