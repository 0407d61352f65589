/- The first free cell: freePlace and l10Place. -/
import Derived.Test.YtkmfhadanbfadaaChecked
import Derived.Test.YtkmfhadanbfadaaGrData
import Derived.Test.YtkmfhadanbfadaaGrSz
import Derived.Test.YtkmfhadanbfadaaGrOwn
namespace Go.Proofs.Ytkmfhadanbfadaa
open Go.RowKit
set_option maxRecDepth 100000
set_option linter.unusedSimpArgs false
set_option linter.unusedVariables false
end Go.Proofs.Ytkmfhadanbfadaa
