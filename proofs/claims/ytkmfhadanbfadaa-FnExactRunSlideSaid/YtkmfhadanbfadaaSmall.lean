/- Small laws of heaps of the call's own, rows of one element, what is freed so far. No condition. -/
import Derived.Test.YtkmfhadanbfadaaChecked
import Derived.Test.YtkmfhadanbfadaaGrData
import Derived.Test.YtkmfhadanbfadaaGrSz
import Derived.Test.YtkmfhadanbfadaaGrOwn
import Derived.Test.YtkmfhadanbfadaaGrCopy
namespace Go.Proofs.Ytkmfhadanbfadaa
open Go.RowKit
set_option linter.unusedSimpArgs false
set_option linter.unusedVariables false
end Go.Proofs.Ytkmfhadanbfadaa
