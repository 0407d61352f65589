/- Freeing cells in rows of cells of a call's own. -/
import Derived.Test.YtkmfhadanbfadaaChecked
import Derived.Test.YtkmfhadanbfadaaGrData
import Derived.Test.YtkmfhadanbfadaaSet
import Derived.Test.YtkmfhadanbfadaaGrOwn
namespace Go.Proofs.Ytkmfhadanbfadaa
open Go.RowKit
set_option linter.unusedSimpArgs false
set_option linter.unusedVariables false
section
variable {f : Nat → OCell → Bool} {j : Nat} {os : List OCell}
end
end Go.Proofs.Ytkmfhadanbfadaa
