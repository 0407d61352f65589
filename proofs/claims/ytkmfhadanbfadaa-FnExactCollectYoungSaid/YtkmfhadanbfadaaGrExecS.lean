/- Texts of one family, one behind the other: ExecS, ExecSN. -/
import Derived.Test.YtkmfhadanbfadaaChecked
import Derived.Deep.DeepCutAuto
import Derived.Test.YtkmfhadanbfadaaGrExec
import Derived.Test.YtkmfhadanbfadaaCopyS
import Derived.Test.YtkmfhadanbfadaaCmdQS
/- The reference's l8Do returns execM, in new memory: all instructions but OpNew. -/
namespace Go.Proofs.Ytkmfhadanbfadaa
open Go.RowKit
set_option maxRecDepth 100000
set_option linter.unusedSimpArgs false
set_option linter.unusedVariables false
end Go.Proofs.Ytkmfhadanbfadaa

/- The reference's l8Do returns execM, in new memory: OpNew, and all instructions. -/
namespace Go.Proofs.Ytkmfhadanbfadaa
open Go.RowKit
set_option maxRecDepth 100000
set_option linter.unusedSimpArgs false
set_option linter.unusedVariables false
end Go.Proofs.Ytkmfhadanbfadaa
