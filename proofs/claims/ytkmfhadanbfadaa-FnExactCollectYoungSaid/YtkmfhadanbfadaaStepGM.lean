/- Generations under instructions: the cases, and that what comes out is small. -/
import Derived.Test.YtkmfhadanbfadaaGrData
import Derived.Test.YtkmfhadanbfadaaStepH
import Derived.Test.YtkmfhadanbfadaaCanS
namespace Go.Proofs.Ytkmfhadanbfadaa
end Go.Proofs.Ytkmfhadanbfadaa
