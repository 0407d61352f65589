/- The fields of the operations in the program's table. -/
import Derived.Test.YtkmfhadanbfadaaChecked
import Derived.Test.YtkmfhadanbfadaaCmdI
namespace Go.Proofs.Ytkmfhadanbfadaa
open Go.RowKit
end Go.Proofs.Ytkmfhadanbfadaa
