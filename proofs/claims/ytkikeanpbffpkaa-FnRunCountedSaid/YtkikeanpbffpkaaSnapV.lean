/- Which snapshots are valid: the program's and the reference's SnapValid both tell snapM. -/
import Derived.Test.YtkikeanpbffpkaaChecked
import Derived.Test.YtkikeanpbffpkaaSet
import Derived.Test.YtkikeanpbffpkaaGrHeap
namespace Go.Proofs.Ytkikeanpbffpkaa
open Go.RowKit
set_option maxRecDepth 100000
set_option linter.unusedSimpArgs false
set_option linter.unusedVariables false

theorem usedBits_test (cs : List CellM) (i : Nat) : (usedBits cs).testBit i = usedN cs i := bitsOf_test _ _

end Go.Proofs.Ytkikeanpbffpkaa
