/- Texts of one family, one behind the other: Sz, SzP. -/
import Derived.Test.YtkmfhadanbfadaaChecked
import Derived.Test.YtkmfhadanbfadaaGrOwn
/- What the size looks sz.. of the laws compute, and that they leave memory as it is. Conditions: lengths below 2^48, the number that is left in 0..2^20. -/
namespace Go.Proofs.Ytkmfhadanbfadaa
open Go.RowKit
set_option maxRecDepth 100000

def szI (n : Nat) (left : Int) : Int := if left - n < 0 then -1 else left - n
end Go.Proofs.Ytkmfhadanbfadaa

/- What the size looks at painted heaps, snapshots, heaps with generations and with counts compute. -/
namespace Go.Proofs.Ytkmfhadanbfadaa
open Go.RowKit
set_option maxRecDepth 100000
set_option linter.unusedSimpArgs false
set_option linter.unusedVariables false

/-- All that the size looks look at is at most 2^20 long. -/
structure SmallH (h : HeapM) : Prop where
  cells : h.cells.length ≤ 1048576
  refs : ∀ d ∈ h.cells, d.refs.length ≤ 1048576
  roots : h.roots.length ≤ 1048576
end Go.Proofs.Ytkmfhadanbfadaa
