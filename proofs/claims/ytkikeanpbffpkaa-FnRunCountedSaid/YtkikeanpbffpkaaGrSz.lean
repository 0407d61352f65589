/- Texts of one family, one behind the other: SzP. -/
import Derived.Test.YtkikeanpbffpkaaChecked
import Derived.Test.YtkikeanpbffpkaaGrOwn
/- What the size looks at painted heaps, snapshots, heaps with generations and with counts compute. -/
namespace Go.Proofs.Ytkikeanpbffpkaa
open Go.RowKit
set_option maxRecDepth 100000
set_option linter.unusedSimpArgs false
set_option linter.unusedVariables false

/-- All that the size looks look at is at most 2^20 long. -/
structure SmallH (h : HeapM) : Prop where
  cells : h.cells.length ≤ 1048576
  refs : ∀ d ∈ h.cells, d.refs.length ≤ 1048576
  roots : h.roots.length ≤ 1048576
end Go.Proofs.Ytkikeanpbffpkaa
