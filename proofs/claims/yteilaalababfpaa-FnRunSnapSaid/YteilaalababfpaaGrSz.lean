/- Texts of one family, one behind the other: SzP. -/
import Derived.Test.YteilaalababfpaaChecked
import Derived.Test.YteilaalababfpaaGrOwn
/- What the size looks at painted heaps, snapshots, heaps with generations and with counts compute. -/
namespace Go.Proofs.Yteilaalababfpaa
open Go.RowKit
set_option maxRecDepth 100000
set_option linter.all false
structure SmallH (h : HeapM) : Prop where
  cells : h.cells.length ≤ 1048576
  refs : ∀ d ∈ h.cells, d.refs.length ≤ 1048576
  roots : h.roots.length ≤ 1048576
end Go.Proofs.Yteilaalababfpaa