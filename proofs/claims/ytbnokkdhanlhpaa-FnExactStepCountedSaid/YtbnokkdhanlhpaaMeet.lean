/- Meeting cells: the recorder's meet and the reference's l19Meet write the two lists of a snapshot as meetL and meet1 say. -/
import Derived.Test.YtbnokkdhanlhpaaChecked
import Derived.RegionTactic
import Derived.BigRegion
import Derived.Test.YtbnokkdhanlhpaaGrOwn
import Derived.Test.YtbnokkdhanlhpaaGrData
namespace Go.Proofs.Ytbnokkdhanlhpaa
open Go.RowKit
set_option maxRecDepth 100000
set_option linter.unusedSimpArgs false
set_option linter.unusedVariables false
theorem meet_pair {xy : List Bool × List Bool} {xs ys : List Bool} (h : (xs, ys) = xy) : xs = xy.1 ∧ ys = xy.2 := by rw [← h]; exact ⟨rfl, rfl⟩
end Go.Proofs.Ytbnokkdhanlhpaa
