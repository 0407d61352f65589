/- Texts of one family, one behind the other: Keep, CollA. -/
import Derived.Test.YtkmfhadanbfadaaChecked
import Derived.Deep.RegionHeld3
import Derived.Deep.DeepCutAuto
import Derived.Test.YtkmfhadanbfadaaCloD
import Derived.Test.YtkmfhadanbfadaaGrAged
import Derived.Test.YtkmfhadanbfadaaGrSnap
import Derived.Test.YtkmfhadanbfadaaGrData
/- keep of the program: cells that are not in a set are freed, the others become old. CollectAged of the program. -/
namespace Go.Proofs.Ytkmfhadanbfadaa
open Go.RowKit
set_option maxRecDepth 100000
set_option linter.unusedSimpArgs false
set_option linter.unusedVariables false
end Go.Proofs.Ytkmfhadanbfadaa

/- CollectAged of both return collectAgedM, in new memory. -/
namespace Go.Proofs.Ytkmfhadanbfadaa
open Go.RowKit
set_option maxRecDepth 100000
set_option linter.unusedSimpArgs false
set_option linter.unusedVariables false
theorem agedM_parts {p : TwoM} (h : agedM p = true) : validM p.store = true ∧ p.x.length = p.store.cells.length ∧ p.y.length = p.store.cells.length := by
  unfold agedM at h
  simp only [Bool.and_eq_true, decide_eq_true_eq] at h
  exact ⟨h.1.1.1, h.1.1.2, h.1.2⟩
end Go.Proofs.Ytkmfhadanbfadaa
