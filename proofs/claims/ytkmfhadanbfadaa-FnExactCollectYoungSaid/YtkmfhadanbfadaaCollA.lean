/- CollectAged of both return collectAgedM, in new memory. -/
import Derived.Test.YtkmfhadanbfadaaChecked
import Derived.Deep.RegionHeld3
import Derived.Deep.DeepCutAuto
import Derived.Test.YtkmfhadanbfadaaKeep
import Derived.Test.YtkmfhadanbfadaaAgedVS
namespace Go.Proofs.Ytkmfhadanbfadaa
open Go.RowKit
set_option maxRecDepth 100000
set_option linter.unusedSimpArgs false
set_option linter.unusedVariables false
theorem agedM_parts {p : TwoM} (h : agedM p = true) : validM p.store = true ∧ p.x.length = p.store.cells.length ∧ p.y.length = p.store.cells.length := by
  unfold agedM at h
  simp only [Bool.and_eq_true, decide_eq_true_eq] at h
  exact ⟨h.1.1.1, h.1.1.2, h.1.2⟩
end Go.Proofs.Ytkmfhadanbfadaa
