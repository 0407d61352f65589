/- The closed facts of the row FnExactStepCounted: its cells are what the program forces. -/
import Derived.Test.YtbnokkdhanlhpaaRows
import Derived.ProofKit
namespace Go.Proofs.Ytbnokkdhanlhpaa
set_option maxRecDepth 100000
set_option maxHeartbeats 40000000 in
theorem facts_StepCounted : joinedFacts Try.pinned.checked.prog 6 Try.f6 Rows.fnExactStepCountedSpec Rows.fnExactStepCountedRow = true := by
  unfold joinedFacts
  repeat (with_reducible refine Bool.and_eq_true_iff.2 ⟨?_, ?_⟩)
  all_goals (as_aux_lemma => kernel_rfl)
end Go.Proofs.Ytbnokkdhanlhpaa
