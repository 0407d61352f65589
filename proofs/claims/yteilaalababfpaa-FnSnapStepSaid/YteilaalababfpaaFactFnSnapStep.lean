/- The closed facts of the row FnSnapStep: its cells are what the program forces. -/
import Derived.Test.YteilaalababfpaaRows
import Derived.ProofKit
namespace Go.Proofs.Yteilaalababfpaa
set_option maxRecDepth 100000
set_option maxHeartbeats 40000000 in
theorem factsFn_SnapStep : joinedFacts Try.pinned.checked.prog 5 Try.f5 Rows.fnSnapStepSpec Rows.fnSnapStepRow = true := by
  unfold joinedFacts
  repeat (with_reducible refine Bool.and_eq_true_iff.2 ⟨?_, ?_⟩)
  all_goals (as_aux_lemma => kernel_rfl)
end Go.Proofs.Yteilaalababfpaa
