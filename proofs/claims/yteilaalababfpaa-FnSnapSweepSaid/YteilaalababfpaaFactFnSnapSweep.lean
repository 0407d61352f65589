/- The closed facts of the row FnSnapSweep: its cells are what the program forces. -/
import Derived.Test.YteilaalababfpaaRows
import Derived.ProofKit
namespace Go.Proofs.Yteilaalababfpaa
set_option maxRecDepth 100000
set_option maxHeartbeats 40000000 in
theorem factsFn_SnapSweep : joinedFacts Try.pinned.checked.prog 8 Try.f8 Rows.fnSnapSweepSpec Rows.fnSnapSweepRow = true := by
  unfold joinedFacts
  repeat (with_reducible refine Bool.and_eq_true_iff.2 ⟨?_, ?_⟩)
  all_goals (as_aux_lemma => kernel_rfl)
end Go.Proofs.Yteilaalababfpaa
