/- The closed facts of the row FnRunSnap: its cells are what the program forces. -/
import Derived.Test.YteilaalababfpaaRows
import Derived.ProofKit
namespace Go.Proofs.Yteilaalababfpaa
set_option maxRecDepth 100000
set_option maxHeartbeats 40000000 in
theorem factsFn_RunSnap : joinedFacts Try.pinned.checked.prog 9 Try.f9 Rows.fnRunSnapSpec Rows.fnRunSnapRow = true := by
  unfold joinedFacts
  repeat (with_reducible refine Bool.and_eq_true_iff.2 ⟨?_, ?_⟩)
  all_goals (as_aux_lemma => kernel_rfl)
end Go.Proofs.Yteilaalababfpaa