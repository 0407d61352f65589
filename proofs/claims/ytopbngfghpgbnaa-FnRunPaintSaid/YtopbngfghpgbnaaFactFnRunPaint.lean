/- The closed facts of the row FnRunPaint: its cells are what the program forces. -/
import Derived.Test.YtopbngfghpgbnaaRows
import Derived.ProofKit
namespace Go.Proofs.Ytopbngfghpgbnaa
set_option maxRecDepth 100000
set_option maxHeartbeats 40000000 in
theorem factsFn_RunPaint : joinedFacts Try.pinned.checked.prog 9 Try.f9 Rows.fnRunPaintSpec Rows.fnRunPaintRow = true := by
  unfold joinedFacts
  repeat (with_reducible refine Bool.and_eq_true_iff.2 ⟨?_, ?_⟩)
  all_goals (as_aux_lemma => kernel_rfl)
end Go.Proofs.Ytopbngfghpgbnaa
