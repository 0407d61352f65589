/- The closed facts of the row FnPaintValid: its cells are what the program forces. -/
import Derived.Test.YtopbngfghpgbnaaRows
import Derived.ProofKit
namespace Go.Proofs.Ytopbngfghpgbnaa
set_option maxRecDepth 100000
set_option maxHeartbeats 40000000 in
theorem factsFn_PaintValid : joinedFacts Try.pinned.checked.prog 3 Try.f3 Rows.fnPaintValidSpec Rows.fnPaintValidRow = true := by
  unfold joinedFacts
  repeat (with_reducible refine Bool.and_eq_true_iff.2 ⟨?_, ?_⟩)
  all_goals (as_aux_lemma => kernel_rfl)
end Go.Proofs.Ytopbngfghpgbnaa
