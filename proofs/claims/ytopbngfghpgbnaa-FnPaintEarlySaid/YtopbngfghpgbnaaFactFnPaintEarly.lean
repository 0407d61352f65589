/- The closed facts of the row FnPaintEarly: its cells are what the program forces. -/
import Derived.Test.YtopbngfghpgbnaaRows
import Derived.ProofKit
namespace Go.Proofs.Ytopbngfghpgbnaa
set_option maxRecDepth 100000
set_option maxHeartbeats 40000000 in
theorem factsFn_PaintEarly : joinedFacts Try.pinned.checked.prog 8 Try.f8 Rows.fnPaintEarlySpec Rows.fnPaintEarlyRow = true := by
  unfold joinedFacts
  repeat (with_reducible refine Bool.and_eq_true_iff.2 ⟨?_, ?_⟩)
  all_goals (as_aux_lemma => kernel_rfl)
end Go.Proofs.Ytopbngfghpgbnaa
