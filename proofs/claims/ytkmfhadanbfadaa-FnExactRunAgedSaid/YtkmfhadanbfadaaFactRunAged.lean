/- The closed facts of the row FnExactRunAged: its cells are what the program forces. -/
import Derived.Test.YtkmfhadanbfadaaRows
import Derived.ProofKit
namespace Go.Proofs.Ytkmfhadanbfadaa
set_option maxRecDepth 100000
set_option maxHeartbeats 40000000 in
theorem facts_RunAged : joinedFacts Try.pinned.checked.prog 14 Try.f14 Rows.fnExactRunAgedSpec Rows.fnExactRunAgedRow = true := by
  unfold joinedFacts
  repeat (with_reducible refine Bool.and_eq_true_iff.2 ⟨?_, ?_⟩)
  all_goals (as_aux_lemma => kernel_rfl)
end Go.Proofs.Ytkmfhadanbfadaa
