/- The closed facts of the row FnAgedFull: its cells are what the program forces. -/
import Derived.Test.YtmlgndeihfpfgaaRows
import Derived.ProofKit
namespace Go.Proofs.Ytmlgndeihfpfgaa
set_option maxRecDepth 100000
set_option maxHeartbeats 40000000 in
theorem factsFn_AgedFull : joinedFacts Try.pinned.checked.prog 5 Try.f5 Rows.fnAgedFullSpec Rows.fnAgedFullRow = true := by
  unfold joinedFacts
  repeat (with_reducible refine Bool.and_eq_true_iff.2 ⟨?_, ?_⟩)
  all_goals (as_aux_lemma => kernel_rfl)
end Go.Proofs.Ytmlgndeihfpfgaa
