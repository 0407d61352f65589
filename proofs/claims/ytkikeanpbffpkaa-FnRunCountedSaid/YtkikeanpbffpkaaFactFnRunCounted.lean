/- The closed facts of the row FnRunCounted: its cells are what the program forces. -/
import Derived.Test.YtkikeanpbffpkaaRows
import Derived.ProofKit
namespace Go.Proofs.Ytkikeanpbffpkaa
set_option maxRecDepth 100000
set_option maxHeartbeats 40000000 in
theorem factsFn_RunCounted : joinedFacts Try.pinned.checked.prog 4 Try.f4 Rows.fnRunCountedSpec Rows.fnRunCountedRow = true := by
  unfold joinedFacts
  repeat (with_reducible refine Bool.and_eq_true_iff.2 ⟨?_, ?_⟩)
  all_goals (as_aux_lemma => kernel_rfl)
end Go.Proofs.Ytkikeanpbffpkaa
