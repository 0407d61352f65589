/- The closed facts of the row FnSweepCopy: its cells are what the program forces. -/
import Derived.Test.YtngmkflmjjkjaaaRows
import Derived.ProofKit
namespace Go.Proofs.Ytngmkflmjjkjaaa
set_option maxRecDepth 100000
set_option maxHeartbeats 40000000 in
theorem factsFn_SweepCopy : joinedFacts Try.pinned.checked.prog 11 Try.f11 Rows.fnSweepCopySpec Rows.fnSweepCopyRow = true := by
  unfold joinedFacts
  repeat (with_reducible refine Bool.and_eq_true_iff.2 ⟨?_, ?_⟩)
  all_goals (as_aux_lemma => kernel_rfl)
end Go.Proofs.Ytngmkflmjjkjaaa
