/- The closed facts of the row FnExactRunSnap: its cells are what the program forces. -/
import Derived.Test.YtdkhpmlimnfgpaaRows
import Derived.ProofKit
namespace Go.Proofs.Ytdkhpmlimnfgpaa
set_option maxRecDepth 100000
set_option maxHeartbeats 40000000 in
theorem facts_RunSnap : joinedFacts Try.pinned.checked.prog 7 Try.f7 Rows.fnExactRunSnapSpec Rows.fnExactRunSnapRow = true := by
  unfold joinedFacts
  repeat (with_reducible refine Bool.and_eq_true_iff.2 ⟨?_, ?_⟩)
  all_goals (as_aux_lemma => kernel_rfl)
end Go.Proofs.Ytdkhpmlimnfgpaa
