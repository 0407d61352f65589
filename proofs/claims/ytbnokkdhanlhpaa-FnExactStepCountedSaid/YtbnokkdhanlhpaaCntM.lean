/- What StepCounted and RunCounted return is small. -/
import Derived.Test.YtbnokkdhanlhpaaGrCntI
import Derived.Test.YtbnokkdhanlhpaaStepH
import Derived.Test.YtbnokkdhanlhpaaGrSnap
namespace Go.Proofs.Ytbnokkdhanlhpaa
set_option linter.unusedSimpArgs false
set_option linter.unusedVariables false
abbrev SmallN (p : CountM) : Prop := SmallH p.store ∧ p.counts.length ≤ 1048576
theorem small_zeroN : SmallN zeroC := ⟨small_zeroH, by simp [zeroC]⟩
theorem small_countOk {p : CountM} (h : countOk p = true) : SmallN p := by
  obtain ⟨h1, h2⟩ := countOk_iff.1 h
  have h4 := (valid_small h1).1
  exact ⟨small_valid h1, by rw [h2, cntsM_len]; omega⟩
theorem small_StepCounted (p : CountM) (o : CmdM) : SmallN (stepCountM p o).1 := by
  unfold stepCountM
  split
  · rename_i hh
    simp only [Bool.and_eq_true] at hh
    split
    · rename_i hc
      exact small_countOk (freeC_ok (canF_exec (countOk_iff.1 hh.1).1 hh.2 hc))
    · exact small_countOk hh.1
  · exact small_zeroN
theorem small_runCountN (l : List CmdM) : ∀ (p : CountM), SmallN p → SmallN (l.foldl (fun p o => (stepCountM p o).1) p) := by
  induction l with
  | nil => exact fun p h => h
  | cons o l ih => exact fun p h => ih _ (small_StepCounted p o)
theorem small_RunCounted (l : List CmdM) : SmallN (runCountM l) := by
  unfold runCountM
  split
  · exact small_runCountN l _ (small_countOk (by decide))
  · exact small_zeroN
end Go.Proofs.Ytbnokkdhanlhpaa
