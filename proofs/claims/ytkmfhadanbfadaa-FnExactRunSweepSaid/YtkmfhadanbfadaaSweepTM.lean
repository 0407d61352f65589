/- What StepSweep and RunSweep return is small, if what comes in is. -/
import Derived.Test.YtkmfhadanbfadaaStepH
import Derived.Test.YtkmfhadanbfadaaGrData
namespace Go.Proofs.Ytkmfhadanbfadaa
theorem small_StepSweep (h : HeapM) (limit : Int) (o : CmdM) (hs : SmallH h) : SmallH (stepSweepM h limit o).1 := by
  unfold stepSweepM
  split
  · rename_i hv
    simp only [Bool.and_eq_true] at hv
    split
    · split
      · split
        · exact small_valid (collectSweep_valid hv.1.1)
        · exact small_exec (collectSweep_valid hv.1.1) hv.1.2 _
      · exact small_exec hv.1.1 hv.1.2 _
    · exact hs
  · exact small_zero
theorem small_sweepFrom (limit : Int) (l : List CmdM) : ∀ h, SmallH h → SmallH (sweepFrom limit h l).1 := by
  induction l with
  | nil => intro h hs; exact hs
  | cons o l ih =>
    intro h hs
    unfold sweepFrom
    split
    · exact small_StepSweep h limit o hs
    · exact ih _ (small_StepSweep h limit o hs)
theorem small_RunSweep (l : List CmdM) (limit : Int) : SmallH (runSweepM l limit).1 := by
  unfold runSweepM
  split
  · exact small_sweepFrom limit l _ ⟨by simp [emptyM], by simp [emptyM], by simp [emptyM]⟩
  · exact small_zero
end Go.Proofs.Ytkmfhadanbfadaa
