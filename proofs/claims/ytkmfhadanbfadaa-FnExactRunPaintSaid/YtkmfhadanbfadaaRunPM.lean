/- What RunPaint returns is small. -/
import Derived.Test.YtkmfhadanbfadaaRunP
namespace Go.Proofs.Ytkmfhadanbfadaa
set_option linter.unusedSimpArgs false
set_option linter.unusedVariables false
theorem paintM_runP {s : List Int} (l : List CmdM) : ∀ (p : PaintM) (k : Nat), paintM p = true → (∀ o ∈ l, cmdOk o = true) → paintM (runP s p l k) = true := by
  induction l with
  | nil => intro p k h _; exact h
  | cons o l ih =>
    intro p k h hc
    unfold runP
    exact ih _ _ (paintM_cmd (paintM_pre h _) (hc o (by simp))) fun x hx => hc x (by simp [hx])
theorem small_RunPaint (l : List CmdM) (s : List Int) : SmallH (runPaintM l s) := by
  unfold runPaintM
  split
  · rename_i hh
    simp only [Bool.and_eq_true] at hh
    have hc : ∀ o ∈ l, cmdOk o = true := by have h := hh.1; unfold cmdsOk at h; simp only [Bool.and_eq_true] at h; exact List.all_eq_true.1 h.2
    exact small_valid (paintM_parts (paintM_finish (paintM_runP l emptyP 0 paintM_empty hc))).1
  · exact SmallH.zero
end Go.Proofs.Ytkmfhadanbfadaa
