/- What StepAged, CollectYoung and RunAged return is small. -/
import Derived.Test.YtkmfhadanbfadaaGrStep
import Derived.Test.YtkmfhadanbfadaaGrKeep
import Derived.Test.YtkmfhadanbfadaaCollY
namespace Go.Proofs.Ytkmfhadanbfadaa
set_option linter.unusedSimpArgs false
set_option linter.unusedVariables false
abbrev SmallT (p : TwoM) : Prop := SmallH p.store ∧ p.x.length ≤ 1048576 ∧ p.y.length ≤ 1048576
theorem small_zeroT : SmallT zeroT := ⟨small_zeroH, by simp [zeroT], by simp [zeroT]⟩
theorem small_aged {p : TwoM} (h : agedM p = true) : SmallT p := by
  obtain ⟨h1, h2, h3⟩ := agedM_parts h
  have h4 := (valid_small h1).1
  exact ⟨small_valid h1, by omega, by omega⟩
theorem noteM_len (p : TwoM) (o : CmdM) : (noteM p o).length = p.y.length := by unfold noteM; split <;> simp
theorem small_StepAged (p : TwoM) (o : CmdM) : SmallT (agedCmdM p o).1 := by
  unfold agedCmdM
  split
  · rename_i hh
    simp only [Bool.and_eq_true] at hh
    obtain ⟨h1, h2, h3⟩ := agedM_parts hh.1
    have h4 := (valid_small h1).1
    have hs := small_exec h1 hh.2 (freeAt p.store.cells)
    split
    · unfold agedDo
      split
      · exact ⟨hs, by simp; omega, by simp; omega⟩
      · exact ⟨hs, by show p.x.length ≤ _; omega, by show (noteM p o).length ≤ _; rw [noteM_len]; omega⟩
    · exact small_aged hh.1
  · exact small_zeroT
end Go.Proofs.Ytkmfhadanbfadaa
