/- StepHeap of the program and of the reference return stepM, in new memory. -/
import Derived.Test.YtkmfhadanbfadaaChecked
import Derived.Deep.DeepCutAuto
import Derived.Test.YtkmfhadanbfadaaGrExec
import Derived.Test.YtkmfhadanbfadaaGrExecS
import Derived.Test.YtkmfhadanbfadaaCmdQ
import Derived.Test.YtkmfhadanbfadaaCmdQS
import Derived.Test.YtkmfhadanbfadaaGrSz
namespace Go.Proofs.Ytkmfhadanbfadaa
open Go.RowKit
set_option maxRecDepth 100000
set_option linter.unusedSimpArgs false
set_option linter.unusedVariables false
theorem OH.zero {lo : Nat} {w : World} : OH lo w (.agg #[.slice none 0 0, .slice none 0 0]) zeroH :=
  ⟨none, 0, none, 0, [], rfl, rfl, ⟨OC.nil_, OF.nil, by simp [blk, blks], by simp, by simp [zeroH]⟩, by simp [hblks, blk, blks]⟩
theorem possO_hid {h : HeapM} {o : CmdM} {b : Bool} (hb : possO h o = b) (hv : validM h = true) (hc : cmdOk o = true) : possM h o = b := (possM_ok hv hc).trans hb
theorem small_valid {h : HeapM} (hv : validM h = true) : SmallH h := by
  obtain ⟨v1, v2, v3⟩ := valid_small hv
  exact ⟨by omega, fun d hd => by have := v3 d hd; omega, by omega⟩
theorem small_exec {h : HeapM} (hv : validM h = true) {o : CmdM} (hc : cmdOk o = true) (at_ : Nat) : SmallH (execM h o at_) := by
  obtain ⟨v1, v2, v3⟩ := valid_small hv
  have hb := (cmdOk_iff.1 hc).2.2.1
  have h1 : (execM h o at_).cells.length ≤ 41 := by
    unfold execM putCell
    repeat' split
    all_goals simp [setRef_length, setData_length]
    all_goals omega
  have h2 : (execM h o at_).roots.length = 4 := by
    unfold execM
    repeat' split
    all_goals simp [v2]
  refine ⟨by omega, ?_, by omega⟩
  intro d hd
  have hset : ∀ (k : Nat) (c : CellM), d ∈ h.cells.set k c → d ∈ h.cells ∨ d = c := fun k c hd => List.mem_or_eq_of_mem_set hd
  have hnew : o.op = 1 → (newCell o).refs.length ≤ 3 := fun h9 => by
    have : maxB o.op = 3 := by rw [h9]; rfl
    rw [this] at hb
    simp [newCell]; omega
  unfold execM putCell at hd
  split at hd
  · rename_i h9
    have h10 := hnew h9
    dsimp only at hd
    split at hd
    · rcases List.mem_append.1 hd with hd | hd
      · have := v3 d hd; omega
      · have : d = newCell o := by simpa using hd
        rw [this]; omega
    · rcases hset _ _ hd with hd | rfl
      · have := v3 d hd; omega
      · omega
  · split at hd
    · have := v3 d hd; omega
    · split at hd
      · dsimp only at hd
        unfold setRef at hd
        split at hd
        · rename_i c hc2
          rcases hset _ _ hd with hd | rfl
          · have := v3 d hd; omega
          · have := v3 _ (List.mem_of_getElem? hc2)
            simp only [List.length_set]; omega
        · have := v3 d hd; omega
      · split at hd
        · have := v3 d hd; omega
        · split at hd
          · have := v3 d hd; omega
          · dsimp only at hd
            unfold setData at hd
            split at hd
            · rename_i c hc2
              rcases hset _ _ hd with hd | rfl
              · have := v3 d hd; omega
              · have := v3 _ (List.mem_of_getElem? hc2)
                dsimp only; omega
            · have := v3 d hd; omega
end Go.Proofs.Ytkmfhadanbfadaa
