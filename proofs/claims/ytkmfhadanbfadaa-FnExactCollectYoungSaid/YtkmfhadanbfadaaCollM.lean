/- What StepAged, CollectYoung and RunAged return is small. -/
import Derived.Test.YtkmfhadanbfadaaStepGM
import Derived.Test.YtkmfhadanbfadaaCollA
import Derived.Test.YtkmfhadanbfadaaCollY
namespace Go.Proofs.Ytkmfhadanbfadaa
set_option linter.unusedSimpArgs false
set_option linter.unusedVariables false
theorem small_drop {h : HeapM} (hs : SmallH h) {dead : List Bool} (hd : dead.length = h.cells.length) : SmallH (dropM h dead) := by
  refine ⟨?_, fun c hc => ?_, hs.roots⟩
  · show (dropCs h.cells dead).length ≤ _; rw [dropCs_len hd]; exact hs.cells
  · obtain ⟨i, hi⟩ := List.mem_iff_getElem?.1 hc
    have hi2 : (dropCs h.cells dead)[i]? = some c := hi
    unfold dropCs at hi2
    rw [List.getElem?_zipWith] at hi2
    rcases h1 : h.cells[i]? with _ | x
    · rw [h1] at hi2; simp at hi2
    · rcases h2 : dead[i]? with _ | d
      · rw [h1, h2] at hi2; simp at hi2
      · rw [h1, h2] at hi2
        simp only [Option.some.injEq] at hi2
        subst hi2
        cases d
        · exact hs.refs x (List.mem_of_getElem? h1)
        · simp [freeCell]
abbrev SmallT (p : TwoM) : Prop := SmallH p.store ∧ p.x.length ≤ 1048576 ∧ p.y.length ≤ 1048576
theorem small_zeroT : SmallT zeroT := ⟨small_zeroH, by simp [zeroT], by simp [zeroT]⟩
theorem small_CollectYoung (p : TwoM) : SmallT (collectYoungM p).1 := by
  rcases bool_ft (agedM p) with h | h
  · rw [collectYoung_no h]; exact small_zeroT
  · rw [collectYoung_yes h]
    obtain ⟨h1, h2, h3⟩ := agedM_parts h
    have h4 := (valid_small h1).1
    have hs := small_valid h1
    have hl := keepM_len2 h
    refine ⟨small_drop hs (by rw [nots_len, hl]), ?_, ?_⟩
    · show (keepM p).length ≤ _; omega
    · show (List.replicate _ _).length ≤ _; simp; omega
end Go.Proofs.Ytkmfhadanbfadaa
