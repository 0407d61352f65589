/- What StepAged, CollectYoung and RunAged return is small. -/
import Derived.Test.YtkmfhadanbfadaaGrStep
import Derived.Test.YtkmfhadanbfadaaGrKeep
import Derived.Test.YtkmfhadanbfadaaCollY
namespace Go.Proofs.Ytkmfhadanbfadaa
set_option linter.unusedSimpArgs false
set_option linter.unusedVariables false
theorem small_drop {h : HeapM} (hs : SmallH h) {dead : List Bool} (hd : dead.length = h.cells.length) : SmallH (dropM h dead) := by
  refine ⟨?_, fun c hc => ?_, hs.roots⟩
  · show (dropCs h.cells dead).length ≤ _; rw [dropCs_len hd]; exact hs.cells
  · obtain ⟨i, hi⟩ := List.mem_iff_getElem?.1 hc
    have hi2 : (dropCs h.cells dead)[i]? = some c := hi
    unfold dropCs at hi2
    rw [List.getElem?_zipWith] at hi2
    rcases h1 : h.cells[i]? with _ | x
    · rw [h1] at hi2; simp at hi2
    · rcases h2 : dead[i]? with _ | d
      · rw [h1, h2] at hi2; simp at hi2
      · rw [h1, h2] at hi2
        simp only [Option.some.injEq] at hi2
        subst hi2
        cases d
        · exact hs.refs x (List.mem_of_getElem? h1)
        · simp [freeCell]
abbrev SmallT (p : TwoM) : Prop := SmallH p.store ∧ p.x.length ≤ 1048576 ∧ p.y.length ≤ 1048576
theorem small_zeroT : SmallT zeroT := ⟨small_zeroH, by simp [zeroT], by simp [zeroT]⟩
theorem small_aged {p : TwoM} (h : agedM p = true) : SmallT p := by
  obtain ⟨h1, h2, h3⟩ := agedM_parts h
  have h4 := (valid_small h1).1
  exact ⟨small_valid h1, by omega, by omega⟩
theorem noteM_len (p : TwoM) (o : CmdM) : (noteM p o).length = p.y.length := by unfold noteM; split <;> simp
theorem small_StepAged (p : TwoM) (o : CmdM) : SmallT (agedCmdM p o).1 := by
  unfold agedCmdM
  split
  · rename_i hh
    simp only [Bool.and_eq_true] at hh
    obtain ⟨h1, h2, h3⟩ := agedM_parts hh.1
    have h4 := (valid_small h1).1
    have hs := small_exec h1 hh.2 (freeAt p.store.cells)
    split
    · unfold agedDo
      split
      · exact ⟨hs, by simp; omega, by simp; omega⟩
      · exact ⟨hs, by show p.x.length ≤ _; omega, by show (noteM p o).length ≤ _; rw [noteM_len]; omega⟩
    · exact small_aged hh.1
  · exact small_zeroT
theorem small_CollectYoung (p : TwoM) : SmallT (collectYoungM p).1 := by
  rcases bool_ft (agedM p) with h | h
  · rw [collectYoung_no h]; exact small_zeroT
  · rw [collectYoung_yes h]
    obtain ⟨h1, h2, h3⟩ := agedM_parts h
    have h4 := (valid_small h1).1
    have hs := small_valid h1
    have hl := keepM_len2 h
    refine ⟨small_drop hs (by rw [nots_len, hl]), ?_, ?_⟩
    · show (keepM p).length ≤ _; omega
    · show (List.replicate _ _).length ≤ _; simp; omega
theorem small_tick (every : Int) (k : Nat) {p : TwoM} (h : SmallT p) : SmallT (agedTick every k p) := by
  unfold agedTick
  split
  · exact small_CollectYoung p
  · exact h
theorem small_runN (every : Int) (l : List CmdM) : ∀ k, SmallT (runAgedN every l k)
  | 0 => ⟨small_valid valid_empty, by simp [runAgedN, emptyT], by simp [runAgedN, emptyT]⟩
  | k + 1 => by
    unfold runAgedN
    split
    · exact small_tick every k (small_StepAged _ _)
    · exact small_runN every l k
theorem small_RunAged (l : List CmdM) (every : Int) : SmallT (runAgedM l every) := by
  unfold runAgedM
  split
  · exact small_runN every l _
  · exact small_zeroT
end Go.Proofs.Ytkmfhadanbfadaa
