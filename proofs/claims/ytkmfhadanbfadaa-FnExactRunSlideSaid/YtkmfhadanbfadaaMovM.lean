/- What RunCopy and RunSlide return is small. -/
import Derived.Test.YtkmfhadanbfadaaGrData
import Derived.Test.YtkmfhadanbfadaaMovI
import Derived.Test.YtkmfhadanbfadaaStepH
namespace Go.Proofs.Ytkmfhadanbfadaa
set_option linter.unusedSimpArgs false
set_option linter.unusedVariables false
theorem small_gath {h : HeapM} (hv : validM h = true) {order : List Int} (ho : OrdOk h order) : SmallH (gathM h order) := by
  obtain ⟨v1, v2, v3⟩ := valid_small hv
  have := ho.len
  refine ⟨by show (order.map _).length ≤ _; rw [List.length_map]; omega, fun d hd => ?_, by show (h.roots.map _).length ≤ _; rw [List.length_map]; omega⟩
  obtain ⟨r, -, rfl⟩ := List.mem_map.1 hd
  unfold movedC
  split
  · next c hc => show (c.refs.map _).length ≤ _; rw [List.length_map]; have := v3 c (List.mem_of_getElem? hc); omega
  · simp
theorem small_slide (h : HeapM) : SmallH (slideHeapM h) := by
  rcases bool_ft (validM h) with hv | hv
  · rw [slideHeap_no hv]; exact small_zero
  · rw [slideHeap_yes hv]; exact small_gath hv (slide_ok h)
theorem small_moveFrom {mv : HeapM → HeapM} (hm : ∀ h, SmallH (mv h)) (limit : Int) (l : List CmdM) : ∀ h, SmallH h → SmallH (moveFrom mv limit h l).1 := by
  induction l with
  | nil => intro h hs; exact hs
  | cons o l ih =>
    intro h hs
    unfold moveFrom
    split
    · split
      · exact hm h
      · exact ih _ (small_StepHeap _ _)
    · exact ih _ (small_StepHeap _ _)
theorem small_runMove {mv : HeapM → HeapM} (hm : ∀ h, SmallH (mv h)) (l : List CmdM) (limit : Int) : SmallH (runMoveM mv l limit).1 := by
  unfold runMoveM
  split
  · exact small_moveFrom hm limit l _ (small_valid valid_empty)
  · exact small_zero
theorem small_RunSlide (l : List CmdM) (limit : Int) : SmallH (runMoveM slideHeapM l limit).1 := small_runMove small_slide l limit
end Go.Proofs.Ytkmfhadanbfadaa
