/- What SnapStart returns is small, if its heap is. -/
import Derived.Test.YtdkhpmlimnfgpaaTw
namespace Go.Proofs.Ytdkhpmlimnfgpaa
theorem small_SnapStart (h : HeapM) (hs : SmallH h) : SmallH (snapStartM h).store ∧ (snapStartM h).x.length ≤ 1048576 ∧ (snapStartM h).y.length ≤ 1048576 := by
  unfold snapStartM
  split
  · next hv =>
    obtain ⟨v1, -, -⟩ := valid_small hv
    have h1 := meetL_len h.roots (List.replicate h.cells.length false, List.replicate h.cells.length false)
    simp only [List.length_replicate] at h1
    exact ⟨hs, by show (meetL _ _).1.length ≤ _; rw [h1.1]; omega, by show (meetL _ _).2.length ≤ _; rw [h1.2]; omega⟩
  · exact ⟨small_zeroH, by simp [zeroT], by simp [zeroT]⟩
end Go.Proofs.Ytdkhpmlimnfgpaa
