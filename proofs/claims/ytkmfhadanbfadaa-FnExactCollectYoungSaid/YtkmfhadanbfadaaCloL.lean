/- A set as a list of flags. -/
import Derived.Test.YtkmfhadanbfadaaChecked
import Derived.Test.YtkmfhadanbfadaaTo
import Derived.Test.YtkmfhadanbfadaaGrOwn
import Derived.Test.YtkmfhadanbfadaaCopy
import Derived.Test.YtkmfhadanbfadaaSet
import Derived.Test.YtkmfhadanbfadaaGrData
namespace Go.Proofs.Ytkmfhadanbfadaa
open Go.RowKit
set_option maxRecDepth 100000
set_option linter.unusedSimpArgs false
set_option linter.unusedVariables false
def listB (s n : Nat) : List Bool := (List.range n).map s.testBit
def listBk (s n j : Nat) : List Bool := (List.range n).map fun k => decide (k < j) && s.testBit k
theorem listB_len (s n : Nat) : (listB s n).length = n := by simp [listB]
theorem listBk_len (s n j : Nat) : (listBk s n j).length = n := by simp [listBk]
theorem listBk_zero (s n : Nat) : listBk s n 0 = List.replicate n false := by
  apply List.ext_getElem
  · simp [listBk]
  · intro i h1 h2; simp [listBk]
theorem listBk_full (s n : Nat) : listBk s n n = listB s n := by
  apply List.ext_getElem
  · simp [listBk, listB]
  · intro i h1 h2; simp [listBk] at h1; simp [listBk, listB, h1]
theorem listBk_set (s n j : Nat) (h : j < n) : (listBk s n j).set j (s.testBit j) = listBk s n (j + 1) := by
  apply List.ext_getElem
  · simp [listBk]
  · intro i h1 h2
    rw [List.getElem_set]
    simp only [listBk, List.getElem_map, List.getElem_range]
    by_cases e : j = i
    · subst e; simp
    · have e2 : (decide (i < j)) = decide (i < j + 1) := by rw [decide_eq_decide]; omega
      rw [if_neg e, e2]
set_option maxHeartbeats 4000000 in
theorem list_any (s n : Nat) (w : World) (hs : s < 18446744073709551616) (hn : n ≤ 64) :
    Calls Try.prog 164 #[.int .u64 (s : Int), .int .i64 (n : Int)] w fun e w' => e = .returned (.slice (some ⟨w.heap.size, 0, none⟩) n n) ∧ OF 4 fb w' (some ⟨w.heap.size, 0, none⟩) n (listB s n) ∧ Below w.heap.size w w' := by
  have hmk := mk_bools n (by omega)
  go_enter Try.func164, Try.ntmps164
  go_wp2_with fail
  have hO0 : OF 4 fb (w.alloc (.cells (rowF fb (List.replicate n false)) 4)) (some ⟨w.heap.size, 0, none⟩) n (listBk s n 0) := by
    rw [listBk_zero]
    exact OF.of_blkn (by simp) (heap_alloc_at _ _ _ rfl) (by simp only [maxLen, List.length_replicate]; omega)
  have hX0 : Below w.heap.size w (w.alloc (.cells (rowF fb (List.replicate n false)) 4)) := (by repeat (first | ((with_reducible refine Below.setc ?_ ?_ _); focus (first | omega | (simp; done) | (simp; omega))) | ((with_reducible refine Below.allocc ?_ ?_ _); focus (first | omega | (simp; done) | (simp; omega))) | (with_reducible refine Below.drew ?_) | (with_reducible refine Below.drewn ?_) | (with_reducible assumption) | (with_reducible exact Below.refl _ _) | ((with_reducible refine Below.stepp (by with_reducible assumption) ?_ ?_); focus (first | omega | (simp; done) | (simp; omega)))))
  generalize (w.alloc (.cells (rowF fb (List.replicate n false)) 4)) = W0 at *
  have HO0 := Lib.hid hO0
  clear hO0
  go_loopw [11] (fun i wr => ∃ (j : Nat), j ≤ n ∧ i = .int .i64 j ∧ Hid (OF 4 fb wr (some ⟨w.heap.size, 0, none⟩) n (listBk s n j)) ∧ Below w.heap.size w wr) (fun i _ => n - (intOf i).toNat)
  case atStart => exact ⟨0, by omega, rfl, HO0, hX0⟩
  case round =>
    obtain ⟨j, hj, rfl, HO, hBr⟩ := hrel
    by_cases hlt : j < n
    · have hx : (listBk s n j)[j]? = some ((listBk s n j)[j]'(by rw [listBk_len]; exact hlt)) := List.getElem?_eq_getElem _
      have m0 := HO.out.cell hx
      have f0 := HO.out.frozen j
      have hw0 : w.heap.size < wr.heap.size := HO.out.lt _ (by simp [blk])
      have HN : Hid (OF 4 fb (wr.setCell ⟨w.heap.size, j, none⟩ (.bool (s.testBit j))) (some ⟨w.heap.size, 0, none⟩) n (listBk s n (j + 1))) := by
        have h9 := HO.out.set_ j (s.testBit j)
        rw [listBk_set s n j hlt] at h9
        exact h9
      have hbt := hasB_nat s j
      have hbs := hBr.size
      clear hx
      go_wp2_with (go_at_call 163; refine (has_any s _ _ (by omega) hs).mono ?_; rw [hbt]; rintro e w1 ⟨rfl, rfl⟩)
      go_roundw
      case rel => exact ⟨j + 1, by omega, by go_num, HN, hBr.setCell (p := ⟨w.heap.size, j, none⟩) (Nat.le_refl _) _⟩
      case measure => simp [intOf]; omega
    · have hje : j = n := by omega
      have HF : Hid (OF 4 fb wr (some ⟨w.heap.size, 0, none⟩) n (listB s n)) := by have h9 := HO.out; rw [hje, listBk_full] at h9; exact h9
      go_wp2
      go_ret
      exact ⟨rfl, HF.out, hBr⟩
end Go.Proofs.Ytkmfhadanbfadaa
