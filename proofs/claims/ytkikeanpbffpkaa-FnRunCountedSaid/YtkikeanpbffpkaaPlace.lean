/- The first free cell: freePlace and l10Place. -/
import Derived.Test.YtkikeanpbffpkaaChecked
import Derived.Test.YtkikeanpbffpkaaGrData
import Derived.Test.YtkikeanpbffpkaaGrSz
import Derived.Test.YtkikeanpbffpkaaGrOwn
namespace Go.Proofs.Ytkikeanpbffpkaa
open Go.RowKit
set_option maxRecDepth 100000
set_option linter.unusedSimpArgs false
set_option linter.unusedVariables false
set_option maxHeartbeats 400000 in
theorem freePlace_any (v : Value) (h : HeapM) (w : World) (hv : RH w v h) (hn : h.cells.length ≤ 1048576) :
    Calls Try.prog 30 #[v] w fun e w' => e = .returned (.int .i64 (freeAt h.cells)) ∧ Below w.heap.size w w' := by
  obtain ⟨A, c, A', c', rfl, hc, -, hl1, -⟩ := hv
  go_enter Try.func30, Try.ntmps30
  go_wp2
  go_loopw [8] (fun i wr => ∃ (k : Nat), k ≤ h.cells.length ∧ i = .int .i64 k ∧ Hid (noneB notUsed h.cells k) ∧ wr.cell? ⟨w.heap.size, 0, none⟩ = some (.slice A h.cells.length c) ∧ Below w.heap.size w wr) (fun i _ => h.cells.length - (intOf i).toNat)
  case atStart => exact ⟨0, by omega, rfl, noneB_zero _ _, by simp [go_sem], blw_⟩
  case round =>
    obtain ⟨k, hk, rfl, HS, k0, hB⟩ := hrel
    have hz : w.heap.size < wr.heap.size := World.block_lt_of_cell? wr _ k0
    by_cases hlt : k < h.cells.length
    · obtain ⟨b, o, x, Ar, cr, rfl, gx, c1, c2, c3, -, -, hb⟩ := (hc.below hB).at_ hlt
      have GX := Lib.hid gx
      clear gx hc
      cases hu : x.used
      · rw [hu] at c1
        have HF := Lib.hid (freeAt_some HS.out GX.out hu)
        clear hu
        go_wp2
        go_ret
        exact ⟨ret_int (by rw [HF.out]), blw_⟩
      · rw [hu] at c1
        have HN : Hid (noneB notUsed h.cells (k + 1)) := noneB_succ HS.out GX.out (by simp [notUsed, hu])
        clear hu
        go_wp2
        go_roundw
        case rel => exact ⟨k + 1, by omega, by go_num, HN, by simp [go_sem, k0, hz], blw_⟩
        case measure => simp [intOf]; omega
    · have hke : k = h.cells.length := by omega
      have HF : Hid (freeAt h.cells = h.cells.length) := freeAt_none (by have := HS.out; rwa [hke] at this)
      clear hke
      go_wp2
      go_ret
      exact ⟨ret_int (by rw [HF.out]), blw_⟩
set_option maxHeartbeats 400000 in
theorem l10Place_any (v : Value) (h : HeapM) (w : World) (hv : RH w v h) (hn : h.cells.length ≤ 1048576) :
    Calls Try.prog 33 #[v] w fun e w' => e = .returned (.int .i64 (freeAt h.cells)) ∧ Below w.heap.size w w' := by
  obtain ⟨A, c, A', c', rfl, hc, -, hl1, -⟩ := hv
  have hB : Below w.heap.size w (w.alloc (.cells #[.slice A h.cells.length c, .slice A' h.roots.length c'] 26)) := blw_
  have HC := Lib.hid (hc.below hB)
  have k0 : ((w.alloc (.cells #[.slice A h.cells.length c, .slice A' h.roots.length c'] 26))).cell? ⟨w.heap.size, 0, none⟩ = some (.slice A h.cells.length c) := by simp [go_sem]
  clear hc
  go_enter Try.func33, Try.ntmps33
  go_wp2
  generalize (w.alloc (.cells #[.slice A h.cells.length c, .slice A' h.roots.length c'] 26)) = W at *
  go_loop [3] (fun i => ∃ (k : Nat), k ≤ h.cells.length ∧ i = .int .i64 k ∧ Hid (noneB notUsed h.cells k)) (fun i => h.cells.length - (intOf i).toNat)
  case atStart => exact ⟨0, by omega, rfl, noneB_zero _ _⟩
  case round =>
    obtain ⟨k, hk, rfl, HS⟩ := hrel
    by_cases hlt : k < h.cells.length
    · obtain ⟨b, o, x, Ar, cr, rfl, gx, c1, c2, c3, -, -, hb⟩ := HC.out.at_ hlt
      have GX := Lib.hid gx
      clear gx
      cases hu : x.used
      · rw [hu] at c1
        have HF := Lib.hid (freeAt_some HS.out GX.out hu)
        clear hu
        go_wp2
        go_ret
        exact ⟨ret_int (by rw [HF.out]), hB⟩
      · rw [hu] at c1
        have HN : Hid (noneB notUsed h.cells (k + 1)) := noneB_succ HS.out GX.out (by simp [notUsed, hu])
        clear hu
        go_wp2
        go_round
        case rel => exact ⟨k + 1, by omega, by go_num, HN⟩
        case measure => simp [intOf]; omega
    · have hke : k = h.cells.length := by omega
      have HF : Hid (freeAt h.cells = h.cells.length) := freeAt_none (by have := HS.out; rwa [hke] at this)
      clear hke
      go_wp2
      go_ret
      exact ⟨ret_int (by rw [HF.out]), hB⟩
end Go.Proofs.Ytkikeanpbffpkaa
