/- What FnSlideHeap needs beside the merged texts: of the program. -/
import Derived.Test.YtngmkflmjjkjaaaChecked
import Derived.Deep.QuietTactic
import Derived.BigQuiet
import Derived.IntWalk
import Derived.Test.YtngmkflmjjkjaaaGrSame
import Derived.Test.YtngmkflmjjkjaaaSlideX
namespace Go.Proofs.Ytngmkflmjjkjaaa
open Go.RowKit
set_option maxRecDepth 100000
set_option linter.unusedVariables false
set_option linter.unusedSimpArgs false
theorem blw_ {P : Prop} (h : P := by exact (by repeat (first | ((with_reducible refine Below.setc ?_ ?_ _); focus (first | omega | (simp; done) | (simp; omega))) | ((with_reducible refine Below.allocc ?_ ?_ _); focus (first | omega | (simp; done) | (simp; omega))) | (with_reducible refine Below.drew ?_) | (with_reducible refine Below.drewn ?_) | (with_reducible assumption) | (with_reducible exact Below.refl _ _) | ((with_reducible refine Below.stepp (by with_reducible assumption) ?_ ?_); focus (first | omega | (simp; done) | (simp; omega)))))) : P := h
set_option maxHeartbeats 400000 in
theorem implSameInts_any (A A' : Option Addr) (xs ys : List Int) (c c' : Nat) (w : World) (hx : RF fi w A xs) (hy : RF fi w A' ys) (hn : xs.length ≤ 9223372036854775807) (hn2 : ys.length ≤ 9223372036854775807) :
    Calls Try.prog 76 #[.slice A xs.length c, .slice A' ys.length c'] w fun e w' => e = .returned (.bool (eqB xs ys)) ∧ ∃ n, w' = w.drewN n := by
  by_cases hl : xs.length = ys.length
  · have HL := Lib.hid hl
    have hl2 : ((xs.length : Int) != (ys.length : Int)) = false := by simp [hl]
    have hl3 : xs.length ≤ ys.length := by omega
    clear hl
    go_enter Try.func76, Try.ntmps76
    go_wp2
    go_loopw [13] (fun i wr => ∃ (k : Nat), k ≤ xs.length ∧ i = .int .i64 k ∧ Hid (xs.take k = ys.take k) ∧ ∃ n, wr = w.drewN n) (fun i _ => xs.length - (intOf i).toNat)
    case atStart => exact ⟨0, by omega, rfl, rfl, 0, rfl⟩
    case round =>
      obtain ⟨k, hk, rfl, HT, n, rfl⟩ := hrel
      clear hl2
      by_cases hlt : k < xs.length
      · obtain ⟨b, o, x, rfl, gx, c1, hb⟩ := hx.at_ hlt
        obtain ⟨b', o', y, rfl, gy, c2, hb'⟩ := hy.at_ (k := k) (by omega)
        have GX := Lib.hid gx
        have GY := Lib.hid gy
        clear gx gy hx hy
        have d1 : w.cell? ⟨b, o + k, none⟩ = some (.int .i64 x) := c1
        have d2 : w.cell? ⟨b', o' + k, none⟩ = some (.int .i64 y) := c2
        have i1 : (0 : Int) ≤ (k : Int) := by omega
        have i2 : (k : Int) < (xs.length : Int) := by omega
        have i3 : (k : Int) < (ys.length : Int) := by omega
        clear c1 c2
        by_cases he : x = y
        · have hne : (x != y) = false := by simp [he]
          have HE := Lib.hid he
          clear he
          go_wp2
          go_quiet (fail)
          go_wp2
          go_roundw
          case rel => exact ⟨k + 1, by omega, by go_num, take_eq_step HT.out GX.out GY.out HE.out, _, by first | rfl | (simp; rfl)⟩
          case measure => simp [intOf]; omega
        · have hne : (x != y) = true := by simp [he]
          have HE := Lib.hid he
          clear he
          go_wp2
          go_quiet (fail)
          go_wp2
          go_ret
          exact ⟨ret_bool (eqB_ne (ne_of_get GX.out GY.out HE.out)).symm, _, by first | rfl | (simp; rfl)⟩
      · have hke : k = xs.length := by omega
        have HK := Lib.hid hke
        clear hke
        go_wp2
        go_ret
        refine ⟨ret_bool ?_, n, rfl⟩
        have h1 := HT.out
        rw [HK.out, List.take_length, HL.out, List.take_length] at h1
        exact (eqB_of h1).symm
  · have hl2 : ((xs.length : Int) != (ys.length : Int)) = true := by simp; omega
    go_enter Try.func76, Try.ntmps76
    go_wp2
    go_ret
    exact ⟨ret_bool (eqB_ne (fun e => hl (by rw [e]))).symm, 0, rfl⟩
end Go.Proofs.Ytngmkflmjjkjaaa
