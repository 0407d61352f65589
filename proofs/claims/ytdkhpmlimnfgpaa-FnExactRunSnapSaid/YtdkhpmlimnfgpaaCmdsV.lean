/- CommandsValid and EmptyHeap of the program and of the reference. -/
import Derived.Test.YtdkhpmlimnfgpaaChecked
import Derived.Deep.DeepCutAuto
import Derived.Deep.RegionHeld3
import Derived.Test.YtdkhpmlimnfgpaaCmdV
import Derived.Test.YtdkhpmlimnfgpaaCmd
import Derived.Test.YtdkhpmlimnfgpaaStepH
namespace Go.Proofs.Ytdkhpmlimnfgpaa
open Go.RowKit
set_option maxRecDepth 100000
set_option linter.unusedSimpArgs false
set_option linter.unusedVariables false
theorem cmdsOk_len {l : List CmdM} (h : ¬ l.length ≤ 40) : cmdsOk l = false := by unfold cmdsOk; simp [h]
theorem cmdsOk_all {l : List CmdM} (h : l.length ≤ 40) : cmdsOk l = l.all cmdOk := by unfold cmdsOk; simp [h]
set_option maxHeartbeats 4000000 in
theorem implCommandsValid_any (A : Option Addr) (l : List CmdM) (c : Nat) (w : World) (hv : RO w A l) (hl : l.length ≤ 9223372036854775807) :
    Calls Try.prog 89 #[.slice A l.length c] w fun e w' => e = .returned (.bool (cmdsOk l)) ∧ Below w.heap.size w w' := by
  by_cases h40 : l.length ≤ 40
  · have HA := Lib.hid (cmdsOk_all h40)
    have h40' : ¬ (40 : Int) < (l.length : Int) := by omega
    go_enter Try.func89, Try.ntmps89
    go_wp2
    go_loopw [10] (fun i wr => ∃ k : Nat, k ≤ l.length ∧ i = .int .i64 k ∧ Hid (l.all cmdOk = (l.drop k).all cmdOk) ∧ Below w.heap.size w wr) (fun i _ => l.length - (intOf i).toNat)
    case atStart => exact ⟨0, by omega, rfl, rfl, Below.refl _ _⟩
    case round =>
      obtain ⟨k, hk, rfl, HS, hB⟩ := hrel
      by_cases hlt : k < l.length
      · obtain ⟨b, o, x, rfl, gx, c1, c2, c3, c4, hb⟩ := (hv.below hB).at_ hlt
        have bad : cmdOk x = false → Hid (cmdsOk l = false) := fun e => by unfold Hid; rw [HA.out, HS.out, all_drop _ gx, e]; simp
        have good : cmdOk x = true → Hid (l.all cmdOk = (l.drop (k + 1)).all cmdOk) := fun e => by unfold Hid; rw [HS.out, all_drop _ gx, e]; simp
        clear gx HS
        have hz := hB.size
        cases hok : cmdOk x
        · have HF := bad hok
          have HX := Lib.hid hok
          clear bad good hok
          go_wp2_with (go_at_call 95; refine (implCommandValid_any x _).mono ?_; rw [HX.out]; rintro e w1 ⟨rfl, hB1⟩)
          go_ret
          exact ⟨ret_bool HF.out.symm, (by repeat (first | ((with_reducible refine Below.setc ?_ ?_ _); focus (first | omega | (simp; done) | (simp; omega))) | ((with_reducible refine Below.allocc ?_ ?_ _); focus (first | omega | (simp; done) | (simp; omega))) | (with_reducible refine Below.drew ?_) | (with_reducible refine Below.drewn ?_) | (with_reducible assumption) | (with_reducible exact Below.refl _ _) | ((with_reducible refine Below.stepp (by with_reducible assumption) ?_ ?_); focus (first | omega | (simp; done) | (simp; omega)))))⟩
        · have HG := good hok
          have HX := Lib.hid hok
          clear bad good hok
          go_wp2_with (go_at_call 95; refine (implCommandValid_any x _).mono ?_; rw [HX.out]; rintro e w1 ⟨rfl, hB1⟩)
          go_roundw
          case rel => exact ⟨k + 1, by omega, by go_num, HG, (by repeat (first | ((with_reducible refine Below.setc ?_ ?_ _); focus (first | omega | (simp; done) | (simp; omega))) | ((with_reducible refine Below.allocc ?_ ?_ _); focus (first | omega | (simp; done) | (simp; omega))) | (with_reducible refine Below.drew ?_) | (with_reducible refine Below.drewn ?_) | (with_reducible assumption) | (with_reducible exact Below.refl _ _) | ((with_reducible refine Below.stepp (by with_reducible assumption) ?_ ?_); focus (first | omega | (simp; done) | (simp; omega)))))⟩
          case measure => simp [intOf]; omega
      · have hke : k = l.length := by omega
        have HT : Hid (cmdsOk l = true) := by unfold Hid; rw [HA.out, HS.out, hke]; simp
        go_wp2
        go_ret
        exact ⟨ret_bool HT.out.symm, hB⟩
  · have HF := Lib.hid (cmdsOk_len h40)
    have h40' : (40 : Int) < (l.length : Int) := by omega
    go_enter Try.func89, Try.ntmps89
    go_wp2
    go_ret
    exact ⟨ret_bool HF.out.symm, Below.refl _ _⟩
set_option maxHeartbeats 4000000 in
theorem specCommandsValid_any (A : Option Addr) (l : List CmdM) (c : Nat) (w : World) (hv : RO w A l) (hl : l.length ≤ 9223372036854775807) :
    Calls Try.prog 37 #[.slice A l.length c] w fun e w' => e = .returned (.bool (cmdsOk l)) ∧ Below w.heap.size w w' := by
  have HA : Hid (cmdsOk l = (decide (l.length ≤ 40) && l.all cmdOk)) := rfl
  go_enter Try.func37, Try.ntmps37
  go_wp2
  go_loopw [3] (fun i wr => ∃ k : Nat, k ≤ l.length ∧ i = .int .i64 k ∧ Hid (l.all cmdOk = (l.drop k).all cmdOk) ∧ Below w.heap.size w wr) (fun i _ => l.length - (intOf i).toNat)
  case atStart => exact ⟨0, by omega, rfl, rfl, Below.refl _ _⟩
  case round =>
    obtain ⟨k, hk, rfl, HS, hB⟩ := hrel
    by_cases hlt : k < l.length
    · obtain ⟨b, o, x, rfl, gx, c1, c2, c3, c4, hb⟩ := (hv.below hB).at_ hlt
      have bad : cmdOk x = false → Hid (cmdsOk l = false) := fun e => by unfold Hid; rw [HA.out, HS.out, all_drop _ gx, e]; simp
      have good : cmdOk x = true → Hid (l.all cmdOk = (l.drop (k + 1)).all cmdOk) := fun e => by unfold Hid; rw [HS.out, all_drop _ gx, e]; simp
      clear gx HS HA
      have hz := hB.size
      cases hok : cmdOk x
      · have HF := bad hok
        have HX := Lib.hid hok
        clear bad good hok
        go_wp2_with (go_at_call 93; refine (specCommandValid_any x _).mono ?_; rw [HX.out]; rintro e w1 ⟨rfl, hB1⟩)
        go_ret
        exact ⟨ret_bool HF.out.symm, (by repeat (first | ((with_reducible refine Below.setc ?_ ?_ _); focus (first | omega | (simp; done) | (simp; omega))) | ((with_reducible refine Below.allocc ?_ ?_ _); focus (first | omega | (simp; done) | (simp; omega))) | (with_reducible refine Below.drew ?_) | (with_reducible refine Below.drewn ?_) | (with_reducible assumption) | (with_reducible exact Below.refl _ _) | ((with_reducible refine Below.stepp (by with_reducible assumption) ?_ ?_); focus (first | omega | (simp; done) | (simp; omega)))))⟩
      · have HG := good hok
        have HX := Lib.hid hok
        clear bad good hok
        go_wp2_with (go_at_call 93; refine (specCommandValid_any x _).mono ?_; rw [HX.out]; rintro e w1 ⟨rfl, hB1⟩)
        go_roundw
        case rel => exact ⟨k + 1, by omega, by go_num, HG, (by repeat (first | ((with_reducible refine Below.setc ?_ ?_ _); focus (first | omega | (simp; done) | (simp; omega))) | ((with_reducible refine Below.allocc ?_ ?_ _); focus (first | omega | (simp; done) | (simp; omega))) | (with_reducible refine Below.drew ?_) | (with_reducible refine Below.drewn ?_) | (with_reducible assumption) | (with_reducible exact Below.refl _ _) | ((with_reducible refine Below.stepp (by with_reducible assumption) ?_ ?_); focus (first | omega | (simp; done) | (simp; omega)))))⟩
        case measure => simp [intOf]; omega
    · have hke : k = l.length := by omega
      have HT : Hid (cmdsOk l = decide (l.length ≤ 40)) := by unfold Hid; rw [HA.out, HS.out, hke]; simp
      clear HS HA
      go_wp2
      go_ret
      exact ⟨ret_bool (by rw [HT.out]; rw [decide_eq_decide]; omega), hB⟩
end Go.Proofs.Ytdkhpmlimnfgpaa
