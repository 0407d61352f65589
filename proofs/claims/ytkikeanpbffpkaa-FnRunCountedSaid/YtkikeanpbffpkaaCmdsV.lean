/- CommandsValid and EmptyHeap of the program and of the reference. -/
import Derived.Test.YtkikeanpbffpkaaChecked
import Derived.Deep.DeepCutAuto
import Derived.Deep.RegionHeld3
import Derived.Test.YtkikeanpbffpkaaGrCmd
import Derived.Test.YtkikeanpbffpkaaStepH
namespace Go.Proofs.Ytkikeanpbffpkaa
open Go.RowKit
set_option maxRecDepth 100000
set_option linter.unusedSimpArgs false
set_option linter.unusedVariables false
theorem cmdsOk_len {l : List CmdM} (h : ¬ l.length ≤ 40) : cmdsOk l = false := by unfold cmdsOk; simp [h]
theorem cmdsOk_all {l : List CmdM} (h : l.length ≤ 40) : cmdsOk l = l.all cmdOk := by unfold cmdsOk; simp [h]
set_option maxHeartbeats 4000000 in
theorem implCommandsValid_any (A : Option Addr) (l : List CmdM) (c : Nat) (w : World) (hv : RO w A l) (hl : l.length ≤ 9223372036854775807) :
    Calls Try.prog 48 #[.slice A l.length c] w fun e w' => e = .returned (.bool (cmdsOk l)) ∧ Below w.heap.size w w' := by
  by_cases h40 : l.length ≤ 40
  · have HA := Lib.hid (cmdsOk_all h40)
    have h40' : ¬ (40 : Int) < (l.length : Int) := by omega
    go_enter Try.func48, Try.ntmps48
    go_wp2
    go_loopw [10] (fun i wr => ∃ k : Nat, k ≤ l.length ∧ i = .int .i64 k ∧ Hid (l.all cmdOk = (l.drop k).all cmdOk) ∧ Below w.heap.size w wr) (fun i _ => l.length - (intOf i).toNat)
    case atStart => exact ⟨0, by omega, rfl, rfl, Below.refl _ _⟩
    case round =>
      obtain ⟨k, hk, rfl, HS, hB⟩ := hrel
      by_cases hlt : k < l.length
      · obtain ⟨b, o, x, rfl, gx, c1, c2, c3, c4, hb⟩ := (hv.below hB).at_ hlt
        have bad : cmdOk x = false → Hid (cmdsOk l = false) := fun e => by unfold Hid; rw [HA.out, HS.out, all_drop _ gx, e]; simp
        have good : cmdOk x = true → Hid (l.all cmdOk = (l.drop (k + 1)).all cmdOk) := fun e => by unfold Hid; rw [HS.out, all_drop _ gx, e]; simp
        clear gx HS
        have hz := hB.size
        cases hok : cmdOk x
        · have HF := bad hok
          have HX := Lib.hid hok
          clear bad good hok
          go_wp2_with (go_at_call 25; refine (implCommandValid_any x _).mono ?_; rw [HX.out]; rintro e w1 ⟨rfl, hB1⟩)
          go_ret
          exact ⟨ret_bool HF.out.symm, blw_⟩
        · have HG := good hok
          have HX := Lib.hid hok
          clear bad good hok
          go_wp2_with (go_at_call 25; refine (implCommandValid_any x _).mono ?_; rw [HX.out]; rintro e w1 ⟨rfl, hB1⟩)
          go_roundw
          case rel => exact ⟨k + 1, by omega, by go_num, HG, blw_⟩
          case measure => simp [intOf]; omega
      · have hke : k = l.length := by omega
        have HT : Hid (cmdsOk l = true) := by unfold Hid; rw [HA.out, HS.out, hke]; simp
        go_wp2
        go_ret
        exact ⟨ret_bool HT.out.symm, hB⟩
  · have HF := Lib.hid (cmdsOk_len h40)
    have h40' : (40 : Int) < (l.length : Int) := by omega
    go_enter Try.func48, Try.ntmps48
    go_wp2
    go_ret
    exact ⟨ret_bool HF.out.symm, Below.refl _ _⟩
set_option maxHeartbeats 4000000 in
theorem specCommandsValid_any (A : Option Addr) (l : List CmdM) (c : Nat) (w : World) (hv : RO w A l) (hl : l.length ≤ 9223372036854775807) :
    Calls Try.prog 17 #[.slice A l.length c] w fun e w' => e = .returned (.bool (cmdsOk l)) ∧ Below w.heap.size w w' := by
  have HA : Hid (cmdsOk l = (decide (l.length ≤ 40) && l.all cmdOk)) := rfl
  go_enter Try.func17, Try.ntmps17
  go_wp2
  go_loopw [3] (fun i wr => ∃ k : Nat, k ≤ l.length ∧ i = .int .i64 k ∧ Hid (l.all cmdOk = (l.drop k).all cmdOk) ∧ Below w.heap.size w wr) (fun i _ => l.length - (intOf i).toNat)
  case atStart => exact ⟨0, by omega, rfl, rfl, Below.refl _ _⟩
  case round =>
    obtain ⟨k, hk, rfl, HS, hB⟩ := hrel
    by_cases hlt : k < l.length
    · obtain ⟨b, o, x, rfl, gx, c1, c2, c3, c4, hb⟩ := (hv.below hB).at_ hlt
      have bad : cmdOk x = false → Hid (cmdsOk l = false) := fun e => by unfold Hid; rw [HA.out, HS.out, all_drop _ gx, e]; simp
      have good : cmdOk x = true → Hid (l.all cmdOk = (l.drop (k + 1)).all cmdOk) := fun e => by unfold Hid; rw [HS.out, all_drop _ gx, e]; simp
      clear gx HS HA
      have hz := hB.size
      cases hok : cmdOk x
      · have HF := bad hok
        have HX := Lib.hid hok
        clear bad good hok
        go_wp2_with (go_at_call 32; refine (specCommandValid_any x _).mono ?_; rw [HX.out]; rintro e w1 ⟨rfl, hB1⟩)
        go_ret
        exact ⟨ret_bool HF.out.symm, blw_⟩
      · have HG := good hok
        have HX := Lib.hid hok
        clear bad good hok
        go_wp2_with (go_at_call 32; refine (specCommandValid_any x _).mono ?_; rw [HX.out]; rintro e w1 ⟨rfl, hB1⟩)
        go_roundw
        case rel => exact ⟨k + 1, by omega, by go_num, HG, blw_⟩
        case measure => simp [intOf]; omega
    · have hke : k = l.length := by omega
      have HT : Hid (cmdsOk l = decide (l.length ≤ 40)) := by unfold Hid; rw [HA.out, HS.out, hke]; simp
      clear HS HA
      go_wp2
      go_ret
      exact ⟨ret_bool (by rw [HT.out]; rw [decide_eq_decide]; omega), hB⟩
set_option maxHeartbeats 4000000 in
theorem implEmptyHeap_any (w : World) :
    Calls Try.prog 50 #[] w fun e w' => ∃ v', e = .returned v' ∧ OH w.heap.size w' v' emptyM ∧ Below w.heap.size w w' := by
  go_enter Try.func50, Try.ntmps50
  go_wp2
  refine bodyPost_ret (v := .agg #[.slice none 0 0, .slice (some ⟨w.heap.size + 1, 0, none⟩) 4 4]) (by simp [results, Try.results50, go_sem]) rfl ⟨_, rfl, ?_, blw_⟩
  refine ⟨none, 0, _, 4, [], rfl, rfl, ⟨OC.nil_, ?_, by simp [blk, blks], by simp, by simp [emptyM]⟩, by simp [hblks, blk, blks]⟩
  exact OF.of_blkn (xs := [-1, -1, -1, -1]) (by simp) (by rw [heap_alloc_at _ _ _ (by simp)]; rfl) (by decide)
set_option maxHeartbeats 4000000 in
theorem specEmptyHeap_any (w : World) :
    Calls Try.prog 51 #[] w fun e w' => ∃ v', e = .returned v' ∧ OH w.heap.size w' v' emptyM ∧ Below w.heap.size w w' := by
  go_enter Try.func51, Try.ntmps51
  go_wp2
  go_loopw [2] (fun i wr => ∃ (j : Nat) (S : Option Addr) (cS : Nat) (rs : List Int), j ≤ 4 ∧ i = .int .i64 j ∧ Hid (rs = List.replicate j (-1)) ∧ OF 3 fi wr S cS rs ∧ (∀ b ∈ blk S, w.heap.size + 2 ≤ b) ∧ wr.cell? ⟨w.heap.size + 1, 0, none⟩ = some (.slice none 0 0) ∧ wr.cell? ⟨w.heap.size + 1, 1, none⟩ = some (.slice S rs.length cS) ∧ (∀ o, wr.frozen? ⟨w.heap.size + 1, o, none⟩ = false) ∧ Below (w.heap.size + 1) ((w.alloc (.cells #[.slice none 0 0, .slice none 0 0] 26)).alloc (.cells #[.slice none 0 0, .slice none 0 0] 26)) wr) (fun i _ => 4 - (intOf i).toNat)
  case atStart => exact ⟨0, none, 0, [], by omega, rfl, rfl, OF.nil, by simp [blk], by simp [go_sem], by simp [go_sem], fun o => by simp [go_sem], Below.refl _ _⟩
  case round =>
    obtain ⟨j, S, cS, rs, hj, rfl, HRS, hS, hSl, e0, e1, ef, hBl⟩ := hrel
    have hBs := hBl.size
    simp only [World.size_alloc] at hBs
    have ef1 := ef 1
    have hcz : w.heap.size + 1 < wr.heap.size := World.block_lt_of_cell? wr _ e0
    have n0 : wr.cell? ⟨w.heap.size, 0, none⟩ = some (.slice none 0 0) := (hBl.cell (p := ⟨w.heap.size, 0, none⟩) (by simp)).trans (by simp [go_sem])
    have n1 : wr.cell? ⟨w.heap.size, 1, none⟩ = some (.slice none 0 0) := (hBl.cell (p := ⟨w.heap.size, 1, none⟩) (by simp)).trans (by simp [go_sem])
    have nf : ∀ o, wr.frozen? ⟨w.heap.size, o, none⟩ = false := fun o => (hBl.frozen (p := ⟨w.heap.size, o, none⟩) (by simp)).trans (by simp [go_sem])
    have nf0 := nf 0
    have nf1 := nf 1
    have hwr : Below w.heap.size w wr := Below.trans blw_ (hBl.mono (by omega))
    by_cases hlt : j < 4
    · have hlt' : (j : Int) < 4 := by omega
      have hrl : rs.length = j := by rw [HRS.out, List.length_replicate]
      have hrl2 : rs.length ≤ 4 := by omega
      have HSL := Lib.hid hSl
      have hcS : w.heap.size + 1 ∉ blk S := fun hc => by have := HSL.out _ hc; omega
      clear hrl hSl
      go_wp2_with (at_builtin; refine wpList_appi rfl (.tmp 9) (.tmp 10) rfl rs rfl rfl (hS.below blw_) (RF.only_one (x := (-1)) (by simp [go_sem, fi])) (by simp; omega) ?_; intro S' c'' w' hO' hOn' hg'; have y0 := hOn'.cell (cell_below e0 blw_) hcS; have y1 := hOn'.cell (cell_below e1 blw_) hcS; have yf : ∀ o, w'.frozen? ⟨w.heap.size + 1, o, none⟩ = false := (fun o => (hOn'.frozenAt _ _ (by simp; omega) hcS).trans (((bcell (show Below wr.heap.size wr _ from blw_)).2.1 _ _ hcz).trans (ef o))); have yf1 := yf 1; have hg2 : ∀ b ∈ blk S', w.heap.size + 2 ≤ b := (fun b hb => by rcases hg' b hb with h9 | h9; exact HSL.out b h9; simp at h9; omega))
      go_roundw
      case rel =>
        refine ⟨j + 1, S', c'', rs ++ [-1], by omega, by go_num, by unfold Hid; rw [HRS.out, List.replicate_succ'], hO'.ne_ (p := ⟨w.heap.size + 1, 1, none⟩) (fun hc => by have h9 : w.heap.size + 2 ≤ w.heap.size + 1 := hg2 _ hc; omega), hg2, by simp [go_sem, y0], by simp [go_sem, y1], fun o => by simp [go_sem, yf o], ?_⟩
        exact (Below.trans (show Below (w.heap.size + 1) ((w.alloc (.cells #[.slice none 0 0, .slice none 0 0] 26)).alloc (.cells #[.slice none 0 0, .slice none 0 0] 26)) _ from blw_) (hOn'.below (by simp; omega) (fun b hb => by have := HSL.out b hb; omega))).setCell (by simp) _
      case measure => simp [intOf]; omega
    · have hje : j = 4 := by omega
      have hrs : rs = [-1, -1, -1, -1] := by rw [HRS.out, hje]; rfl
      have hrl : rs.length = 4 := by rw [hrs]; rfl
      have hge : ¬ (j : Int) < 4 := by omega
      rw [hrl] at e1
      have HRS2 := Lib.hid hrs
      clear hrs hrl
      go_wp2
      refine bodyPost_ret (v := .agg #[.slice none 0 0, .slice S 4 cS]) (by simp [results, Try.results51, go_sem, n0, n1]) rfl ⟨_, rfl, ?_, ((hwr.setCell (by simp) _).setCell (by simp) _)⟩
      have hoh : OH (w.heap.size + 2) wr (.agg #[.slice none 0 0, .slice S 4 cS]) emptyM := ⟨none, 0, S, cS, [], rfl, rfl, ⟨OC.nil_, (by have h9 := hS; rw [HRS2.out] at h9; exact h9), by simpa [blk, blks] using blk_nodup S, by simp, by simp [emptyM]⟩, fun b hb => hSl b (by simpa [hblks, blk, blks] using hb)⟩
      exact ((hoh.setlt (by simp) _).setlt (by simp) _).lo_ (by omega)
end Go.Proofs.Ytkikeanpbffpkaa
