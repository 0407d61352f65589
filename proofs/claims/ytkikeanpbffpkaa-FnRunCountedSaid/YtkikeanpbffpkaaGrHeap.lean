/- Texts of one family, one behind the other: Heap, HeapS. -/
import Derived.Test.YtkikeanpbffpkaaChecked
import Derived.Test.YtkikeanpbffpkaaGrOwn
/- Which heaps are valid: the program's and the reference's HeapValid both tell validM, and leave memory as it is. -/
namespace Go.Proofs.Ytkikeanpbffpkaa
open Go.RowKit
set_option maxRecDepth 100000
set_option linter.unusedSimpArgs false



set_option maxHeartbeats 400000 in
theorem l1In_any (n lo hi : Int) (w : World) :
    Calls Try.prog 67 #[.int .i64 n, .int .i64 lo, .int .i64 hi] w fun e w' => e = .returned (.bool (inB lo n hi)) ∧ w = w' := by
  by_cases h1 : lo ≤ n
  · go_enter Try.func67, Try.ntmps67
    go_wp2
    go_ret
    exact ⟨ret_bool (by simp [inB, h1]), rfl⟩
  · go_enter Try.func67, Try.ntmps67
    go_wp2
    go_ret
    exact ⟨ret_bool (by simp [inB]; try omega), rfl⟩
theorem l1In_q (n lo hi : Int) (w : World) :
    Calls Try.prog 67 #[.int .i64 n, .int .i64 lo, .int .i64 hi] w fun e w' => e = .returned (.bool (inB lo n hi)) ∧ w' = w := (l1In_any n lo hi w).mono fun _ _ h => ⟨h.1, h.2.symm⟩
set_option maxHeartbeats 400000 in
theorem leads_any (v : Value) (h : HeapM) (r : Int) (w : World) (hv : RH w v h) :
    Calls Try.prog 72 #[v, .int .i64 r] w fun e w' => e = .returned (.bool (leadsM h.cells r)) ∧ Below w.heap.size w w' := by
  obtain ⟨A, c, A', c', rfl, hc, -, hlen, -⟩ := hv
  by_cases h1 : r = -1
  · subst h1
    go_enter Try.func72, Try.ntmps72
    go_wp2
    go_ret
    exact ⟨ret_bool (leadsM_neg1 _).symm, blw_⟩
  have h1' : (r == -1) = false := by simpa using h1
  by_cases h2 : 0 ≤ r
  · by_cases h3 : r < h.cells.length
    · obtain ⟨b, o, x, Ar, cr, rfl, hx, c1, -, -, -, -, hb⟩ := hc.at_ (k := r.toNat) (by omega)
      have hx' := (leadsM_at hx h2).symm
      have HX := Lib.hid hx'
      clear hx hx' hc
      go_enter Try.func72, Try.ntmps72
      go_wp2
      go_ret
      exact ⟨ret_bool HX.out, blw_⟩
    · go_enter Try.func72, Try.ntmps72
      go_wp2
      go_ret
      exact ⟨ret_bool (leadsM_high (by omega)).symm, blw_⟩
  · go_enter Try.func72, Try.ntmps72
    go_wp2
    go_ret
    exact ⟨ret_bool (leadsM_low h1 (by omega)).symm, blw_⟩
set_option maxHeartbeats 400000 in
theorem cellValid_any (v : Value) (h : HeapM) (u : Bool) (d : Int) (Ar : Option Addr) (rs : List Int) (cr : Nat) (w : World) (hv : RH w v h) (hr : RF fi w Ar rs) (hrl : rs.length ≤ 9223372036854775807) :
    Calls Try.prog 71 #[v, .agg #[.bool u, .int .i64 d, .slice Ar rs.length cr]] w fun e w' => e = .returned (.bool (cellOkM h.cells ⟨u, d, rs⟩)) ∧ Below w.heap.size w w' := by
  have hv' := hv
  obtain ⟨A, c, A', c', rfl, -, -, -, -⟩ := hv
  cases u
  · by_cases h1 : d = 0
    · subst h1
      go_enter Try.func71, Try.ntmps71
      go_wp2
      go_ret
      exact ⟨ret_bool (by rw [cellOk_free]; cases rs <;> simp <;> omega), blw_⟩
    · have h1' : (d == 0) = false := by simpa using h1
      go_enter Try.func71, Try.ntmps71
      go_wp2
      go_ret
      exact ⟨ret_bool (by rw [cellOk_free]; simp [h1]), blw_⟩
  · go_enter Try.func71, Try.ntmps71
    go_wp2
    go_loopw [22] (fun i wr => ∃ k : Nat, k ≤ rs.length ∧ i = .int .i64 k ∧ Hid (refsM h.cells rs = refsM h.cells (rs.drop k)) ∧ Below (w.heap.size + 2) ((w.alloc (.cells #[.slice A h.cells.length c, .slice A' h.roots.length c'] 26)).alloc (.cells #[.bool true, .int .i64 d, .slice Ar rs.length cr] 38)) wr) (fun i _ => rs.length - (intOf i).toNat)
    case atStart => exact ⟨0, by omega, rfl, rfl, Below.refl _ _⟩
    case round =>
      obtain ⟨k, hk, rfl, HS, hB⟩ := hrel
      have hB0 : Below w.heap.size w wr := Below.trans blw_ (hB.mono (by omega))
      have hB1 := hB.mono (show ((w.alloc (.cells #[.slice A h.cells.length c, .slice A' h.roots.length c'] 26)).alloc (.cells #[.bool true, .int .i64 d, .slice Ar rs.length cr] 38)).heap.size ≤ w.heap.size + 2 by simp)
      obtain ⟨hbc, hbf, hbz⟩ := bcell hB1
      have z0wr : w.heap.size < wr.heap.size := (by (try simp at hbz); omega); have z1wr : w.heap.size + 1 < wr.heap.size := (by (try simp at hbz); omega)
      by_cases hlt : k < rs.length
      · obtain ⟨b, o, x, rfl, gx, c1, hb⟩ := (hr.below hB0).at_ hlt
        have c2 : wr.cell? ⟨b, o + k, none⟩ = some (.int .i64 x) := c1
        have GX := Lib.hid gx
        have hv2 := hv'.below hB0
        clear gx c1 hr
        cases he : leadsM h.cells x
        all_goals
          have HE := Lib.hid he
          go_wp2_with (go_at_call 72; refine (leads_any _ h _ _ hv2).mono ?_; rintro e w' ⟨rfl, hB2⟩)
        · go_ret
          exact ⟨ret_bool (by rw [cellOk_used, HS.out, refsM, all_drop _ GX.out, HE.out]; simp), blw_⟩
        · go_roundw
          case rel => exact ⟨k + 1, by omega, by go_num, by unfold Hid; rw [HS.out, refsM, all_drop _ GX.out, HE.out]; simp [refsM], hB.trans (hB2.mono (by omega))⟩
          case measure => simp [intOf]; omega
      · have hke : k = rs.length := by omega
        have HK := Lib.hid hke
        clear hke
        have hall : refsM h.cells rs = true := by rw [HS.out, HK.out]; simp [refsM]
        have HA := Lib.hid hall
        clear hall
        by_cases h1 : 0 ≤ d
        · by_cases h2 : d ≤ 99
          · go_wp2
            go_ret
            exact ⟨ret_bool (by rw [cellOk_used, HA.out]; simp [inB, h1, h2]; try omega), blw_⟩
          · go_wp2
            go_ret
            exact ⟨ret_bool (by rw [cellOk_used, HA.out]; simp [inB]; try omega), blw_⟩
        · go_wp2
          go_ret
          exact ⟨ret_bool (by rw [cellOk_used, HA.out]; simp [inB]; try omega), blw_⟩
set_option maxHeartbeats 400000 in
theorem implHeapValid_any (v : Value) (h : HeapM) (w : World) (hv : RH w v h) :
    Calls Try.prog 41 #[v] w fun e w' => e = .returned (.bool (validM h)) ∧ Below w.heap.size w w' := by
  have hv' := hv
  obtain ⟨A, c, A', c', rfl, hc, hr, hl1, hl2⟩ := hv
  rcases Nat.lt_or_ge 40 h.cells.length with h1 | h1
  · go_enter Try.func41, Try.ntmps41
    go_wp2
    go_ret
    exact ⟨ret_bool (by simp [validM]; omega), blw_⟩
  rcases (Classical.em (h.roots.length = 4)).symm with h2 | h2
  · have h2' : ((h.roots.length : Int) != 4) = true := by simp; omega
    go_enter Try.func41, Try.ntmps41
    go_wp2
    go_ret
    exact ⟨ret_bool (by simp [validM, h2]), blw_⟩
  have h2' : ((h.roots.length : Int) != 4) = false := by simp [h2]
  have H0 : Hid (validM h = (h.cells.all (cellOkM h.cells) && refsM h.cells h.roots)) := by simp [Hid, validM, h1, h2]
  clear h2
  go_enter Try.func41, Try.ntmps41
  go_wp2
  clear h2'
  go_loopw [20] (fun i wr => ∃ k : Nat, k ≤ h.cells.length ∧ i = .int .i64 k ∧ Hid (validM h = ((h.cells.drop k).all (cellOkM h.cells) && refsM h.cells h.roots)) ∧ Below (w.heap.size + 1) (w.alloc (.cells #[.slice A h.cells.length c, .slice A' h.roots.length c'] 26)) wr) (fun i _ => h.cells.length - (intOf i).toNat)
  case atStart => exact ⟨0, by omega, rfl, H0.out, Below.refl _ _⟩
  case round =>
    obtain ⟨k, hk, rfl, HS, hB⟩ := hrel
    have hB0 : Below w.heap.size w wr := Below.trans blw_ (hB.mono (by omega))
    obtain ⟨hbc, hbf, hbz⟩ := bcell (hB.mono (show (w.alloc (.cells #[.slice A h.cells.length c, .slice A' h.roots.length c'] 26)).heap.size ≤ w.heap.size + 1 by simp))
    have z0wr : w.heap.size < wr.heap.size := (by (try simp at hbz); omega)
    have hv2 := hv'.below hB0
    by_cases hlt : k < h.cells.length
    · obtain ⟨b, o, x, Ar, cr, rfl, gx, c1, c2, c3, hrr, hrl, hb⟩ := (hc.below hB0).at_ hlt
      have GX := Lib.hid gx
      clear gx hc
      cases he : cellOkM h.cells ⟨x.used, x.data, x.refs⟩
      all_goals
        have HE := Lib.hid he
        go_wp2_with (go_at_call 71; refine (cellValid_any _ h _ _ _ _ _ _ (hv2.below blw_) (hrr.below blw_) hrl).mono ?_; rintro e w' ⟨rfl, hB2⟩)
      · go_ret
        exact ⟨ret_bool (by rw [HS.out, all_drop _ GX.out, HE.out]; simp), blw_⟩
      · go_roundw
        case rel => exact ⟨k + 1, by omega, by go_num, by unfold Hid; rw [HS.out, all_drop _ GX.out, HE.out]; simp, blw_⟩
        case measure => simp [intOf]; omega
    · have hke : k = h.cells.length := by omega
      have HK := Lib.hid hke
      have H1 : Hid (validM h = refsM h.cells h.roots) := by unfold Hid; rw [HS.out, hke]; simp
      clear hke HS
      go_wp2
      go_loopw [32] (fun i wr => ∃ k : Nat, k ≤ h.roots.length ∧ i = .int .i64 k ∧ Hid (validM h = refsM h.cells (h.roots.drop k)) ∧ Below (w.heap.size + 1) (w.alloc (.cells #[.slice A h.cells.length c, .slice A' h.roots.length c'] 26)) wr) (fun i _ => h.roots.length - (intOf i).toNat)
      case atStart => exact ⟨0, by omega, rfl, H1.out, hB⟩
      case round =>
        clear hB hB0 hbc hbf hbz z0wr hv2
        obtain ⟨k2, hk2, rfl, HS2, hB⟩ := hrel
        have hB0 : Below w.heap.size w wr := Below.trans blw_ (hB.mono (by omega))
        obtain ⟨hbc, hbf, hbz⟩ := bcell (hB.mono (show (w.alloc (.cells #[.slice A h.cells.length c, .slice A' h.roots.length c'] 26)).heap.size ≤ w.heap.size + 1 by simp))
        have z0wr : w.heap.size < wr.heap.size := (by (try simp at hbz); omega)
        have hv2 := hv'.below hB0
        by_cases hlt2 : k2 < h.roots.length
        · obtain ⟨b, o, x, rfl, gx, c1, hb⟩ := (hr.below hB0).at_ hlt2
          have c2 : wr.cell? ⟨b, o + k2, none⟩ = some (.int .i64 x) := c1
          have GX := Lib.hid gx
          clear gx c1 hr hc
          cases he : leadsM h.cells x
          all_goals
            have HE := Lib.hid he
            go_wp2_with (go_at_call 72; refine (leads_any _ h _ _ (hv2.below blw_)).mono ?_; rintro e w' ⟨rfl, hB2⟩)
          · go_ret
            exact ⟨ret_bool (by rw [HS2.out, refsM, all_drop _ GX.out, HE.out]; simp), blw_⟩
          · go_roundw
            case rel => exact ⟨k2 + 1, by omega, by go_num, by unfold Hid; rw [HS2.out, refsM, all_drop _ GX.out, HE.out]; simp [refsM], blw_⟩
            case measure => simp [intOf]; omega
        · have hke : k2 = h.roots.length := by omega
          have HK2 := Lib.hid hke
          clear hke
          go_wp2
          go_ret
          exact ⟨ret_bool (by rw [HS2.out, HK2.out]; simp [refsM]), blw_⟩
set_option maxHeartbeats 400000 in
theorem l7Refs_any (v : Value) (h : HeapM) (Ar : Option Addr) (rs : List Int) (cr : Nat) (w : World) (hv : RH w v h) (hr : RF fi w Ar rs) (hrl : rs.length ≤ 9223372036854775807) :
    Calls Try.prog 92 #[v, .slice Ar rs.length cr] w fun e w' => e = .returned (.bool (refsM h.cells rs)) ∧ Below w.heap.size w w' := by
  obtain ⟨A, c, A', c', rfl, hc, -, hl1, -⟩ := hv
  go_enter Try.func92, Try.ntmps92
  go_wp2
  go_loopw [5] (fun i wr => ∃ (k n : Nat), k ≤ rs.length ∧ i = .int .i64 k ∧ Hid (refsM h.cells rs = refsM h.cells (rs.drop k)) ∧ wr = (w.alloc (.cells #[.slice A h.cells.length c, .slice A' h.roots.length c'] 26)).drewN n) (fun i _ => rs.length - (intOf i).toNat)
  case atStart => exact ⟨0, 0, by omega, rfl, rfl, rfl⟩
  case round =>
    obtain ⟨k, n, hk, rfl, HS, rfl⟩ := hrel
    by_cases hlt : k < rs.length
    · obtain ⟨b, o, x, rfl, gx, c1, hb⟩ := hr.at_ hlt
      have c2 : w.cell? ⟨b, o + k, none⟩ = some (.int .i64 x) := c1
      have GX := Lib.hid gx
      have i1 : (0 : Int) ≤ (k : Int) := by omega
      have i2 : (k : Int) < (rs.length : Int) := by omega
      clear gx c1 hr
      rcases (Classical.em (x = -1)) with h1 | h1
      · subst h1
        go_wp2
        go_quiet (fail)
        go_wp2
        go_roundw
        case rel => exact ⟨k + 1, _, by omega, by go_num, by unfold Hid; rw [HS.out, refsM, all_drop _ GX.out, leadsM_neg1]; simp [refsM], by first | rfl | (simp; rfl)⟩
        case measure => simp [intOf]; omega
      have h1' : (x != -1) = true := by simpa using h1
      cases hin : inB 0 x ((h.cells.length : Int) - 1)
      · have hle : leadsM h.cells x = false := by
          have := inB_false.1 hin
          rcases Classical.em (x < 0) with h2 | h2
          · exact leadsM_low h1 h2
          · exact leadsM_high (by omega)
        have HE := Lib.hid hle
        clear hle h1
        go_wp2
        go_quiet ((go_at_call 67; first | exact Calls.quiet_of_same (l1In_q _ _ _ _) | exact quiet_add_same (l1In_q _ _ _ _)))
        go_wp2
        go_ret
        exact ⟨ret_bool (by rw [HS.out, refsM, all_drop _ GX.out, HE.out]; simp), blw_⟩
      · obtain ⟨hin1, hin2⟩ := inB_iff.1 hin
        obtain ⟨b', o', y, Ay, cy, rfl, gy, d1, -, -, -, -, hb'⟩ := hc.at_ (k := x.toNat) (by omega)
        have HE := Lib.hid (leadsM_at gy hin1)
        have i3 : x < (h.cells.length : Int) := by omega
        clear h1 gy hc hin2
        cases hu : y.used
        all_goals
          rw [hu] at d1
          have HU := Lib.hid hu
          clear hu
          go_wp2
          go_quiet ((go_at_call 67; first | exact Calls.quiet_of_same (l1In_q _ _ _ _) | exact quiet_add_same (l1In_q _ _ _ _)))
          go_wp2
        · go_ret
          exact ⟨ret_bool (by rw [HS.out, refsM, all_drop _ GX.out, HE.out, HU.out]; simp), blw_⟩
        · go_roundw
          case rel => exact ⟨k + 1, _, by omega, by go_num, by unfold Hid; rw [HS.out, refsM, all_drop _ GX.out, HE.out, HU.out]; simp [refsM], by first | rfl | (simp; rfl)⟩
          case measure => simp [intOf]; omega
    · have hke : k = rs.length := by omega
      have HK := Lib.hid hke
      clear hke
      go_wp2
      go_ret
      exact ⟨ret_bool (by rw [HS.out, HK.out]; simp [refsM]), blw_⟩
end Go.Proofs.Ytkikeanpbffpkaa

/- The reference's HeapValid tells validM, and leaves memory as it is. -/
namespace Go.Proofs.Ytkikeanpbffpkaa
open Go.RowKit
set_option maxRecDepth 100000
set_option linter.unusedSimpArgs false

theorem validM_cells (h : HeapM) : validM h = (h.cells.all (cellOkM h.cells) && (decide (h.cells.length ≤ 40) && decide (h.roots.length = 4) && refsM h.cells h.roots)) := rfl
set_option maxHeartbeats 400000 in
theorem specHeapValid_any (v : Value) (h : HeapM) (w : World) (hv : RH w v h) :
    Calls Try.prog 66 #[v] w fun e w' => e = .returned (.bool (validM h)) ∧ Below w.heap.size w w' := by
  have hv' := hv
  obtain ⟨A, c, A', c', rfl, hc, hr, hl1, hl2⟩ := hv
  go_enter Try.func66, Try.ntmps66
  go_wp2
  go_loopw [3] (fun i wr => ∃ k : Nat, k ≤ h.cells.length ∧ i = .int .i64 k ∧ Hid (h.cells.all (cellOkM h.cells) = (h.cells.drop k).all (cellOkM h.cells)) ∧ Below (w.heap.size + 1) (w.alloc (.cells #[.slice A h.cells.length c, .slice A' h.roots.length c'] 26)) wr) (fun i _ => h.cells.length - (intOf i).toNat)
  case atStart => exact ⟨0, by omega, rfl, rfl, Below.refl _ _⟩
  case round =>
    obtain ⟨k, hk, rfl, HS, hB⟩ := hrel
    have hB0 : Below w.heap.size w wr := Below.trans blw_ (hB.mono (by omega))
    obtain ⟨hbc, hbf, hbz⟩ := bcell (hB.mono (show (w.alloc (.cells #[.slice A h.cells.length c, .slice A' h.roots.length c'] 26)).heap.size ≤ w.heap.size + 1 by simp))
    have z0wr : w.heap.size < wr.heap.size := (by (try simp at hbz); omega)
    have hv2 := hv'.below hB0
    by_cases hlt : k < h.cells.length
    · obtain ⟨b, o, x, Ar, cr, rfl, gx, c1, c2, c3, hrr, hrl, hb⟩ := (hc.below hB0).at_ hlt
      have bad : cellOkM h.cells x = false → validM h = false := fun e => by rw [validM_cells, HS.out, all_drop _ gx, e]; simp
      have good : cellOkM h.cells x = true → Hid (h.cells.all (cellOkM h.cells) = (h.cells.drop (k + 1)).all (cellOkM h.cells)) := fun e => by unfold Hid; rw [HS.out, all_drop _ gx, e]; simp
      clear gx hc HS
      obtain ⟨u, d, rs⟩ := x
      dsimp only at c1 c2 c3 hrr hrl
      cases u
      · rcases Classical.em (d = 0) with h1 | h1
        · subst h1
          rcases Classical.em (rs.length = 0) with h2 | h2
          · have hrn : rs = [] := List.eq_nil_of_length_eq_zero h2
            subst hrn
            have HG := good (by rw [cellOk_free]; rfl)
            have hin : inB 0 0 99 = true := rfl
            have hrm : refsM h.cells [] = true := rfl
            clear good bad h2
            go_wp2_with (first | (go_at_call 67; refine (l1In_any _ _ _ _).mono ?_; rintro e w' ⟨rfl, rfl⟩) | (go_at_call 92; refine (l7Refs_any _ h _ [] _ _ (hv2.below blw_) (hrr.below blw_) hrl).mono ?_; rintro e w' ⟨rfl, hB2⟩))
            go_roundw
            case rel => exact ⟨k + 1, by omega, by go_num, HG, blw_⟩
            case measure => simp [intOf]; omega
          · have HF := Lib.hid (bad (by rw [cellOk_free]; simp [h2]))
            have h3 : 0 < rs.length := by omega
            clear good bad h2
            go_wp2
            go_ret
            exact ⟨ret_bool HF.out.symm, blw_⟩
        · have HF := Lib.hid (bad (by rw [cellOk_free]; simp [h1]))
          have h3 : (d != 0) = true := by simpa using h1
          clear good bad h1
          go_wp2
          go_ret
          exact ⟨ret_bool HF.out.symm, blw_⟩
      · cases hin : inB 0 d 99
        · have HF := Lib.hid (bad (by rw [cellOk_used, hin]; simp))
          clear good bad
          go_wp2_with (first | (go_at_call 67; refine (l1In_any _ _ _ _).mono ?_; rintro e w' ⟨rfl, rfl⟩) | (go_at_call 92; refine (l7Refs_any _ h _ rs _ _ (hv2.below blw_) (hrr.below blw_) hrl).mono ?_; rintro e w' ⟨rfl, hB2⟩))
          go_ret
          exact ⟨ret_bool HF.out.symm, blw_⟩
        · rcases Nat.lt_or_ge 3 rs.length with h2 | h2
          · have HF := Lib.hid (bad (by rw [cellOk_used, hin]; simp; intro _; omega))
            clear good bad
            go_wp2_with (first | (go_at_call 67; refine (l1In_any _ _ _ _).mono ?_; rintro e w' ⟨rfl, rfl⟩) | (go_at_call 92; refine (l7Refs_any _ h _ rs _ _ (hv2.below blw_) (hrr.below blw_) hrl).mono ?_; rintro e w' ⟨rfl, hB2⟩))
            go_ret
            exact ⟨ret_bool HF.out.symm, blw_⟩
          · cases hrm : refsM h.cells rs
            · have HF := Lib.hid (bad (by rw [cellOk_used, hrm]; simp))
              clear good bad
              go_wp2_with (first | (go_at_call 67; refine (l1In_any _ _ _ _).mono ?_; rintro e w' ⟨rfl, rfl⟩) | (go_at_call 92; refine (l7Refs_any _ h _ rs _ _ (hv2.below blw_) (hrr.below blw_) hrl).mono ?_; rintro e w' ⟨rfl, hB2⟩))
              go_ret
              exact ⟨ret_bool HF.out.symm, blw_⟩
            · have HG := good (by rw [cellOk_used, hrm, hin]; simp [h2])
              clear good bad
              go_wp2_with (first | (go_at_call 67; refine (l1In_any _ _ _ _).mono ?_; rintro e w' ⟨rfl, rfl⟩) | (go_at_call 92; refine (l7Refs_any _ h _ rs _ _ (hv2.below blw_) (hrr.below blw_) hrl).mono ?_; rintro e w' ⟨rfl, hB2⟩))
              go_roundw
              case rel => exact ⟨k + 1, by omega, by go_num, HG, blw_⟩
              case measure => simp [intOf]; omega
    · have hke : k = h.cells.length := by omega
      have HV : Hid (validM h = (decide (h.cells.length ≤ 40) && decide (h.roots.length = 4) && refsM h.cells h.roots)) := by
        unfold Hid; rw [validM_cells, HS.out, hke]; simp
      have HK := Lib.hid hke
      clear hke HS hc
      rcases Nat.lt_or_ge 40 h.cells.length with h1 | h1
      · go_wp2
        go_ret
        exact ⟨ret_bool (by rw [HV.out]; simp; intro _; omega), blw_⟩
      rcases (Classical.em (h.roots.length = 4)).symm with h2 | h2
      · have h3 : ((h.roots.length : Int) == 4) = false := by simp; omega
        go_wp2
        go_ret
        exact ⟨ret_bool (by rw [HV.out]; simp [h2]), blw_⟩
      · have h3 : ((h.roots.length : Int) == 4) = true := by simp [h2]
        have HV2 : Hid (validM h = refsM h.cells h.roots) := by unfold Hid; rw [HV.out]; simp [h1, h2]
        clear h2 HV
        go_wp2_with (go_at_call 92; refine (l7Refs_any _ h _ h.roots _ _ (hv2.below blw_) (hr.below blw_) hl2).mono ?_; rintro e w' ⟨rfl, hB2⟩)
        go_ret
        exact ⟨ret_bool HV2.out.symm, blw_⟩
end Go.Proofs.Ytkikeanpbffpkaa
