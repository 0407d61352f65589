/- The reference's PaintValid tells paintM, and leaves memory as it is. -/
import Derived.Test.YtopbngfghpgbnaaChecked
import Derived.Test.YtopbngfghpgbnaaPaintV
namespace Go.Proofs.Ytopbngfghpgbnaa
open Go.RowKit
set_option maxRecDepth 100000
set_option linter.unusedSimpArgs false
set_option linter.unusedVariables false
set_option maxRecDepth 100000 in
set_option maxHeartbeats 400000 in
theorem specPaintValid_true (v : Value) (p : PaintM) (w : World) (hv : RPt w v p) (hact : p.active = true) :
    Calls Try.prog 17 #[v] w fun e w' => e = .returned (.bool (paintM p)) ∧ Below w.heap.size w w' := by
  obtain ⟨A, c, A', c', A2, c2, rfl, hh, hc, hcl⟩ := hv
  rw [hact]
  have HACT := Lib.hid hact
  clear hact
  cases hvd : validM p.store
  · go_enter Try.func17, Try.ntmps17
    go_wp2_with (go_at_call 62; refine (specHeapValid_any _ p.store _ ((hh.below blw_).rh _ _)).mono ?_; rintro e w1 ⟨rfl, hB⟩; obtain ⟨hbc, hbf, hbz⟩ := bcell hB; have z0w1 : w.heap.size < w1.heap.size := (by (try simp at hbz); omega); have z1w1 : w.heap.size + 1 < w1.heap.size := (by (try simp at hbz); omega))
    go_ret
    exact ⟨ret_bool (by rw [paintM, hvd]; simp), blw_⟩
  rcases (Classical.em (p.colours.length = p.store.cells.length)).symm with hl | hl
  · have hl2 : ((p.colours.length : Int) != (p.store.cells.length : Int)) = true := by simp; omega
    have HL := Lib.hid hl
    clear hl
    go_enter Try.func17, Try.ntmps17
    go_wp2_with (go_at_call 62; refine (specHeapValid_any _ p.store _ ((hh.below blw_).rh _ _)).mono ?_; rintro e w1 ⟨rfl, hB⟩; obtain ⟨hbc, hbf, hbz⟩ := bcell hB; have z0w1 : w.heap.size < w1.heap.size := (by (try simp at hbz); omega); have z1w1 : w.heap.size + 1 < w1.heap.size := (by (try simp at hbz); omega))
    go_ret
    exact ⟨ret_bool (by rw [paintM]; simp [HL.out]), blw_⟩
  have hl2 : ((p.colours.length : Int) != (p.store.cells.length : Int)) = false := by simp [hl]
  have hl3 : p.colours.length ≤ p.store.cells.length := by omega
  obtain ⟨HLC, HLR⟩ := validM_lt hvd
  have HLC := Lib.hid HLC
  have HLR := Lib.hid HLR
  have H0 : Hid (paintM p = ((p.colours.zip p.store.cells).all (cellPaint p.colours p.active) && (!p.active || !anyWhite p.colours p.store.roots))) := by
    unfold Hid; rw [paintM, hvd]; simp [hl]
  have HL := Lib.hid hl
  clear hl
  go_enter Try.func17, Try.ntmps17
  go_wp2_with (go_at_call 62; refine (specHeapValid_any _ p.store _ ((hh.below blw_).rh _ _)).mono ?_; rintro e w1 ⟨rfl, hB⟩; obtain ⟨hbc, hbf, hbz⟩ := bcell hB; have z0w1 : w.heap.size < w1.heap.size := (by (try simp at hbz); omega); have z1w1 : w.heap.size + 1 < w1.heap.size := (by (try simp at hbz); omega))
  have hB9 : Below (w.heap.size + 2) ((w.alloc (.cells #[.slice A p.store.cells.length c, .slice A' p.store.roots.length c', .slice A2 p.colours.length c2, .bool true] 28)).alloc (.cells #[.slice A p.store.cells.length c, .slice A' p.store.roots.length c'] 26)) w1 := hB.mono (by simp)
  clear hB hbc hbf hbz z0w1 z1w1 hl2 hvd
  go_loopw [4] (fun i wr => ∃ k : Nat, k ≤ p.colours.length ∧ i = .int .i64 k ∧ Hid (paintM p = (((p.colours.zip p.store.cells).drop k).all (cellPaint p.colours p.active) && (!p.active || !anyWhite p.colours p.store.roots))) ∧ Below (w.heap.size + 2) ((w.alloc (.cells #[.slice A p.store.cells.length c, .slice A' p.store.roots.length c', .slice A2 p.colours.length c2, .bool true] 28)).alloc (.cells #[.slice A p.store.cells.length c, .slice A' p.store.roots.length c'] 26)) wr) (fun i _ => p.colours.length - (intOf i).toNat)
  case atStart => exact ⟨0, by omega, rfl, H0.out, hB9⟩
  case round =>
    clear hB9
    obtain ⟨k, hk, rfl, HS, hB⟩ := hrel
    have hB0 : Below w.heap.size w wr := Below.trans blw_ (hB.mono (by omega))
    obtain ⟨hbc, hbf, hbz⟩ := bcell (hB.mono (show ((w.alloc (.cells #[.slice A p.store.cells.length c, .slice A' p.store.roots.length c', .slice A2 p.colours.length c2, .bool true] 28)).alloc (.cells #[.slice A p.store.cells.length c, .slice A' p.store.roots.length c'] 26)).heap.size ≤ w.heap.size + 2 by simp))
    have z0wr : w.heap.size < wr.heap.size := (by (try simp at hbz); omega); have z1wr : w.heap.size + 1 < wr.heap.size := (by (try simp at hbz); omega)
    have hcc := hc.below hB0
    by_cases hlt : k < p.colours.length
    · obtain ⟨b, o, x, rfl, gx, c1, hb⟩ := hcc.at_ hlt
      have c1' : wr.cell? ⟨b, o + k, none⟩ = some (.int .i64 x) := c1
      obtain ⟨b', o', y, Ar, cr, rfl, gy, d1, d2, d3, hrr, hrl, hb'⟩ := (hh.cells.below hB0).at_ (k := k) (by omega)
      have hlr := HLC.out y (List.mem_of_getElem? gy)
      have GZ := Lib.hid (zip_get gx gy)
      have HLT : Hid (∀ r ∈ y.refs, r < p.colours.length) := by unfold Hid; rw [HL.out]; exact hlr
      clear gx gy c1 hlr
      have bad : cellPaint p.colours p.active (x, y) = false → paintM p = false := fun e => by rw [HS.out, all_drop _ GZ.out, e]; simp
      have good : cellPaint p.colours p.active (x, y) = true → Hid (paintM p = (((p.colours.zip p.store.cells).drop (k + 1)).all (cellPaint p.colours p.active) && (!p.active || !anyWhite p.colours p.store.roots))) := fun e => by unfold Hid; rw [HS.out, all_drop _ GZ.out, e]; simp
      clear hc hh HS
      cases hin : inB 0 x 2
      · have HF := Lib.hid (bad (by simp [cellPaint, hin]))
        clear bad good
        go_wp2_with (go_at_call 63; refine (l1In_any _ _ _ _).mono ?_; rintro e w' ⟨rfl, rfl⟩)
        go_ret
        exact ⟨ret_bool HF.out.symm, blw_⟩
      by_cases h2 : x = 2 ∧ y.used = true
      · obtain ⟨rfl, hu⟩ := h2
        rw [hu] at d1
        go_wp2_with (go_at_call 63; refine (l1In_any _ _ _ _).mono ?_; rintro e w' ⟨rfl, rfl⟩)
        go_loopw [5] (fun j wq => ∃ m : Nat, m ≤ y.refs.length ∧ j = .int .i64 m ∧ Hid (anyWhite p.colours y.refs = anyWhite p.colours (y.refs.drop m)) ∧ wr = wq) (fun j _ => y.refs.length - (intOf j).toNat)
        case atStart => exact ⟨0, by omega, rfl, rfl, rfl⟩
        case round =>
          obtain ⟨m, hm, rfl, HM, rfl⟩ := hrel
          by_cases hmt : m < y.refs.length
          · obtain ⟨b2, o2, z, rfl, gz, e1, hb2⟩ := hrr.at_ hmt
            have e1' : wr.cell? ⟨b2, o2 + m, none⟩ = some (.int .i64 z) := e1
            have hzl : z < (p.colours.length : Int) := HLT.out z (List.mem_of_getElem? gz)
            have GM := Lib.hid gz
            clear gz e1 hrr
            rcases Classical.em (z < 0) with h0 | h0
            · have HE := Lib.hid (whiteM_neg (cols := p.colours) h0)
              go_wp2
              go_roundw
              case rel => exact ⟨m + 1, by omega, by go_num, by unfold Hid; rw [HM.out, anyWhite, any_drop _ GM.out, HE.out]; simp [anyWhite], by first | trivial | rfl⟩
              case measure => simp [intOf]; omega
            · obtain ⟨b3, o3, q, hA3, gq, q1, hb3⟩ := hcc.at_ (k := z.toNat) (by omega)
              injection hA3 with hA3
              injection hA3 with hA3 hA4
              subst hA3; subst hA4
              have q2 : wr.cell? ⟨b, o + z.toNat, none⟩ = some (.int .i64 q) := q1
              have HE := Lib.hid (whiteM_at (by omega) gq)
              clear gq q1 hcc
              cases hy : (q == 0)
              · have HY := Lib.hid hy
                go_wp2
                go_roundw
                case rel => exact ⟨m + 1, by omega, by go_num, by unfold Hid; rw [HM.out, anyWhite, any_drop _ GM.out, HE.out, HY.out]; simp [anyWhite], by first | trivial | rfl⟩
                case measure => simp [intOf]; omega
              · have HF := Lib.hid (bad (by rw [show cellPaint p.colours p.active (2, y) = _ from rfl, cellPaint, HM.out, anyWhite, any_drop _ GM.out, HE.out, hy]; simp))
                clear bad good
                go_wp2
                go_ret
                exact ⟨ret_bool HF.out.symm, blw_⟩
          · have hme : m = y.refs.length := by omega
            have HG := good (by rw [cellPaint, HM.out, hme, hin]; simp [anyWhite, hu, HACT.out])
            clear bad good hme
            go_wp2
            go_roundw
            case rel => exact ⟨k + 1, by omega, by go_num, HG, blw_⟩
            case measure => simp [intOf]; omega
      have h3 : Hid (¬ (x = 2 ∧ y.used = true)) := h2
      clear h2
      have hrest : cellPaint p.colours p.active (x, y) = (x == 0 || y.used) := by
        rcases Classical.em (x = 2) with e | e
        · have : y.used = false := by cases hy : y.used with | false => rfl | true => exact absurd ⟨e, hy⟩ h3.out
          subst e; simp [cellPaint, this]
        · simp [cellPaint, hin, HACT.out, e]
      rcases Classical.em (x = 0) with h4 | h4
      · subst h4
        have HG := good (by rw [hrest]; rfl)
        clear bad good
        cases hu : y.used
        · rw [hu] at d1
          go_wp2_with (go_at_call 63; refine (l1In_any _ _ _ _).mono ?_; rintro e w' ⟨rfl, rfl⟩)
          refine wp_loop_once ?_
          go_wp2
          all_goals
            go_roundw
            case rel => exact ⟨k + 1, by omega, by go_num, HG, blw_⟩
            case measure => simp [intOf]; omega
        · rw [hu] at d1
          go_wp2_with (go_at_call 63; refine (l1In_any _ _ _ _).mono ?_; rintro e w' ⟨rfl, rfl⟩)
          refine wp_loop_once ?_
          go_wp2
          all_goals
            go_roundw
            case rel => exact ⟨k + 1, by omega, by go_num, HG, blw_⟩
            case measure => simp [intOf]; omega
      · have h4' : (x != 0) = true := by simpa using h4
        cases hu : y.used
        · have HF := Lib.hid (bad (by rw [hrest, hu]; simp [h4]))
          clear bad good
          rw [hu] at d1
          go_wp2_with (go_at_call 63; refine (l1In_any _ _ _ _).mono ?_; rintro e w' ⟨rfl, rfl⟩)
          go_ret
          exact ⟨ret_bool HF.out.symm, blw_⟩
        · have HG := good (by rw [hrest, hu]; simp)
          have h5 : (x == 2) = false := by simp; intro e; exact h3.out ⟨e, hu⟩
          clear bad good
          rw [hu] at d1
          go_wp2_with (go_at_call 63; refine (l1In_any _ _ _ _).mono ?_; rintro e w' ⟨rfl, rfl⟩)
          refine wp_loop_once ?_
          go_wp2
          all_goals
            go_roundw
            case rel => exact ⟨k + 1, by omega, by go_num, HG, blw_⟩
            case measure => simp [intOf]; omega
    · have hke : k = p.colours.length := by omega
      have HV : Hid (paintM p = (!p.active || !anyWhite p.colours p.store.roots)) := by
        unfold Hid
        rw [HS.out, List.drop_eq_nil_of_le (by rw [List.length_zip, hke]; omega)]
        simp
      have hrr := hh.roots.below hB0
      have hrl := hh.rlen
      have HLT : Hid (∀ r ∈ p.store.roots, r < p.colours.length) := by unfold Hid; rw [HL.out]; exact HLR.out
      clear hke HS hh hc
      go_wp2
      go_loopw [7] (fun j wq => ∃ m : Nat, m ≤ p.store.roots.length ∧ j = .int .i64 m ∧ Hid (paintM p = (!p.active || !anyWhite p.colours (p.store.roots.drop m))) ∧ wr = wq) (fun j _ => p.store.roots.length - (intOf j).toNat)
      case atStart => exact ⟨0, by omega, rfl, HV.out, rfl⟩
      case round =>
        obtain ⟨m, hm, rfl, HM, rfl⟩ := hrel
        by_cases hmt : m < p.store.roots.length
        · obtain ⟨b2, o2, z, rfl, gz, e1, hb2⟩ := hrr.at_ hmt
          have e1' : wr.cell? ⟨b2, o2 + m, none⟩ = some (.int .i64 z) := e1
          have hzl : z < (p.colours.length : Int) := HLT.out z (List.mem_of_getElem? gz)
          have GM := Lib.hid gz
          clear gz e1 hrr
          rcases Classical.em (z < 0) with h0 | h0
          · have HE := Lib.hid (whiteM_neg (cols := p.colours) h0)
            go_wp2
            go_roundw
            case rel => exact ⟨m + 1, by omega, by go_num, by unfold Hid; rw [HM.out, anyWhite, any_drop _ GM.out, HE.out]; simp [anyWhite], by first | trivial | rfl⟩
            case measure => simp [intOf]; omega
          · obtain ⟨b3, o3, q, rfl, gq, q1, hb3⟩ := hcc.at_ (k := z.toNat) (by omega)
            have q2 : wr.cell? ⟨b3, o3 + z.toNat, none⟩ = some (.int .i64 q) := q1
            have HE := Lib.hid (whiteM_at (by omega) gq)
            clear gq q1 hcc
            cases hy : (q == 0)
            · have HY := Lib.hid hy
              go_wp2
              go_roundw
              case rel => exact ⟨m + 1, by omega, by go_num, by unfold Hid; rw [HM.out, anyWhite, any_drop _ GM.out, HE.out, HY.out]; simp [anyWhite], by first | trivial | rfl⟩
              case measure => simp [intOf]; omega
            · have HF : Hid (paintM p = false) := by unfold Hid; rw [HM.out, anyWhite, any_drop _ GM.out, HE.out, hy, HACT.out]; simp
              go_wp2
              go_ret
              exact ⟨ret_bool HF.out.symm, blw_⟩
        · have hme : m = p.store.roots.length := by omega
          have HT : Hid (paintM p = true) := by unfold Hid; rw [HM.out, hme]; simp [anyWhite]
          clear hme
          go_wp2
          go_ret
          exact ⟨ret_bool HT.out.symm, blw_⟩
set_option maxRecDepth 100000 in
set_option maxHeartbeats 400000 in
theorem specPaintValid_false (v : Value) (p : PaintM) (w : World) (hv : RPt w v p) (hact : p.active = false) :
    Calls Try.prog 17 #[v] w fun e w' => e = .returned (.bool (paintM p)) ∧ Below w.heap.size w w' := by
  obtain ⟨A, c, A', c', A2, c2, rfl, hh, hc, hcl⟩ := hv
  rw [hact]
  have HACT := Lib.hid hact
  clear hact
  cases hvd : validM p.store
  · go_enter Try.func17, Try.ntmps17
    go_wp2_with (go_at_call 62; refine (specHeapValid_any _ p.store _ ((hh.below blw_).rh _ _)).mono ?_; rintro e w1 ⟨rfl, hB⟩; obtain ⟨hbc, hbf, hbz⟩ := bcell hB; have z0w1 : w.heap.size < w1.heap.size := (by (try simp at hbz); omega); have z1w1 : w.heap.size + 1 < w1.heap.size := (by (try simp at hbz); omega))
    go_ret
    exact ⟨ret_bool (by rw [paintM, hvd]; simp), blw_⟩
  rcases (Classical.em (p.colours.length = p.store.cells.length)).symm with hl | hl
  · have hl2 : ((p.colours.length : Int) != (p.store.cells.length : Int)) = true := by simp; omega
    have HL := Lib.hid hl
    clear hl
    go_enter Try.func17, Try.ntmps17
    go_wp2_with (go_at_call 62; refine (specHeapValid_any _ p.store _ ((hh.below blw_).rh _ _)).mono ?_; rintro e w1 ⟨rfl, hB⟩; obtain ⟨hbc, hbf, hbz⟩ := bcell hB; have z0w1 : w.heap.size < w1.heap.size := (by (try simp at hbz); omega); have z1w1 : w.heap.size + 1 < w1.heap.size := (by (try simp at hbz); omega))
    go_ret
    exact ⟨ret_bool (by rw [paintM]; simp [HL.out]), blw_⟩
  have hl2 : ((p.colours.length : Int) != (p.store.cells.length : Int)) = false := by simp [hl]
  have hl3 : p.colours.length ≤ p.store.cells.length := by omega
  obtain ⟨HLC, HLR⟩ := validM_lt hvd
  have HLC := Lib.hid HLC
  have HLR := Lib.hid HLR
  have H0 : Hid (paintM p = ((p.colours.zip p.store.cells).all (cellPaint p.colours p.active) && (!p.active || !anyWhite p.colours p.store.roots))) := by
    unfold Hid; rw [paintM, hvd]; simp [hl]
  have HL := Lib.hid hl
  clear hl
  go_enter Try.func17, Try.ntmps17
  go_wp2_with (go_at_call 62; refine (specHeapValid_any _ p.store _ ((hh.below blw_).rh _ _)).mono ?_; rintro e w1 ⟨rfl, hB⟩; obtain ⟨hbc, hbf, hbz⟩ := bcell hB; have z0w1 : w.heap.size < w1.heap.size := (by (try simp at hbz); omega); have z1w1 : w.heap.size + 1 < w1.heap.size := (by (try simp at hbz); omega))
  have hB9 : Below (w.heap.size + 2) ((w.alloc (.cells #[.slice A p.store.cells.length c, .slice A' p.store.roots.length c', .slice A2 p.colours.length c2, .bool false] 28)).alloc (.cells #[.slice A p.store.cells.length c, .slice A' p.store.roots.length c'] 26)) w1 := hB.mono (by simp)
  clear hB hbc hbf hbz z0w1 z1w1 hl2 hvd
  go_loopw [4] (fun i wr => ∃ k : Nat, k ≤ p.colours.length ∧ i = .int .i64 k ∧ Hid (paintM p = (((p.colours.zip p.store.cells).drop k).all (cellPaint p.colours p.active) && (!p.active || !anyWhite p.colours p.store.roots))) ∧ Below (w.heap.size + 2) ((w.alloc (.cells #[.slice A p.store.cells.length c, .slice A' p.store.roots.length c', .slice A2 p.colours.length c2, .bool false] 28)).alloc (.cells #[.slice A p.store.cells.length c, .slice A' p.store.roots.length c'] 26)) wr) (fun i _ => p.colours.length - (intOf i).toNat)
  case atStart => exact ⟨0, by omega, rfl, H0.out, hB9⟩
  case round =>
    clear hB9
    obtain ⟨k, hk, rfl, HS, hB⟩ := hrel
    have hB0 : Below w.heap.size w wr := Below.trans blw_ (hB.mono (by omega))
    obtain ⟨hbc, hbf, hbz⟩ := bcell (hB.mono (show ((w.alloc (.cells #[.slice A p.store.cells.length c, .slice A' p.store.roots.length c', .slice A2 p.colours.length c2, .bool false] 28)).alloc (.cells #[.slice A p.store.cells.length c, .slice A' p.store.roots.length c'] 26)).heap.size ≤ w.heap.size + 2 by simp))
    have z0wr : w.heap.size < wr.heap.size := (by (try simp at hbz); omega); have z1wr : w.heap.size + 1 < wr.heap.size := (by (try simp at hbz); omega)
    have hcc := hc.below hB0
    by_cases hlt : k < p.colours.length
    · obtain ⟨b, o, x, rfl, gx, c1, hb⟩ := hcc.at_ hlt
      have c1' : wr.cell? ⟨b, o + k, none⟩ = some (.int .i64 x) := c1
      obtain ⟨b', o', y, Ar, cr, rfl, gy, d1, d2, d3, hrr, hrl, hb'⟩ := (hh.cells.below hB0).at_ (k := k) (by omega)
      have hlr := HLC.out y (List.mem_of_getElem? gy)
      have GZ := Lib.hid (zip_get gx gy)
      have HLT : Hid (∀ r ∈ y.refs, r < p.colours.length) := by unfold Hid; rw [HL.out]; exact hlr
      clear gx gy c1 hlr
      have bad : cellPaint p.colours p.active (x, y) = false → paintM p = false := fun e => by rw [HS.out, all_drop _ GZ.out, e]; simp
      have good : cellPaint p.colours p.active (x, y) = true → Hid (paintM p = (((p.colours.zip p.store.cells).drop (k + 1)).all (cellPaint p.colours p.active) && (!p.active || !anyWhite p.colours p.store.roots))) := fun e => by unfold Hid; rw [HS.out, all_drop _ GZ.out, e]; simp
      clear hc hh HS
      cases hin : inB 0 x 2
      · have HF := Lib.hid (bad (by simp [cellPaint, hin]))
        clear bad good
        go_wp2_with (go_at_call 63; refine (l1In_any _ _ _ _).mono ?_; rintro e w' ⟨rfl, rfl⟩)
        go_ret
        exact ⟨ret_bool HF.out.symm, blw_⟩
      have hrest : cellPaint p.colours p.active (x, y) = (x == 0) := by
        rcases Classical.em (x = 0) with e | e
        · subst e; simp [cellPaint, HACT.out, hin]
        · simp [cellPaint, HACT.out, hin, e]
      rcases Classical.em (x = 0) with h4 | h4
      · subst h4
        have HG := good (by rw [hrest]; rfl)
        clear bad good
        cases hu : y.used
        · rw [hu] at d1
          go_wp2_with (go_at_call 63; refine (l1In_any _ _ _ _).mono ?_; rintro e w' ⟨rfl, rfl⟩)
          refine wp_loop_once ?_
          go_wp2
          all_goals
            go_roundw
            case rel => exact ⟨k + 1, by omega, by go_num, HG, blw_⟩
            case measure => simp [intOf]; omega
        · rw [hu] at d1
          go_wp2_with (go_at_call 63; refine (l1In_any _ _ _ _).mono ?_; rintro e w' ⟨rfl, rfl⟩)
          refine wp_loop_once ?_
          go_wp2
          all_goals
            go_roundw
            case rel => exact ⟨k + 1, by omega, by go_num, HG, blw_⟩
            case measure => simp [intOf]; omega
      · have h4' : (x != 0) = true := by simpa using h4
        have HF := Lib.hid (bad (by rw [hrest]; simp [h4]))
        clear bad good
        cases hu : y.used
        all_goals
          rw [hu] at d1
          go_wp2_with (go_at_call 63; refine (l1In_any _ _ _ _).mono ?_; rintro e w' ⟨rfl, rfl⟩)
          go_ret
          exact ⟨ret_bool HF.out.symm, blw_⟩
    · have hke : k = p.colours.length := by omega
      have HV : Hid (paintM p = (!p.active || !anyWhite p.colours p.store.roots)) := by
        unfold Hid
        rw [HS.out, List.drop_eq_nil_of_le (by rw [List.length_zip, hke]; omega)]
        simp
      have hrr := hh.roots.below hB0
      have hrl := hh.rlen
      have HLT : Hid (∀ r ∈ p.store.roots, r < p.colours.length) := by unfold Hid; rw [HL.out]; exact HLR.out
      clear hke HS hh hc
      go_wp2
      go_loopw [7] (fun j wq => ∃ m : Nat, m ≤ p.store.roots.length ∧ j = .int .i64 m ∧ Hid (paintM p = (!p.active || !anyWhite p.colours (p.store.roots.drop m))) ∧ wr = wq) (fun j _ => p.store.roots.length - (intOf j).toNat)
      case atStart => exact ⟨0, by omega, rfl, HV.out, rfl⟩
      case round =>
        obtain ⟨m, hm, rfl, HM, rfl⟩ := hrel
        by_cases hmt : m < p.store.roots.length
        · obtain ⟨b2, o2, z, rfl, gz, e1, hb2⟩ := hrr.at_ hmt
          have e1' : wr.cell? ⟨b2, o2 + m, none⟩ = some (.int .i64 z) := e1
          have hzl : z < (p.colours.length : Int) := HLT.out z (List.mem_of_getElem? gz)
          have GM := Lib.hid gz
          clear gz e1 hrr
          go_wp2
          go_roundw
          case rel => exact ⟨m + 1, by omega, by go_num, by unfold Hid; rw [HM.out, HACT.out]; rfl, by first | trivial | rfl⟩
          case measure => simp [intOf]; omega
        · have hme : m = p.store.roots.length := by omega
          have HT : Hid (paintM p = true) := by unfold Hid; rw [HM.out, hme]; simp [anyWhite]
          clear hme
          go_wp2
          go_ret
          exact ⟨ret_bool HT.out.symm, blw_⟩
theorem specPaintValid_any (v : Value) (p : PaintM) (w : World) (hv : RPt w v p) :
    Calls Try.prog 17 #[v] w fun e w' => e = .returned (.bool (paintM p)) ∧ Below w.heap.size w w' := by
  cases h : p.active
  · exact specPaintValid_false v p w hv h
  · exact specPaintValid_true v p w hv h
end Go.Proofs.Ytopbngfghpgbnaa
