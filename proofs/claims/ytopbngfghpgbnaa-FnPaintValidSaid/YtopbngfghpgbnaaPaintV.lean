/- Which painted heaps are valid: the program's and the reference's PaintValid both tell paintM. -/
import Derived.Test.YtopbngfghpgbnaaChecked
import Derived.Test.YtopbngfghpgbnaaGrHeap
namespace Go.Proofs.Ytopbngfghpgbnaa
open Go.RowKit
set_option maxRecDepth 100000
set_option linter.unusedSimpArgs false
set_option linter.unusedVariables false


set_option maxHeartbeats 400000 in
theorem isWhite_any (bp : Nat) (A2 : Option Addr) (cols : List Int) (c2 : Nat) (Ar : Option Addr) (rs : List Int) (cr : Nat) (w : World) (hb : bp < w.heap.size) (h2 : w.cell? ⟨bp, 2, none⟩ = some (.slice A2 cols.length c2))
    (hc : RF fi w A2 cols) (hr : RF fi w Ar rs) (hrl : rs.length ≤ 9223372036854775807) (hcl : cols.length ≤ 9223372036854775807) (hlt : ∀ r ∈ rs, r < cols.length) :
    Calls Try.prog 61 #[.pointer (some ⟨bp, 0, none⟩), .slice Ar rs.length cr] w fun e w' => e = .returned (.bool (anyWhite cols rs)) ∧ w = w' := by
  have HL := Lib.hid hlt
  clear hlt
  go_enter Try.func61, Try.ntmps61
  go_wp2
  go_loop [9] (fun i => ∃ k : Nat, k ≤ rs.length ∧ i = .int .i64 k ∧ Hid (anyWhite cols rs = anyWhite cols (rs.drop k))) (fun i => rs.length - (intOf i).toNat)
  case atStart => exact ⟨0, by omega, rfl, rfl⟩
  case round =>
    obtain ⟨k, hk, rfl, HS⟩ := hrel
    by_cases hlt : k < rs.length
    · obtain ⟨b, o, x, rfl, gx, c1, hb1⟩ := hr.at_ hlt
      have c2' : w.cell? ⟨b, o + k, none⟩ = some (.int .i64 x) := c1
      have hxl : x < (cols.length : Int) := HL.out x (List.mem_of_getElem? gx)
      have GX := Lib.hid gx
      clear gx c1 hr
      rcases Classical.em (x < 0) with h0 | h0
      · have HE := Lib.hid (whiteM_neg (cols := cols) h0)
        go_wp2
        go_round
        case rel => exact ⟨k + 1, by omega, by go_num, by unfold Hid; rw [HS.out, anyWhite, any_drop _ GX.out, HE.out]; simp [anyWhite]⟩
        case measure => simp [intOf]; omega
      · obtain ⟨b', o', y, rfl, gy, d1, hb2⟩ := hc.at_ (k := x.toNat) (by omega)
        have d2 : w.cell? ⟨b', o' + x.toNat, none⟩ = some (.int .i64 y) := d1
        have HE := Lib.hid (whiteM_at (by omega) gy)
        clear gy d1 hc
        cases hy : (y == 0)
        all_goals
          have HY := Lib.hid hy
          go_wp2
        · go_round
          case rel => exact ⟨k + 1, by omega, by go_num, by unfold Hid; rw [HS.out, anyWhite, any_drop _ GX.out, HE.out, HY.out]; simp [anyWhite]⟩
          case measure => simp [intOf]; omega
        · go_ret
          exact ⟨ret_bool (by rw [HS.out, anyWhite, any_drop _ GX.out, HE.out, HY.out]; simp), rfl⟩
    · have hke : k = rs.length := by omega
      have HK := Lib.hid hke
      clear hke
      go_wp2
      go_ret
      exact ⟨ret_bool (by rw [HS.out, HK.out]; simp [anyWhite]), rfl⟩
theorem zip_get {cols : List Int} {cs : List CellM} {k : Nat} {x : Int} {c : CellM} (h : cols[k]? = some x) (h2 : cs[k]? = some c) : (cols.zip cs)[k]? = some (x, c) := by
  rw [List.getElem?_zip_eq_some]; exact ⟨h, h2⟩
set_option maxHeartbeats 400000 in
theorem implPaintValid_any (v : Value) (p : PaintM) (w : World) (hv : RPt w v p) :
    Calls Try.prog 16 #[v] w fun e w' => e = .returned (.bool (paintM p)) ∧ Below w.heap.size w w' := by
  obtain ⟨A, c, A', c', A2, c2, rfl, hh, hc, hcl⟩ := hv
  cases hvd : validM p.store
  · go_enter Try.func16, Try.ntmps16
    go_wp2_with (go_at_call 40; refine (implHeapValid_any _ p.store _ ((hh.below blw_).rh _ _)).mono ?_; rintro e w1 ⟨rfl, hB⟩; obtain ⟨hbc, hbf, hbz⟩ := bcell hB; have z0w1 : w.heap.size < w1.heap.size := (by (try simp at hbz); omega))
    go_ret
    exact ⟨ret_bool (by rw [paintM, hvd]; simp), blw_⟩
  rcases (Classical.em (p.colours.length = p.store.cells.length)).symm with hl | hl
  · have hl2 : ((p.colours.length : Int) != (p.store.cells.length : Int)) = true := by simp; omega
    have HL := Lib.hid hl
    clear hl
    go_enter Try.func16, Try.ntmps16
    go_wp2_with (go_at_call 40; refine (implHeapValid_any _ p.store _ ((hh.below blw_).rh _ _)).mono ?_; rintro e w1 ⟨rfl, hB⟩; obtain ⟨hbc, hbf, hbz⟩ := bcell hB; have z0w1 : w.heap.size < w1.heap.size := (by (try simp at hbz); omega))
    go_ret
    exact ⟨ret_bool (by rw [paintM]; simp [HL.out]), blw_⟩
  have hl2 : ((p.colours.length : Int) != (p.store.cells.length : Int)) = false := by simp [hl]
  have hl3 : p.colours.length ≤ p.store.cells.length := by omega
  obtain ⟨HLC, HLR⟩ := validM_lt hvd
  have HLC := Lib.hid HLC
  have HLR := Lib.hid HLR
  have H0 : Hid (paintM p = ((p.colours.zip p.store.cells).all (cellPaint p.colours p.active) && (!p.active || !anyWhite p.colours p.store.roots))) := by
    unfold Hid; rw [paintM, hvd]; simp [hl]
  have HL := Lib.hid hl
  clear hl
  go_enter Try.func16, Try.ntmps16
  go_wp2_with (go_at_call 40; refine (implHeapValid_any _ p.store _ ((hh.below blw_).rh _ _)).mono ?_; rintro e w1 ⟨rfl, hB⟩; obtain ⟨hbc, hbf, hbz⟩ := bcell hB; have z0w1 : w.heap.size < w1.heap.size := (by (try simp at hbz); omega))
  have hB9 : Below (w.heap.size + 1) (w.alloc (.cells #[.slice A p.store.cells.length c, .slice A' p.store.roots.length c', .slice A2 p.colours.length c2, .bool p.active] 28)) w1 := hB.mono (by simp)
  clear hB hbc hbf hbz z0w1 hl2 hvd
  go_loopw [23] (fun i wr => ∃ k : Nat, k ≤ p.colours.length ∧ i = .int .i64 k ∧ Hid (paintM p = (((p.colours.zip p.store.cells).drop k).all (cellPaint p.colours p.active) && (!p.active || !anyWhite p.colours p.store.roots))) ∧ Below (w.heap.size + 1) (w.alloc (.cells #[.slice A p.store.cells.length c, .slice A' p.store.roots.length c', .slice A2 p.colours.length c2, .bool p.active] 28)) wr) (fun i _ => p.colours.length - (intOf i).toNat)
  case atStart => exact ⟨0, by omega, rfl, H0.out, hB9⟩
  case round =>
    clear hB9
    obtain ⟨k, hk, rfl, HS, hB⟩ := hrel
    have hB0 : Below w.heap.size w wr := Below.trans blw_ (hB.mono (by omega))
    obtain ⟨hbc, hbf, hbz⟩ := bcell (hB.mono (show (w.alloc (.cells #[.slice A p.store.cells.length c, .slice A' p.store.roots.length c', .slice A2 p.colours.length c2, .bool p.active] 28)).heap.size ≤ w.heap.size + 1 by simp))
    have z0wr : w.heap.size < wr.heap.size := (by (try simp at hbz); omega)
    have hcc := hc.below hB0
    by_cases hlt : k < p.colours.length
    · obtain ⟨b, o, x, rfl, gx, c1, hb⟩ := hcc.at_ hlt
      have c1' : wr.cell? ⟨b, o + k, none⟩ = some (.int .i64 x) := c1
      obtain ⟨b', o', y, Ar, cr, rfl, gy, d1, d2, d3, hrr, hrl, hb'⟩ := (hh.cells.below hB0).at_ (k := k) (by omega)
      have hlr := HLC.out y (List.mem_of_getElem? gy)
      have GZ := Lib.hid (zip_get gx gy)
      have HLT : Hid (∀ r ∈ y.refs, r < p.colours.length) := by unfold Hid; rw [HL.out]; exact hlr
      clear gx gy c1 hlr
      have bad : cellPaint p.colours p.active (x, y) = false → paintM p = false := fun e => by rw [HS.out, all_drop _ GZ.out, e]; simp
      have good : cellPaint p.colours p.active (x, y) = true → Hid (paintM p = (((p.colours.zip p.store.cells).drop (k + 1)).all (cellPaint p.colours p.active) && (!p.active || !anyWhite p.colours p.store.roots))) := fun e => by unfold Hid; rw [HS.out, all_drop _ GZ.out, e]; simp
      clear hc hh HS
      rcases Classical.em (x < 0) with h1 | h1
      · have HF := Lib.hid (bad (by have : inB 0 x 2 = false := inB_false.2 (by omega); simp [cellPaint, this]))
        clear bad good
        go_wp2
        go_ret
        exact ⟨ret_bool HF.out.symm, blw_⟩
      rcases Classical.em (2 < x) with h2 | h2
      · have HF := Lib.hid (bad (by have : inB 0 x 2 = false := inB_false.2 (by omega); simp [cellPaint, this]))
        clear bad good
        go_wp2
        go_ret
        exact ⟨ret_bool HF.out.symm, blw_⟩
      have hin : inB 0 x 2 = true := inB_iff.2 (by omega)
      rcases Classical.em (x = 0) with h3 | h3
      · subst h3
        have HG := good (by simp [cellPaint, hin])
        clear bad good
        go_wp2
        go_roundw
        case rel => exact ⟨k + 1, by omega, by go_num, HG, blw_⟩
        case measure => simp [intOf]; omega
      have h3' : (x != 0) = true := by simpa using h3
      cases hu : y.used
      · have HF := Lib.hid (bad (by simp [cellPaint, hu, h3]))
        clear bad good
        rw [hu] at d1
        go_wp2
        go_ret
        exact ⟨ret_bool HF.out.symm, blw_⟩
      rw [hu] at d1
      cases ha : p.active
      · have HF := Lib.hid (bad (by simp [cellPaint, ha, h3]))
        clear bad good
        rw [ha] at hbc
        go_wp2
        go_ret
        exact ⟨ret_bool HF.out.symm, by rw [ha] at hB; exact blw_⟩
      have hw2 : wr.cell? ⟨w.heap.size, 2, none⟩ = some (.slice (some ⟨b, o, none⟩) p.colours.length c2) := by rw [hbc _ _ (by simp)]; simp
      rcases Classical.em (x = 2) with h4 | h4
      · subst h4
        cases hw : anyWhite p.colours y.refs
        all_goals
          have HLT' := HLT.out
          have HLT2 := Lib.hid HLT'
          clear HLT'
        · have HG := good (by simp [cellPaint, hin, hu, ha, hw])
          clear bad good
          rw [ha] at hbc hB HG
          go_wp2_with (go_at_call 61; refine (isWhite_any _ _ p.colours _ _ y.refs _ _ (by simp; omega) (cell_below hw2 blw_) (hcc.below blw_) (hrr.below blw_) hrl hcl HLT2.out).mono ?_; rintro e w' ⟨rfl, rfl⟩)
          go_roundw
          case rel => exact ⟨k + 1, by omega, by go_num, HG, blw_⟩
          case measure => simp [intOf]; omega
        · have HF := Lib.hid (bad (by simp [cellPaint, hu, ha, hw]))
          clear bad good
          rw [ha] at hbc hB
          go_wp2_with (go_at_call 61; refine (isWhite_any _ _ p.colours _ _ y.refs _ _ (by simp; omega) (cell_below hw2 blw_) (hcc.below blw_) (hrr.below blw_) hrl hcl HLT2.out).mono ?_; rintro e w' ⟨rfl, rfl⟩)
          go_ret
          exact ⟨ret_bool HF.out.symm, blw_⟩
      · have HG := good (by simp [cellPaint, hin, hu, ha, h4])
        have h4' : (x == 2) = false := by simpa using h4
        clear bad good h4 h3
        rw [ha] at hbc hB HG
        go_wp2
        go_roundw
        case rel => exact ⟨k + 1, by omega, by go_num, HG, blw_⟩
        case measure => simp [intOf]; omega
    · have hke : k = p.colours.length := by omega
      have HV : Hid (paintM p = (!p.active || !anyWhite p.colours p.store.roots)) := by
        unfold Hid
        rw [HS.out, List.drop_eq_nil_of_le (by rw [List.length_zip, hke]; omega)]
        simp
      have HK := Lib.hid hke
      clear hke HS
      cases ha : p.active
      · rw [ha] at hbc hB
        go_wp2
        go_ret
        exact ⟨ret_bool (by rw [HV.out, ha]; simp), blw_⟩
      · have hw2 : wr.cell? ⟨w.heap.size, 2, none⟩ = some (.slice A2 p.colours.length c2) := by rw [hbc _ _ (by simp)]; simp
        have HLT : Hid (∀ r ∈ p.store.roots, r < p.colours.length) := by unfold Hid; rw [HL.out]; exact HLR.out
        have hrr := hh.roots.below hB0
        have hrl := hh.rlen
        clear hc hh
        rw [ha] at hbc hB
        go_wp2_with (go_at_call 61; refine (isWhite_any _ _ p.colours _ _ p.store.roots _ _ (by omega) (cell_below hw2 blw_) (hcc.below blw_) (hrr.below blw_) hrl hcl HLT.out).mono ?_; rintro e w' ⟨rfl, rfl⟩)
        go_ret
        exact ⟨ret_bool (by rw [HV.out, ha]; simp), blw_⟩
end Go.Proofs.Ytopbngfghpgbnaa
