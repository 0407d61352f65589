/- Making white cells grey: the program's grey and the reference's l18Grey write the list of colours as greyL and grey1 say. -/
import Derived.Test.YtopbngfghpgbnaaChecked
import Derived.Test.YtopbngfghpgbnaaGrOwn
import Derived.Test.YtopbngfghpgbnaaGrData
namespace Go.Proofs.Ytopbngfghpgbnaa
open Go.RowKit
set_option maxRecDepth 100000
set_option linter.unusedSimpArgs false
set_option linter.unusedVariables false
theorem grey1_neg {cols : List Int} {r : Int} (h : r < 0) : grey1 cols r = cols := grey1_not (whiteM_neg h)
theorem grey1_other {cols : List Int} {r x : Int} (h0 : 0 ≤ r) (hx : cols[r.toNat]? = some x) (h : x ≠ 0) : grey1 cols r = cols := grey1_not (by rw [whiteM_at h0 hx]; simpa using h)
theorem grey1_zero {cols : List Int} {r : Int} (h0 : 0 ≤ r) (hx : cols[r.toNat]? = some 0) : grey1 cols r = cols.set r.toNat 1 := grey1_white (by rw [whiteM_at h0 hx]; rfl)
set_option maxHeartbeats 400000 in
theorem grey_any (g : Nat) (A2 Ar : Option Addr) (c2 cr : Nat) (xs : List Int) (rs : List Int) (w : World) (h2 : w.cell? ⟨g, 2, none⟩ = some (.slice A2 xs.length c2))
    (hx : OF 3 fi w A2 c2 xs) (hg2 : g ∉ blk A2)
    (hr : ∀ W, Only (blk A2) w W → RF fi W Ar rs) (hrl : rs.length ≤ 9223372036854775807) (hlt : ∀ r ∈ rs, r < xs.length) (hxl : xs.length ≤ 9223372036854775807) :
    Calls Try.prog 77 #[.pointer (some ⟨g, 0, none⟩), .slice Ar rs.length cr] w fun e w' => e = .returned (.tuple #[]) ∧ OF 3 fi w' A2 c2 (greyL xs rs) ∧ Only (blk A2) w w' := by
  have HLT := Lib.hid hlt
  have HR := Lib.hid hr
  clear hlt hr
  go_enter Try.func77, Try.ntmps77
  go_wp2
  go_loopw [8] (fun i wr => ∃ (j : Nat) (us : List Int), j ≤ rs.length ∧ i = .int .i64 j ∧ Hid (us = greyL xs (rs.take j)) ∧ OF 3 fi wr A2 c2 us ∧ Only (blk A2) w wr) (fun i _ => rs.length - (intOf i).toNat)
  case atStart => exact ⟨0, xs, by omega, rfl, rfl, hx, Only.refl _ _⟩
  case round =>
    obtain ⟨j, us, hj, rfl, HY, hU, hOn⟩ := hrel
    have hul : us.length = xs.length := by rw [HY.out]; exact greyL_len _ _
    by_cases hlt : j < rs.length
    · obtain ⟨b, o, r, rfl, hr, c1, hb⟩ := (HR.out wr hOn).at_ hlt
      have hrx := HLT.out r (List.mem_of_getElem? hr)
      have HS := Lib.hid (greyL_snoc (cols := xs) hr)
      have c1' : wr.cell? ⟨b, o + j, none⟩ = some (.int .i64 r) := c1
      have k2 := hOn.cell h2 hg2
      have HUL := Lib.hid hul
      clear hr c1 hul
      rcases Classical.em (r < 0) with h0 | h0
      · have HN : Hid (us = greyL xs (rs.take (j + 1))) := by unfold Hid; rw [HS.out, ← HY.out, grey1_neg h0]
        go_wp2
        go_roundw
        case rel => exact ⟨j + 1, us, by omega, by go_num, HN, hU, hOn⟩
        case measure => simp [intOf]; omega
      have hrn : r.toNat < us.length := by have := HUL.out; omega
      obtain ⟨q2, rfl, hq2⟩ := hU.some_ hrn
      have hu := List.getElem?_eq_getElem hrn
      have m2 := hU.cell hu
      have f2 := hU.frozen r.toNat
      have hr0 : 0 ≤ r := by omega
      obtain ⟨x, hx0⟩ : ∃ x, x = us[r.toNat] := ⟨_, rfl⟩
      rw [← hx0] at hu m2
      clear hx0
      have m2' : wr.cell? ⟨q2, r.toNat, none⟩ = some (.int .i64 x) := m2
      rcases Classical.em (x = 0) with hz | hz
      · subst hz
        have HN : Hid (us.set r.toNat 1 = greyL xs (rs.take (j + 1))) := by unfold Hid; rw [HS.out, ← HY.out, grey1_zero hr0 hu]
        clear hu m2 h0
        go_wp2
        go_roundw
        case rel => exact ⟨j + 1, _, by omega, by go_num, HN, hU.set_ r.toNat 1, hOn.setCell (.inl (by simp [blk])) _⟩
        case measure => simp [intOf]; omega
      · have HN : Hid (us = greyL xs (rs.take (j + 1))) := by unfold Hid; rw [HS.out, ← HY.out, grey1_other hr0 hu hz]
        have hz' : (x == 0) = false := by simpa using hz
        clear hu m2 h0 hz
        go_wp2
        go_roundw
        case rel => exact ⟨j + 1, us, by omega, by go_num, HN, hU, hOn⟩
        case measure => simp [intOf]; omega
    · have hke : j = rs.length := by omega
      have HK := Lib.hid hke
      clear hke
      go_wp2
      go_end0
      have e := HY.out
      rw [HK.out, List.take_length] at e
      exact ⟨rfl, by rw [← e]; exact hU, hOn⟩
set_option maxHeartbeats 400000 in
theorem l18Grey_any (A A' A2 : Option Addr) (nc nr c c' c2 : Nat) (act : Bool) (xs : List Int) (r : Int) (w : World)
    (hx : OF 3 fi w A2 c2 xs) (hlt : r < xs.length) (hxl : xs.length ≤ 9223372036854775807) :
    Calls Try.prog 69 #[.agg #[.slice A nc c, .slice A' nr c', .slice A2 xs.length c2, .bool act], .int .i64 r] w fun e w' => e = .returned (.tuple #[]) ∧ OF 3 fi w' A2 c2 (grey1 xs r) ∧ Only (blk A2) w w' := by
  rcases Classical.em (r < 0) with h0 | h0
  · have HN := Lib.hid (grey1_neg (cols := xs) h0)
    go_enter Try.func69, Try.ntmps69
    go_wp2
    go_end0
    exact ⟨rfl, by rw [HN.out]; exact hx.alloc_ _, (Only.refl _ _).alloc _⟩
  have hrn : r.toNat < xs.length := by omega
  obtain ⟨q2, rfl, hq2⟩ := hx.some_ hrn
  have hu := List.getElem?_eq_getElem hrn
  have m2 := hx.cell hu
  have f2 := hx.frozen r.toNat
  have hg2 : w.heap.size ≠ q2 := by omega
  have hr0 : 0 ≤ r := by omega
  obtain ⟨x, hx0⟩ : ∃ x, x = xs[r.toNat] := ⟨_, rfl⟩
  rw [← hx0] at hu m2
  clear hx0
  have m2' : w.cell? ⟨q2, r.toNat, none⟩ = some (.int .i64 x) := m2
  rcases Classical.em (x = 0) with hz | hz
  · subst hz
    have HN := Lib.hid (grey1_zero hr0 hu)
    clear hu m2 h0
    go_enter Try.func69, Try.ntmps69
    go_wp2
    go_end0
    exact ⟨rfl, by rw [HN.out]; exact (hx.set_ r.toNat 1).alloc_ _, ((Only.refl _ _).setCell (.inl (by simp [blk])) _).alloc _⟩
  · have HN := Lib.hid (grey1_other hr0 hu hz)
    have hz' : (x == 0) = false := by simpa using hz
    clear hu m2 h0 hz
    go_enter Try.func69, Try.ntmps69
    go_wp2
    go_end0
    exact ⟨rfl, by rw [HN.out]; exact hx.alloc_ _, (Only.refl _ _).alloc _⟩
end Go.Proofs.Ytopbngfghpgbnaa
