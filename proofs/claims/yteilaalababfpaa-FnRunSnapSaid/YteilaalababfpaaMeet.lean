/- Meeting cells: the recorder's meet and the reference's l19Meet write the two lists of a snapshot as meetL and meet1 say. -/
import Derived.Test.YteilaalababfpaaChecked
import Derived.RegionTactic
import Derived.BigRegion
import Derived.Test.YteilaalababfpaaGrOwn
import Derived.Test.YteilaalababfpaaGrData
namespace Go.Proofs.Yteilaalababfpaa
open Go.RowKit
set_option maxRecDepth 100000
set_option linter.all false
theorem meet_pair {xy : List Bool × List Bool} {xs ys : List Bool} (h : (xs, ys) = xy) : xs = xy.1 ∧ ys = xy.2 := by rw [← h]; exact ⟨rfl, rfl⟩
set_option maxHeartbeats 400000 in
theorem meet_any (g : Nat) (A2 A3 Ar : Option Addr) (c2 c3 cr : Nat) (xs ys : List Bool) (rs : List Int) (w : World) (h2 : w.cell? ⟨g, 2, none⟩ = some (.slice A2 xs.length c2)) (h3 : w.cell? ⟨g, 3, none⟩ = some (.slice A3 ys.length c3))
    (hx : OF 4 fb w A2 c2 xs) (hy : OF 4 fb w A3 c3 ys) (hl : ys.length = xs.length) (hg2 : g ∉ blk A2) (hg3 : g ∉ blk A3) (hd : ∀ b ∈ blk A3, b ∉ blk A2)
    (hr : ∀ W, Only (blk A2 ++ blk A3) w W → RF fi W Ar rs) (hrl : rs.length ≤ 9223372036854775807) (hlt : ∀ r ∈ rs, r < xs.length) (hxl : xs.length ≤ 9223372036854775807) :
    Calls Try.prog 74 #[.pointer (some ⟨g, 0, none⟩), .slice Ar rs.length cr] w fun e w' => e = .returned (.tuple #[]) ∧ OF 4 fb w' A2 c2 (meetL (xs, ys) rs).1 ∧ OF 4 fb w' A3 c3 (meetL (xs, ys) rs).2 ∧ Only (blk A2 ++ blk A3) w w' := by
  have HLT := Lib.hid hlt
  have HR := Lib.hid hr
  have HL := Lib.hid hl
  have HD := Lib.hid hd
  have hgn : g ∉ blk A2 ++ blk A3 := by rw [List.mem_append]; exact fun h => h.elim hg2 hg3
  clear hlt hr hl hd
  go_enter Try.func74, Try.ntmps74
  go_wp2
  go_loopw [8] (fun i wr => ∃ (j : Nat) (us vs : List Bool), j ≤ rs.length ∧ i = .int .i64 j ∧ Hid ((us, vs) = meetL (xs, ys) (rs.take j)) ∧ OF 4 fb wr A2 c2 us ∧ OF 4 fb wr A3 c3 vs ∧ Only (blk A2 ++ blk A3) w wr) (fun i _ => rs.length - (intOf i).toNat)
  case atStart => exact ⟨0, xs, ys, by omega, rfl, rfl, hx, hy, Only.refl _ _⟩
  case round =>
    obtain ⟨j, us, vs, hj, rfl, HY, hU, hV, hOn⟩ := hrel
    have hul : us.length = xs.length := by rw [(meet_pair HY.out).1]; exact (meetL_len _ _).1
    have hvl : vs.length = xs.length := by rw [(meet_pair HY.out).2]; exact (meetL_len _ _).2.trans HL.out
    by_cases hlt : j < rs.length
    · obtain ⟨b, o, r, rfl, hr, c1, hb⟩ := (HR.out wr hOn).at_ hlt
      have hrx := HLT.out r (List.mem_of_getElem? hr)
      have HS := Lib.hid (meetL_snoc (xy := (xs, ys)) hr)
      have c1' : wr.cell? ⟨b, o + j, none⟩ = some (.int .i64 r) := c1
      have k2 := hOn.cell h2 hgn
      have k3 := hOn.cell h3 hgn
      have HUL := Lib.hid hul
      have HVL := Lib.hid hvl
      clear hr c1 hul hvl
      rcases Classical.em (r < 0) with h0 | h0
      · have HN : Hid ((us, vs) = meetL (xs, ys) (rs.take (j + 1))) := by unfold Hid; rw [HS.out, ← HY.out, meet1_neg h0]
        go_wp2
        go_roundw
        case rel => exact ⟨j + 1, us, vs, by omega, by go_num, HN, hU, hV, hOn⟩
        case measure => simp [intOf]; omega
      have hrn : r.toNat < us.length := by have := HUL.out; omega
      obtain ⟨q2, rfl, hq2⟩ := hU.some_ hrn
      obtain ⟨q3, rfl, hq3⟩ := hV.some_ (j := r.toNat) (by have := HVL.out; omega)
      have hu := List.getElem?_eq_getElem hrn
      have hv := List.getElem?_eq_getElem (l := vs) (i := r.toNat) (by have := HVL.out; omega)
      have m2 := hU.cell hu
      have m3 := hV.cell hv
      have f2 := hU.frozen r.toNat
      have f3 := hV.frozen r.toNat
      have hq : q3 ≠ q2 := fun e => HD.out q3 (by simp [blk]) (by simp [blk, e])
      have hrx' : r < (ys.length : Int) := by rw [HL.out]; exact hrx
      have hr0 : 0 ≤ r := by omega
      have hq' : q2 ≠ q3 := fun e => hq e.symm
      have hgq2 : g ≠ q2 := fun e => hg2 (by simp [blk, e])
      have hgq3 : g ≠ q3 := fun e => hg3 (by simp [blk, e])
      have hgq2' : q2 ≠ g := fun e => hgq2 e.symm
      have hgq3' : q3 ≠ g := fun e => hgq3 e.symm
      obtain ⟨bu, hbu⟩ : ∃ bu, bu = us[r.toNat] := ⟨_, rfl⟩
      obtain ⟨bv, hbv⟩ : ∃ bv, bv = vs[r.toNat]'(by have := HVL.out; omega) := ⟨_, rfl⟩
      rw [← hbu] at hu m2
      rw [← hbv] at hv m3
      clear hbu hbv
      cases bu
      · have HN : Hid ((us.set r.toNat true, vs.set r.toNat true) = meetL (xs, ys) (rs.take (j + 1))) := by unfold Hid; rw [HS.out, ← HY.out, meet1_new hr0 hu]
        have m2' : wr.cell? ⟨q2, r.toNat, none⟩ = some (.bool false) := m2
        have m3' : wr.cell? ⟨q3, r.toNat, none⟩ = some (.bool bv) := m3
        clear hu hv m2 m3 h0
        go_wp2
        go_region
        all_goals
          go_wp2
          go_roundw
          case rel =>
            refine ⟨j + 1, _, _, by omega, by go_num, HN, ?_, ?_, ?_⟩
            · first | exact (hU.set_ r.toNat true).ne_ (by simpa [blk] using hq) | exact ((hU.set_ r.toNat true).ne_ (by simpa [blk] using hq)).drew
            · first | exact (hV.ne_ (by simpa [blk] using hq')).set_ r.toNat true | exact ((hV.ne_ (by simpa [blk] using hq')).set_ r.toNat true).drew
            · first | exact ((hOn.setCell (.inl (by simp [blk])) _).setCell (.inl (by simp [blk])) _) | exact ((hOn.setCell (.inl (by simp [blk])) _).setCell (.inl (by simp [blk])) _).drew
          case measure => simp [intOf]; omega
      · have HN : Hid ((us, vs) = meetL (xs, ys) (rs.take (j + 1))) := by unfold Hid; rw [HS.out, ← HY.out, meet1_met hu]
        have m2' : wr.cell? ⟨q2, r.toNat, none⟩ = some (.bool true) := m2
        clear hu hv m2 m3 h0
        go_wp2
        go_roundw
        case rel => exact ⟨j + 1, us, vs, by omega, by go_num, HN, hU, hV, hOn⟩
        case measure => simp [intOf]; omega
    · have hke : j = rs.length := by omega
      have HK := Lib.hid hke
      clear hke
      go_wp2
      go_end0
      have e := HY.out
      rw [HK.out, List.take_length] at e
      obtain ⟨e1, e2⟩ := meet_pair e
      exact ⟨rfl, by rw [← e1]; exact hU, by rw [← e2]; exact hV, hOn⟩
set_option maxHeartbeats 400000 in
theorem l19Meet_any (A A' A2 A3 : Option Addr) (nc nr c c' c2 c3 : Nat) (xs ys : List Bool) (r : Int) (w : World)
    (hx : OF 4 fb w A2 c2 xs) (hy : OF 4 fb w A3 c3 ys) (hl : ys.length = xs.length) (hd : ∀ b ∈ blk A3, b ∉ blk A2) (hlt : r < xs.length) (hxl : xs.length ≤ 9223372036854775807) :
    Calls Try.prog 77 #[.agg #[.slice A nc c, .slice A' nr c', .slice A2 xs.length c2, .slice A3 ys.length c3], .int .i64 r] w fun e w' => e = .returned (.tuple #[]) ∧ OF 4 fb w' A2 c2 (meet1 (xs, ys) r).1 ∧ OF 4 fb w' A3 c3 (meet1 (xs, ys) r).2 ∧ Only (blk A2 ++ blk A3) w w' := by
  have HL := Lib.hid hl
  have HD := Lib.hid hd
  clear hl hd
  have hxb := hx.below (w' := (w.alloc (.cells #[.slice A nc c, .slice A' nr c', .slice A2 xs.length c2, .slice A3 ys.length c3] 29))) blw_
  have hyb := hy.below (w' := (w.alloc (.cells #[.slice A nc c, .slice A' nr c', .slice A2 xs.length c2, .slice A3 ys.length c3] 29))) blw_
  have hOn : Only (blk A2 ++ blk A3) w (w.alloc (.cells #[.slice A nc c, .slice A' nr c', .slice A2 xs.length c2, .slice A3 ys.length c3] 29)) := (Only.refl _ _).alloc _
  rcases Classical.em (r < 0) with h0 | h0
  · have HN := Lib.hid (meet1_neg (xy := (xs, ys)) h0)
    go_enter Try.func77, Try.ntmps77
    go_wp2
    go_end0
    exact ⟨rfl, by rw [HN.out]; exact hxb, by rw [HN.out]; exact hyb, hOn⟩
  have hrn : r.toNat < xs.length := by omega
  obtain ⟨q2, rfl, hq2⟩ := hx.some_ hrn
  obtain ⟨q3, rfl, hq3⟩ := hy.some_ (j := r.toNat) (by have := HL.out; omega)
  have hu := List.getElem?_eq_getElem hrn
  have hv := List.getElem?_eq_getElem (l := ys) (i := r.toNat) (by have := HL.out; omega)
  have m2 := hx.cell hu
  have m3 := hy.cell hv
  have f2 := hx.frozen r.toNat
  have f3 := hy.frozen r.toNat
  have hq : q3 ≠ q2 := fun e => HD.out q3 (by simp [blk]) (by simp [blk, e])
  have hq' : q2 ≠ q3 := fun e => hq e.symm
  have hg2 : w.heap.size ≠ q2 := by omega
  have hrx' : r < (ys.length : Int) := by rw [HL.out]; exact hlt
  have hr0 : 0 ≤ r := by omega
  obtain ⟨bu, hbu⟩ : ∃ bu, bu = xs[r.toNat] := ⟨_, rfl⟩
  obtain ⟨bv, hbv⟩ : ∃ bv, bv = ys[r.toNat]'(by have := HL.out; omega) := ⟨_, rfl⟩
  rw [← hbu] at hu m2
  rw [← hbv] at hv m3
  clear hbu hbv
  cases bu
  · have HN := Lib.hid (meet1_new (xy := (xs, ys)) hr0 hu)
    have m2' : w.cell? ⟨q2, r.toNat, none⟩ = some (.bool false) := m2
    have m3' : w.cell? ⟨q3, r.toNat, none⟩ = some (.bool bv) := m3
    clear hu hv m2 m3 h0
    go_enter Try.func77, Try.ntmps77
    go_wp2
    go_end0
    exact ⟨rfl, by rw [HN.out]; exact ((hx.set_ r.toNat true).ne_ (by simpa [blk] using hq)).alloc_ _, by rw [HN.out]; exact ((hy.ne_ (by simpa [blk] using hq')).set_ r.toNat true).alloc_ _, (((Only.refl _ _).setCell (.inl (by simp [blk])) _).setCell (.inl (by simp [blk])) _).alloc _⟩
  · have HN := Lib.hid (meet1_met (xy := (xs, ys)) hu)
    have m2' : w.cell? ⟨q2, r.toNat, none⟩ = some (.bool true) := m2
    clear hu hv m2 m3 h0
    go_enter Try.func77, Try.ntmps77
    go_wp2
    go_end0
    exact ⟨rfl, by rw [HN.out]; exact hxb, by rw [HN.out]; exact hyb, hOn⟩
end Go.Proofs.Yteilaalababfpaa