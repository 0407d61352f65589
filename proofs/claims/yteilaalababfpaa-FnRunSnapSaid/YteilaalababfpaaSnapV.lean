/- Which snapshots are valid: the program's and the reference's SnapValid both tell snapM. -/
import Derived.Test.YteilaalababfpaaChecked
import Derived.Test.YteilaalababfpaaSet
import Derived.Test.YteilaalababfpaaGrHeap
namespace Go.Proofs.Yteilaalababfpaa
open Go.RowKit
set_option maxRecDepth 100000
set_option linter.all false
theorem usedBits_test (cs : List CellM) (i : Nat) : (usedBits cs).testBit i = usedN cs i := bitsOf_test _ _
set_option maxHeartbeats 400000 in
theorem implSnapValid_any (v : Value) (p : TwoM) (w : World) (hv : RTw w v p) :
    Calls Try.prog 16 #[v] w fun e w' => e = .returned (.bool (snapM p)) ∧ Below w.heap.size w w' := by
  obtain ⟨A, c, A', c', A2, c2, A3, c3, rfl, hh, hx, hxl, hy, hyl⟩ := hv
  cases hvd : validM p.store
  · go_enter Try.func16, Try.ntmps16
    go_wp2_with (go_at_call 35; refine (implHeapValid_any _ p.store _ ((hh.below blw_).rh _ _)).mono ?_; rintro e w1 ⟨rfl, hB⟩; obtain ⟨hbc, hbf, hbz⟩ := bcell hB; have z0w1 : w.heap.size < w1.heap.size := (by (try simp at hbz); omega))
    go_ret
    exact ⟨ret_bool (by rw [snapM, hvd]; simp), blw_⟩
  rcases (Classical.em (p.x.length = p.store.cells.length)).symm with hl | hl
  · have hl2 : ((p.x.length : Int) != (p.store.cells.length : Int)) = true := by simp; omega
    have HL := Lib.hid hl
    clear hl
    go_enter Try.func16, Try.ntmps16
    go_wp2_with (go_at_call 35; refine (implHeapValid_any _ p.store _ ((hh.below blw_).rh _ _)).mono ?_; rintro e w1 ⟨rfl, hB⟩; obtain ⟨hbc, hbf, hbz⟩ := bcell hB; have z0w1 : w.heap.size < w1.heap.size := (by (try simp at hbz); omega))
    go_ret
    exact ⟨ret_bool (by rw [snapM]; simp [HL.out]), blw_⟩
  have hl2 : ((p.x.length : Int) != (p.store.cells.length : Int)) = false := by simp [hl]
  rcases (Classical.em (p.y.length = p.store.cells.length)).symm with hm | hm
  · have hm2 : ((p.y.length : Int) != (p.store.cells.length : Int)) = true := by simp; omega
    have HL := Lib.hid hm
    clear hl hm
    go_enter Try.func16, Try.ntmps16
    go_wp2_with (go_at_call 35; refine (implHeapValid_any _ p.store _ ((hh.below blw_).rh _ _)).mono ?_; rintro e w1 ⟨rfl, hB⟩; obtain ⟨hbc, hbf, hbz⟩ := bcell hB; have z0w1 : w.heap.size < w1.heap.size := (by (try simp at hbz); omega))
    go_ret
    exact ⟨ret_bool (by rw [snapM]; simp [HL.out]), blw_⟩
  have hm2 : ((p.y.length : Int) != (p.store.cells.length : Int)) = false := by simp [hm]
  have h40 := (validM_len hvd).1
  have bx : bitsOf p.x < 18446744073709551616 := bitsOf_lt64 (by omega)
  have bY : bitsOf p.y < 18446744073709551616 := bitsOf_lt64 (by omega)
  have bu : usedBits p.store.cells < 18446744073709551616 := bitsOf_lt64 (by simp; omega)
  have H0 : Hid (snapM p = (decide (andN (bitsOf p.y) (bitsOf p.x) = 0) && decide (andN (bitsOf p.x) (usedBits p.store.cells) = 0))) := by
    unfold Hid
    rw [snapM, hvd, Bool.eq_iff_iff]
    simp only [hl, hm, decide_true, Bool.true_and, Bool.and_eq_true, decide_eq_true_eq, all_range, andN_zero bY bx, andN_zero bx bu, bitsOf_test, usedBits_test]
    constructor
    · intro h
      refine ⟨fun i hi => ?_, fun i hi => ?_⟩
      · rcases Nat.lt_or_ge i p.store.cells.length with h1 | h1
        · have := h i h1
          simp only [snapOk, hi, Bool.and_eq_true] at this
          simpa using this.1
        · rw [getD_len (by omega)] at hi; cases hi
      · rcases Nat.lt_or_ge i p.store.cells.length with h1 | h1
        · have := h i h1
          simp only [snapOk, hi, Bool.and_eq_true] at this
          simpa using this.2
        · rw [getD_len (by omega)] at hi; cases hi
    · rintro ⟨h1, h2⟩ i _
      simp only [snapOk, Bool.and_eq_true, Bool.or_eq_true, Bool.not_eq_true']
      refine ⟨?_, ?_⟩
      · cases hi : p.y.getD i false
        · exact .inl rfl
        · exact .inr (h1 i hi)
      · cases hi : p.x.getD i false
        · exact .inl rfl
        · exact .inr (h2 i hi)
  have e1 : bits .andNot .u64 ((bitsOf p.y : Nat) : Int) ((bitsOf p.x : Nat) : Int) = ((andN (bitsOf p.y) (bitsOf p.x) : Nat) : Int) := u64_andNot_nat _ _ bY bx
  have e2 : bits .andNot .u64 ((bitsOf p.x : Nat) : Int) ((usedBits p.store.cells : Nat) : Int) = ((andN (bitsOf p.x) (usedBits p.store.cells) : Nat) : Int) := u64_andNot_nat _ _ bx bu
  have HLX := Lib.hid hl
  have HLY := Lib.hid hm
  have hx64 : p.x.length ≤ 64 := by omega
  have hy64 : p.y.length ≤ 64 := by omega
  have hc64 : p.store.cells.length ≤ 64 := by omega
  clear hl hm bx bY bu
  rcases (Classical.em (andN (bitsOf p.y) (bitsOf p.x) = 0)).symm with z1 | z1
  · have z1' : (((andN (bitsOf p.y) (bitsOf p.x) : Nat) : Int) == 0) = false := by simpa using z1
    have Z1 := Lib.hid z1
    clear z1
    go_enter Try.func16, Try.ntmps16
    go_wp2_with (go_at_call 35; refine (implHeapValid_any _ p.store _ ((hh.below blw_).rh _ _)).mono ?_; rintro e w1 ⟨rfl, hB⟩; obtain ⟨hbc, hbf, hbz⟩ := bcell hB; have z0w1 : w.heap.size < w1.heap.size := (by (try simp at hbz); omega))
    refine (setOf_any _ p.x _ _ (hx.below blw_) hx64).mono ?_
    rintro e w2 ⟨rfl, hB2⟩
    obtain ⟨hbc2, hbf2, hbz2⟩ := bcell hB2
    have z0w2 : w.heap.size < w2.heap.size := (by (try simp at hbz2); omega)
    go_wp2_with fail
    refine (setOf_any _ p.y _ _ (hy.below blw_) hy64).mono ?_
    rintro e w3 ⟨rfl, hB3⟩
    obtain ⟨hbc3, hbf3, hbz3⟩ := bcell hB3
    have z0w3 : w.heap.size < w3.heap.size := (by (try simp at hbz3); omega)
    go_wp2_with fail
    go_ret
    exact ⟨ret_bool (by rw [H0.out]; simp [Z1.out]), blw_⟩
  have z1' : (((andN (bitsOf p.y) (bitsOf p.x) : Nat) : Int) == 0) = true := by simp [z1]
  have Z1 := Lib.hid z1
  clear z1
  go_enter Try.func16, Try.ntmps16
  go_wp2_with (go_at_call 35; refine (implHeapValid_any _ p.store _ ((hh.below blw_).rh _ _)).mono ?_; rintro e w1 ⟨rfl, hB⟩; obtain ⟨hbc, hbf, hbz⟩ := bcell hB; have z0w1 : w.heap.size < w1.heap.size := (by (try simp at hbz); omega))
  refine (setOf_any _ p.x _ _ (hx.below blw_) hx64).mono ?_
  rintro e w2 ⟨rfl, hB2⟩
  obtain ⟨hbc2, hbf2, hbz2⟩ := bcell hB2
  have z0w2 : w.heap.size < w2.heap.size := (by (try simp at hbz2); omega)
  go_wp2_with fail
  refine (setOf_any _ p.y _ _ (hy.below blw_) hy64).mono ?_
  rintro e w3 ⟨rfl, hB3⟩
  obtain ⟨hbc3, hbf3, hbz3⟩ := bcell hB3
  have z0w3 : w.heap.size < w3.heap.size := (by (try simp at hbz3); omega)
  go_wp2_with fail
  refine (usedSet_any _ p.store _ ((hh.below blw_).rh _ _) hc64).mono ?_
  rintro e w4 ⟨rfl, hB4⟩
  go_wp2_with fail
  go_ret
  refine ⟨ret_bool ?_, blw_⟩
  rw [H0.out, Z1.out, Bool.eq_iff_iff]
  simp
set_option maxHeartbeats 400000 in
theorem specSnapValid_any (v : Value) (p : TwoM) (w : World) (hv : RTw w v p) :
    Calls Try.prog 17 #[v] w fun e w' => e = .returned (.bool (snapM p)) ∧ Below w.heap.size w w' := by
  obtain ⟨A, c, A', c', A2, c2, A3, c3, rfl, hh, hx, hxl, hy, hyl⟩ := hv
  cases hvd : validM p.store
  · go_enter Try.func17, Try.ntmps17
    go_wp2_with (go_at_call 23; refine (specHeapValid_any _ p.store _ ((hh.below blw_).rh _ _)).mono ?_; rintro e w1 ⟨rfl, hB⟩; obtain ⟨hbc, hbf, hbz⟩ := bcell hB; have z0w1 : w.heap.size < w1.heap.size := (by (try simp at hbz); omega))
    go_ret
    exact ⟨ret_bool (by rw [snapM, hvd]; simp), blw_⟩
  rcases (Classical.em (p.x.length = p.store.cells.length)).symm with hl | hl
  · have hl2 : ((p.x.length : Int) != (p.store.cells.length : Int)) = true := by simp; omega
    have HL := Lib.hid hl
    clear hl
    go_enter Try.func17, Try.ntmps17
    go_wp2_with (go_at_call 23; refine (specHeapValid_any _ p.store _ ((hh.below blw_).rh _ _)).mono ?_; rintro e w1 ⟨rfl, hB⟩; obtain ⟨hbc, hbf, hbz⟩ := bcell hB; have z0w1 : w.heap.size < w1.heap.size := (by (try simp at hbz); omega))
    go_ret
    exact ⟨ret_bool (by rw [snapM]; simp [HL.out]), blw_⟩
  have hl2 : ((p.x.length : Int) != (p.store.cells.length : Int)) = false := by simp [hl]
  rcases (Classical.em (p.y.length = p.store.cells.length)).symm with hm | hm
  · have hm2 : ((p.y.length : Int) != (p.store.cells.length : Int)) = true := by simp; omega
    have HL := Lib.hid hm
    clear hl hm
    go_enter Try.func17, Try.ntmps17
    go_wp2_with (go_at_call 23; refine (specHeapValid_any _ p.store _ ((hh.below blw_).rh _ _)).mono ?_; rintro e w1 ⟨rfl, hB⟩; obtain ⟨hbc, hbf, hbz⟩ := bcell hB; have z0w1 : w.heap.size < w1.heap.size := (by (try simp at hbz); omega))
    go_ret
    exact ⟨ret_bool (by rw [snapM]; simp [HL.out]), blw_⟩
  have hm2 : ((p.y.length : Int) != (p.store.cells.length : Int)) = false := by simp [hm]
  have H0 : Hid (snapM p = (List.range p.store.cells.length).all (snapOk p)) := by
    unfold Hid; rw [snapM, hvd]; simp [hl, hm]
  have hxy : p.x.length ≤ p.y.length := by omega
  have hxc : p.x.length ≤ p.store.cells.length := by omega
  have HLX := Lib.hid hl
  clear hl hm
  go_enter Try.func17, Try.ntmps17
  go_wp2_with (go_at_call 23; refine (specHeapValid_any _ p.store _ ((hh.below blw_).rh _ _)).mono ?_; rintro e w1 ⟨rfl, hB⟩; obtain ⟨hbc, hbf, hbz⟩ := bcell hB; have z0w1 : w.heap.size < w1.heap.size := (by (try simp at hbz); omega))
  have hB9 : Below (w.heap.size + 1) (w.alloc (.cells #[.slice A p.store.cells.length c, .slice A' p.store.roots.length c', .slice A2 p.x.length c2, .slice A3 p.y.length c3] 29)) w1 := hB.mono (by simp)
  clear hB hbc hbf hbz z0w1 hl2 hm2
  go_loopw [3] (fun i wr => ∃ k : Nat, k ≤ p.x.length ∧ i = .int .i64 k ∧ Hid (∀ i, i < k → snapOk p i = true) ∧ Below (w.heap.size + 1) (w.alloc (.cells #[.slice A p.store.cells.length c, .slice A' p.store.roots.length c', .slice A2 p.x.length c2, .slice A3 p.y.length c3] 29)) wr) (fun i _ => p.x.length - (intOf i).toNat)
  case atStart => exact ⟨0, by omega, rfl, fun i hi => absurd hi (by omega), hB9⟩
  case round =>
    clear hB9
    obtain ⟨k, hk, rfl, HS, hB⟩ := hrel
    have hB0 : Below w.heap.size w wr := Below.trans blw_ (hB.mono (by omega))
    obtain ⟨hbc, hbf, hbz⟩ := bcell (hB.mono (show (w.alloc (.cells #[.slice A p.store.cells.length c, .slice A' p.store.roots.length c', .slice A2 p.x.length c2, .slice A3 p.y.length c3] 29)).heap.size ≤ w.heap.size + 1 by simp))
    have z0wr : w.heap.size < wr.heap.size := (by (try simp at hbz); omega)
    by_cases hlt : k < p.x.length
    · obtain ⟨b, o, x, rfl, gx, c1, hb⟩ := (hx.below hB0).at_ hlt
      have c1' : wr.cell? ⟨b, o + k, none⟩ = some (.bool x) := c1
      obtain ⟨b2, o2, y, rfl, gy, e1, hb2⟩ := (hy.below hB0).at_ (k := k) (by omega)
      have e1' : wr.cell? ⟨b2, o2 + k, none⟩ = some (.bool y) := e1
      obtain ⟨b', o', z, Ar, cr, rfl, gz, d1, d2, d3, -, -, hb'⟩ := (hh.cells.below hB0).at_ (k := k) (by omega)
      have HO : Hid (snapOk p k = ((!y || x) && (!x || z.used))) := by
        unfold Hid; rw [snapOk, getD_of gy, getD_of gx, usedN_at gz]
      have hkc : k < p.store.cells.length := by omega
      have hky : k < p.y.length := by omega
      clear gx gy gz c1 e1 hx hy hh
      have bad : snapOk p k = false → snapM p = false := fun e => by rw [H0.out]; exact all_range_false hkc e
      have good : snapOk p k = true → Hid (∀ i, i < k + 1 → snapOk p i = true) := fun e i hi => by
        rcases Nat.lt_or_ge i k with h | h
        · exact HS.out i h
        · rw [show i = k by omega]; exact e
      cases hu : z.used
      all_goals
        rw [hu] at d1
        cases x
        all_goals
          cases y
          all_goals
            first
            | (have HG := good (by rw [HO.out]; simp [hu])
               clear good bad
               go_wp2
               go_roundw
               case rel => exact ⟨k + 1, by omega, by go_num, HG, blw_⟩
               case measure => simp [intOf]; omega)
            | (have HF := Lib.hid (bad (by rw [HO.out]; simp [hu]))
               clear good bad
               go_wp2
               go_ret
               exact ⟨ret_bool HF.out.symm, blw_⟩)
    · have hke : k = p.x.length := by omega
      have HT : Hid (snapM p = true) := by
        unfold Hid; rw [H0.out, all_range, ← HLX.out, ← hke]; exact HS.out
      clear hke
      go_wp2
      go_ret
      exact ⟨ret_bool HT.out.symm, blw_⟩
end Go.Proofs.Yteilaalababfpaa