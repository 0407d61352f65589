/- The comparisons eq.. of the laws: they tell whether both sides read as the same, and leave memory as it is. -/
import Derived.Test.YtkmfhadanbfadaaChecked
import Derived.Test.YtkmfhadanbfadaaGrOwn
namespace Go.Proofs.Ytkmfhadanbfadaa
open Go.RowKit
set_option maxRecDepth 100000
set_option linter.unusedSimpArgs false

set_option maxHeartbeats 400000 in
theorem eqIntS_any (A A' : Option Addr) (xs ys : List Int) (c c' : Nat) (w : World) (hx : RF fi w A xs) (hy : RF fi w A' ys) (hn : xs.length ≤ 9223372036854775807) (hn2 : ys.length ≤ 9223372036854775807) :
    Calls Try.prog 41 #[.slice A xs.length c, .slice A' ys.length c'] w fun e w' => e = .returned (.bool (eqB xs ys)) ∧ ∃ n, w' = w.drewN n := by
  by_cases hl : xs.length = ys.length
  · have HL := Lib.hid hl
    have hl2 : ((xs.length : Int) != (ys.length : Int)) = false := by simp [hl]
    have hl3 : xs.length ≤ ys.length := by omega
    clear hl
    go_enter Try.func41, Try.ntmps41
    go_wp2
    go_loopw [5] (fun i wr => ∃ (k : Nat), k ≤ xs.length ∧ i = .int .i64 k ∧ Hid (xs.take k = ys.take k) ∧ ∃ n, wr = w.drewN n) (fun i _ => xs.length - (intOf i).toNat)
    case atStart => exact ⟨0, by omega, rfl, rfl, 0, rfl⟩
    case round =>
      obtain ⟨k, hk, rfl, HT, n, rfl⟩ := hrel
      clear hl2
      by_cases hlt : k < xs.length
      · obtain ⟨b, o, x, rfl, gx, c1, hb⟩ := hx.at_ hlt
        obtain ⟨b', o', y, rfl, gy, c2, hb'⟩ := hy.at_ (k := k) (by omega)
        have GX := Lib.hid gx
        have GY := Lib.hid gy
        clear gx gy hx hy
        have d1 : w.cell? ⟨b, o + k, none⟩ = some (.int .i64 x) := c1
        have d2 : w.cell? ⟨b', o' + k, none⟩ = some (.int .i64 y) := c2
        have i1 : (0 : Int) ≤ (k : Int) := by omega
        have i2 : (k : Int) < (xs.length : Int) := by omega
        have i3 : (k : Int) < (ys.length : Int) := by omega
        clear c1 c2
        by_cases he : x = y
        · have hne : (x != y) = false := by simp [he]
          have HE := Lib.hid he
          clear he
          go_wp2
          go_quiet (fail)
          go_wp2
          go_roundw
          case rel => exact ⟨k + 1, by omega, by go_num, take_eq_step HT.out GX.out GY.out HE.out, _, by first | rfl | (simp; rfl)⟩
          case measure => simp [intOf]; omega
        · have hne : (x != y) = true := by simp [he]
          have HE := Lib.hid he
          clear he
          go_wp2
          go_quiet (fail)
          go_wp2
          go_ret
          exact ⟨ret_bool (eqB_ne (ne_of_get GX.out GY.out HE.out)).symm, _, by first | rfl | (simp; rfl)⟩
      · have hke : k = xs.length := by omega
        have HK := Lib.hid hke
        clear hke
        go_wp2
        go_ret
        refine ⟨ret_bool ?_, n, rfl⟩
        have h1 := HT.out
        rw [HK.out, List.take_length, HL.out, List.take_length] at h1
        exact (eqB_of h1).symm
  · have hl2 : ((xs.length : Int) != (ys.length : Int)) = true := by simp; omega
    go_enter Try.func41, Try.ntmps41
    go_wp2
    go_ret
    exact ⟨ret_bool (eqB_ne (fun e => hl (by rw [e]))).symm, 0, rfl⟩
set_option maxHeartbeats 400000 in
theorem eqBoolS_any (A A' : Option Addr) (xs ys : List Bool) (c c' : Nat) (w : World) (hx : RF fb w A xs) (hy : RF fb w A' ys) (hn : xs.length ≤ 9223372036854775807) (hn2 : ys.length ≤ 9223372036854775807) :
    Calls Try.prog 78 #[.slice A xs.length c, .slice A' ys.length c'] w fun e w' => e = .returned (.bool (eqB xs ys)) ∧ ∃ n, w' = w.drewN n := by
  by_cases hl : xs.length = ys.length
  · have HL := Lib.hid hl
    have hl2 : ((xs.length : Int) != (ys.length : Int)) = false := by simp [hl]
    have hl3 : xs.length ≤ ys.length := by omega
    clear hl
    go_enter Try.func78, Try.ntmps78
    go_wp2
    go_loopw [5] (fun i wr => ∃ (k : Nat), k ≤ xs.length ∧ i = .int .i64 k ∧ Hid (xs.take k = ys.take k) ∧ ∃ n, wr = w.drewN n) (fun i _ => xs.length - (intOf i).toNat)
    case atStart => exact ⟨0, by omega, rfl, rfl, 0, rfl⟩
    case round =>
      obtain ⟨k, hk, rfl, HT, n, rfl⟩ := hrel
      clear hl2
      by_cases hlt : k < xs.length
      · obtain ⟨b, o, x, rfl, gx, c1, hb⟩ := hx.at_ hlt
        obtain ⟨b', o', y, rfl, gy, c2, hb'⟩ := hy.at_ (k := k) (by omega)
        have GX := Lib.hid gx
        have GY := Lib.hid gy
        clear gx gy hx hy
        have d1 : w.cell? ⟨b, o + k, none⟩ = some (.bool x) := c1
        have d2 : w.cell? ⟨b', o' + k, none⟩ = some (.bool y) := c2
        have i1 : (0 : Int) ≤ (k : Int) := by omega
        have i2 : (k : Int) < (xs.length : Int) := by omega
        have i3 : (k : Int) < (ys.length : Int) := by omega
        clear c1 c2
        by_cases he : x = y
        · have hne : (x == y) = true := by simp [he]
          have HE := Lib.hid he
          clear he
          go_wp2
          go_quiet (fail)
          go_wp2
          go_roundw
          case rel => exact ⟨k + 1, by omega, by go_num, take_eq_step HT.out GX.out GY.out HE.out, _, by first | rfl | (simp; rfl)⟩
          case measure => simp [intOf]; omega
        · have hne : (x == y) = false := by simp [he]
          have HE := Lib.hid he
          clear he
          go_wp2
          go_quiet (fail)
          go_wp2
          go_ret
          exact ⟨ret_bool (eqB_ne (ne_of_get GX.out GY.out HE.out)).symm, _, by first | rfl | (simp; rfl)⟩
      · have hke : k = xs.length := by omega
        have HK := Lib.hid hke
        clear hke
        go_wp2
        go_ret
        refine ⟨ret_bool ?_, n, rfl⟩
        have h1 := HT.out
        rw [HK.out, List.take_length, HL.out, List.take_length] at h1
        exact (eqB_of h1).symm
  · have hl2 : ((xs.length : Int) != (ys.length : Int)) = true := by simp; omega
    go_enter Try.func78, Try.ntmps78
    go_wp2
    go_ret
    exact ⟨ret_bool (eqB_ne (fun e => hl (by rw [e]))).symm, 0, rfl⟩
set_option maxHeartbeats 400000 in
theorem eqCell_any (u u' : Bool) (d d' : Int) (A A' : Option Addr) (xs ys : List Int) (c c' : Nat) (w : World) (hx : RF fi w A xs) (hy : RF fi w A' ys) (hn : xs.length ≤ 9223372036854775807) (hn2 : ys.length ≤ 9223372036854775807) :
    Calls Try.prog 149 #[.agg #[.bool u, .int .i64 d, .slice A xs.length c], .agg #[.bool u', .int .i64 d', .slice A' ys.length c']] w fun e w' => e = .returned (.bool (eqB (⟨u, d, xs⟩ : CellM) ⟨u', d', ys⟩)) ∧ Below w.heap.size w w' := by
  by_cases h1 : u = u'
  · have g1 : (u == u') = true := by simp [h1]
    have H1 := Lib.hid h1
    clear h1
    by_cases h2 : d = d'
    · have g2 : (d != d') = false := by simp [h2]
      have H2 := Lib.hid h2
      clear h2
      cases hb : eqB xs ys
      all_goals
        go_enter Try.func149, Try.ntmps149
        go_wp2_with (go_at_call 41; refine (eqIntS_any _ _ _ _ _ _ _ (hx.below (by repeat (first | ((with_reducible refine Below.setc ?_ ?_ _); focus (first | omega | (simp; done) | (simp; omega))) | ((with_reducible refine Below.allocc ?_ ?_ _); focus (first | omega | (simp; done) | (simp; omega))) | (with_reducible refine Below.drew ?_) | (with_reducible refine Below.drewn ?_) | (with_reducible assumption) | (with_reducible exact Below.refl _ _) | ((with_reducible refine Below.stepp (by with_reducible assumption) ?_ ?_); focus (first | omega | (simp; done) | (simp; omega)))))) (hy.below (by repeat (first | ((with_reducible refine Below.setc ?_ ?_ _); focus (first | omega | (simp; done) | (simp; omega))) | ((with_reducible refine Below.allocc ?_ ?_ _); focus (first | omega | (simp; done) | (simp; omega))) | (with_reducible refine Below.drew ?_) | (with_reducible refine Below.drewn ?_) | (with_reducible assumption) | (with_reducible exact Below.refl _ _) | ((with_reducible refine Below.stepp (by with_reducible assumption) ?_ ?_); focus (first | omega | (simp; done) | (simp; omega)))))) hn hn2).mono ?_; rintro e w' ⟨rfl, n, rfl⟩)
        go_ret
      · exact ⟨ret_bool (eqB_ne fun e => eqB_false hb (congrArg CellM.refs e)).symm, (by repeat (first | ((with_reducible refine Below.setc ?_ ?_ _); focus (first | omega | (simp; done) | (simp; omega))) | ((with_reducible refine Below.allocc ?_ ?_ _); focus (first | omega | (simp; done) | (simp; omega))) | (with_reducible refine Below.drew ?_) | (with_reducible refine Below.drewn ?_) | (with_reducible assumption) | (with_reducible exact Below.refl _ _) | ((with_reducible refine Below.stepp (by with_reducible assumption) ?_ ?_); focus (first | omega | (simp; done) | (simp; omega)))))⟩
      · exact ⟨ret_bool (eqB_of (by rw [H1.out, H2.out, eqB_iff.1 hb])).symm, (by repeat (first | ((with_reducible refine Below.setc ?_ ?_ _); focus (first | omega | (simp; done) | (simp; omega))) | ((with_reducible refine Below.allocc ?_ ?_ _); focus (first | omega | (simp; done) | (simp; omega))) | (with_reducible refine Below.drew ?_) | (with_reducible refine Below.drewn ?_) | (with_reducible assumption) | (with_reducible exact Below.refl _ _) | ((with_reducible refine Below.stepp (by with_reducible assumption) ?_ ?_); focus (first | omega | (simp; done) | (simp; omega)))))⟩
    · have g2 : (d != d') = true := by simp [h2]
      go_enter Try.func149, Try.ntmps149
      go_wp2
      go_ret
      exact ⟨ret_bool (eqB_ne fun e => h2 (congrArg CellM.data e)).symm, (by repeat (first | ((with_reducible refine Below.setc ?_ ?_ _); focus (first | omega | (simp; done) | (simp; omega))) | ((with_reducible refine Below.allocc ?_ ?_ _); focus (first | omega | (simp; done) | (simp; omega))) | (with_reducible refine Below.drew ?_) | (with_reducible refine Below.drewn ?_) | (with_reducible assumption) | (with_reducible exact Below.refl _ _) | ((with_reducible refine Below.stepp (by with_reducible assumption) ?_ ?_); focus (first | omega | (simp; done) | (simp; omega)))))⟩
  · have g1 : (u == u') = false := by simpa using h1
    have H1 := Lib.hid h1
    clear h1
    go_enter Try.func149, Try.ntmps149
    go_wp2
    go_ret
    exact ⟨ret_bool (eqB_ne fun e => H1.out (congrArg CellM.used e)).symm, (by repeat (first | ((with_reducible refine Below.setc ?_ ?_ _); focus (first | omega | (simp; done) | (simp; omega))) | ((with_reducible refine Below.allocc ?_ ?_ _); focus (first | omega | (simp; done) | (simp; omega))) | (with_reducible refine Below.drew ?_) | (with_reducible refine Below.drewn ?_) | (with_reducible assumption) | (with_reducible exact Below.refl _ _) | ((with_reducible refine Below.stepp (by with_reducible assumption) ?_ ?_); focus (first | omega | (simp; done) | (simp; omega)))))⟩
set_option maxHeartbeats 400000 in
theorem eqCellS_any (A A' : Option Addr) (xs ys : List CellM) (c c' : Nat) (w : World) (hx : RC w A xs) (hy : RC w A' ys) (hn : xs.length ≤ 9223372036854775807) (hn2 : ys.length ≤ 9223372036854775807) :
    Calls Try.prog 77 #[.slice A xs.length c, .slice A' ys.length c'] w fun e w' => e = .returned (.bool (eqB xs ys)) ∧ Below w.heap.size w w' := by
  by_cases hl : xs.length = ys.length
  · have HL := Lib.hid hl
    have hl2 : ((xs.length : Int) != (ys.length : Int)) = false := by simp [hl]
    have hl3 : xs.length ≤ ys.length := by omega
    clear hl
    go_enter Try.func77, Try.ntmps77
    go_wp2
    go_loopw [5] (fun i wr => ∃ (k : Nat), k ≤ xs.length ∧ i = .int .i64 k ∧ Hid (xs.take k = ys.take k) ∧ Below w.heap.size w wr) (fun i _ => xs.length - (intOf i).toNat)
    case atStart => exact ⟨0, by omega, rfl, rfl, Below.refl _ _⟩
    case round =>
      obtain ⟨k, hk, rfl, HT, hB⟩ := hrel
      clear hl2
      by_cases hlt : k < xs.length
      · obtain ⟨b, o, x, Ar, cr, rfl, gx, c1, c2, c3, hr, hrl, hb⟩ := (hx.below hB).at_ hlt
        obtain ⟨b', o', y, Ar', cr', rfl, gy, d1, d2, d3, hr', hrl', hb'⟩ := (hy.below hB).at_ (k := k) (by omega)
        have GX := Lib.hid gx
        have GY := Lib.hid gy
        clear gx gy hx hy
        have i1 : (0 : Int) ≤ (k : Int) := by omega
        have i2 : (k : Int) < (xs.length : Int) := by omega
        have i3 : (k : Int) < (ys.length : Int) := by omega
        cases he : eqB (⟨x.used, x.data, x.refs⟩ : CellM) ⟨y.used, y.data, y.refs⟩
        all_goals
          have HE := Lib.hid he
          have hBz := hB.size
          go_wp2
          go_still_tail 8, (by kernel_rfl)
          change wpList _ _ _ _ _ wr.drew
          go_wp2_with (go_at_call 149; refine (eqCell_any _ _ _ _ _ _ _ _ _ _ _ (hr.below (by repeat (first | ((with_reducible refine Below.setc ?_ ?_ _); focus (first | omega | (simp; done) | (simp; omega))) | ((with_reducible refine Below.allocc ?_ ?_ _); focus (first | omega | (simp; done) | (simp; omega))) | (with_reducible refine Below.drew ?_) | (with_reducible refine Below.drewn ?_) | (with_reducible assumption) | (with_reducible exact Below.refl _ _) | ((with_reducible refine Below.stepp (by with_reducible assumption) ?_ ?_); focus (first | omega | (simp; done) | (simp; omega)))))) (hr'.below (by repeat (first | ((with_reducible refine Below.setc ?_ ?_ _); focus (first | omega | (simp; done) | (simp; omega))) | ((with_reducible refine Below.allocc ?_ ?_ _); focus (first | omega | (simp; done) | (simp; omega))) | (with_reducible refine Below.drew ?_) | (with_reducible refine Below.drewn ?_) | (with_reducible assumption) | (with_reducible exact Below.refl _ _) | ((with_reducible refine Below.stepp (by with_reducible assumption) ?_ ?_); focus (first | omega | (simp; done) | (simp; omega)))))) hrl hrl').mono ?_; rintro e w' ⟨rfl, hB2⟩)
        · go_ret
          exact ⟨ret_bool (eqB_ne (ne_of_get GX.out GY.out (eqB_false HE.out))).symm, (by repeat (first | ((with_reducible refine Below.setc ?_ ?_ _); focus (first | omega | (simp; done) | (simp; omega))) | ((with_reducible refine Below.allocc ?_ ?_ _); focus (first | omega | (simp; done) | (simp; omega))) | (with_reducible refine Below.drew ?_) | (with_reducible refine Below.drewn ?_) | (with_reducible assumption) | (with_reducible exact Below.refl _ _) | ((with_reducible refine Below.stepp (by with_reducible assumption) ?_ ?_); focus (first | omega | (simp; done) | (simp; omega)))))⟩
        · go_roundw
          case rel => exact ⟨k + 1, by omega, by go_num, take_eq_step HT.out GX.out GY.out (eqB_iff.1 HE.out), (by repeat (first | ((with_reducible refine Below.setc ?_ ?_ _); focus (first | omega | (simp; done) | (simp; omega))) | ((with_reducible refine Below.allocc ?_ ?_ _); focus (first | omega | (simp; done) | (simp; omega))) | (with_reducible refine Below.drew ?_) | (with_reducible refine Below.drewn ?_) | (with_reducible assumption) | (with_reducible exact Below.refl _ _) | ((with_reducible refine Below.stepp (by with_reducible assumption) ?_ ?_); focus (first | omega | (simp; done) | (simp; omega)))))⟩
          case measure => simp [intOf]; omega
      · have hke : k = xs.length := by omega
        have HK := Lib.hid hke
        clear hke
        go_wp2
        go_ret
        refine ⟨ret_bool ?_, hB⟩
        have h1 := HT.out
        rw [HK.out, List.take_length, HL.out, List.take_length] at h1
        exact (eqB_of h1).symm
  · have hl2 : ((xs.length : Int) != (ys.length : Int)) = true := by simp; omega
    go_enter Try.func77, Try.ntmps77
    go_wp2
    go_ret
    exact ⟨ret_bool (eqB_ne (fun e => hl (by rw [e]))).symm, Below.refl _ _⟩
set_option maxHeartbeats 400000 in
theorem eqHeap_any (v v' : Value) (h h' : HeapM) (w : World) (hv : RH w v h) (hv' : RH w v' h') :
    Calls Try.prog 19 #[v, v'] w fun e w' => e = .returned (.bool (eqB h h')) ∧ Below w.heap.size w w' := by
  obtain ⟨A, c, A', c', rfl, h1, h2, h3, h4⟩ := hv
  obtain ⟨B, d, B', d', rfl, g1, g2, g3, g4⟩ := hv'
  cases e1 : eqB h.cells h'.cells
  · go_enter Try.func19, Try.ntmps19
    go_wp2_with (go_at_call 77; refine (eqCellS_any _ _ _ _ _ _ _ (h1.below (by repeat (first | ((with_reducible refine Below.setc ?_ ?_ _); focus (first | omega | (simp; done) | (simp; omega))) | ((with_reducible refine Below.allocc ?_ ?_ _); focus (first | omega | (simp; done) | (simp; omega))) | (with_reducible refine Below.drew ?_) | (with_reducible refine Below.drewn ?_) | (with_reducible assumption) | (with_reducible exact Below.refl _ _) | ((with_reducible refine Below.stepp (by with_reducible assumption) ?_ ?_); focus (first | omega | (simp; done) | (simp; omega)))))) (g1.below (by repeat (first | ((with_reducible refine Below.setc ?_ ?_ _); focus (first | omega | (simp; done) | (simp; omega))) | ((with_reducible refine Below.allocc ?_ ?_ _); focus (first | omega | (simp; done) | (simp; omega))) | (with_reducible refine Below.drew ?_) | (with_reducible refine Below.drewn ?_) | (with_reducible assumption) | (with_reducible exact Below.refl _ _) | ((with_reducible refine Below.stepp (by with_reducible assumption) ?_ ?_); focus (first | omega | (simp; done) | (simp; omega)))))) h3 g3).mono ?_; rintro e w1 ⟨rfl, hB⟩; obtain ⟨hbc, hbf, hbz⟩ := bcell hB; have z0w1 : w.heap.size < w1.heap.size := (by (try simp at hbz); omega); have z1w1 : w.heap.size + 1 < w1.heap.size := (by (try simp at hbz); omega))
    go_ret
    exact ⟨ret_bool (eqB_ne fun e => eqB_false e1 (congrArg HeapM.cells e)).symm, (by repeat (first | ((with_reducible refine Below.setc ?_ ?_ _); focus (first | omega | (simp; done) | (simp; omega))) | ((with_reducible refine Below.allocc ?_ ?_ _); focus (first | omega | (simp; done) | (simp; omega))) | (with_reducible refine Below.drew ?_) | (with_reducible refine Below.drewn ?_) | (with_reducible assumption) | (with_reducible exact Below.refl _ _) | ((with_reducible refine Below.stepp (by with_reducible assumption) ?_ ?_); focus (first | omega | (simp; done) | (simp; omega)))))⟩
  · cases e2 : eqB h.roots h'.roots
    all_goals
      go_enter Try.func19, Try.ntmps19
      go_wp2_with (first
        | (go_at_call 77; refine (eqCellS_any _ _ _ _ _ _ _ (h1.below (by repeat (first | ((with_reducible refine Below.setc ?_ ?_ _); focus (first | omega | (simp; done) | (simp; omega))) | ((with_reducible refine Below.allocc ?_ ?_ _); focus (first | omega | (simp; done) | (simp; omega))) | (with_reducible refine Below.drew ?_) | (with_reducible refine Below.drewn ?_) | (with_reducible assumption) | (with_reducible exact Below.refl _ _) | ((with_reducible refine Below.stepp (by with_reducible assumption) ?_ ?_); focus (first | omega | (simp; done) | (simp; omega)))))) (g1.below (by repeat (first | ((with_reducible refine Below.setc ?_ ?_ _); focus (first | omega | (simp; done) | (simp; omega))) | ((with_reducible refine Below.allocc ?_ ?_ _); focus (first | omega | (simp; done) | (simp; omega))) | (with_reducible refine Below.drew ?_) | (with_reducible refine Below.drewn ?_) | (with_reducible assumption) | (with_reducible exact Below.refl _ _) | ((with_reducible refine Below.stepp (by with_reducible assumption) ?_ ?_); focus (first | omega | (simp; done) | (simp; omega)))))) h3 g3).mono ?_; rintro e w1 ⟨rfl, hB⟩; obtain ⟨hbc, hbf, hbz⟩ := bcell hB; have z0w1 : w.heap.size < w1.heap.size := (by (try simp at hbz); omega); have z1w1 : w.heap.size + 1 < w1.heap.size := (by (try simp at hbz); omega))
        | (go_at_call 41; refine (eqIntS_any _ _ _ _ _ _ _ (h2.below (by repeat (first | ((with_reducible refine Below.setc ?_ ?_ _); focus (first | omega | (simp; done) | (simp; omega))) | ((with_reducible refine Below.allocc ?_ ?_ _); focus (first | omega | (simp; done) | (simp; omega))) | (with_reducible refine Below.drew ?_) | (with_reducible refine Below.drewn ?_) | (with_reducible assumption) | (with_reducible exact Below.refl _ _) | ((with_reducible refine Below.stepp (by with_reducible assumption) ?_ ?_); focus (first | omega | (simp; done) | (simp; omega)))))) (g2.below (by repeat (first | ((with_reducible refine Below.setc ?_ ?_ _); focus (first | omega | (simp; done) | (simp; omega))) | ((with_reducible refine Below.allocc ?_ ?_ _); focus (first | omega | (simp; done) | (simp; omega))) | (with_reducible refine Below.drew ?_) | (with_reducible refine Below.drewn ?_) | (with_reducible assumption) | (with_reducible exact Below.refl _ _) | ((with_reducible refine Below.stepp (by with_reducible assumption) ?_ ?_); focus (first | omega | (simp; done) | (simp; omega)))))) h4 g4).mono ?_; rintro e w2 ⟨rfl, n, rfl⟩))
      go_ret
    · exact ⟨ret_bool (eqB_ne fun e => eqB_false e2 (congrArg HeapM.roots e)).symm, (by repeat (first | ((with_reducible refine Below.setc ?_ ?_ _); focus (first | omega | (simp; done) | (simp; omega))) | ((with_reducible refine Below.allocc ?_ ?_ _); focus (first | omega | (simp; done) | (simp; omega))) | (with_reducible refine Below.drew ?_) | (with_reducible refine Below.drewn ?_) | (with_reducible assumption) | (with_reducible exact Below.refl _ _) | ((with_reducible refine Below.stepp (by with_reducible assumption) ?_ ?_); focus (first | omega | (simp; done) | (simp; omega)))))⟩
    · exact ⟨ret_bool (eqB_of (by
        have a1 := eqB_iff.1 e1
        have a2 := eqB_iff.1 e2
        cases h; cases h'; simp at a1 a2; simp [a1, a2])).symm, (by repeat (first | ((with_reducible refine Below.setc ?_ ?_ _); focus (first | omega | (simp; done) | (simp; omega))) | ((with_reducible refine Below.allocc ?_ ?_ _); focus (first | omega | (simp; done) | (simp; omega))) | (with_reducible refine Below.drew ?_) | (with_reducible refine Below.drewn ?_) | (with_reducible assumption) | (with_reducible exact Below.refl _ _) | ((with_reducible refine Below.stepp (by with_reducible assumption) ?_ ?_); focus (first | omega | (simp; done) | (simp; omega)))))⟩
set_option maxHeartbeats 400000 in
theorem eqAged_any (v v' : Value) (p q : TwoM) (w : World) (hv : RTw w v p) (hv' : RTw w v' q) :
    Calls Try.prog 54 #[v, v'] w fun e w' => e = .returned (.bool (eqB p q)) ∧ Below w.heap.size w w' := by
  obtain ⟨A, c, A', c', A2, c2, A3, c3, rfl, h1, h2, h3, h4, h5⟩ := hv
  obtain ⟨B, d, B', d', B2, d2, B3, d3, rfl, g1, g2, g3, g4, g5⟩ := hv'
  cases e1 : eqB p.store q.store
  · go_enter Try.func54, Try.ntmps54
    go_wp2_with (go_at_call 19; refine (eqHeap_any _ _ _ _ _ ((h1.below (by repeat (first | ((with_reducible refine Below.setc ?_ ?_ _); focus (first | omega | (simp; done) | (simp; omega))) | ((with_reducible refine Below.allocc ?_ ?_ _); focus (first | omega | (simp; done) | (simp; omega))) | (with_reducible refine Below.drew ?_) | (with_reducible refine Below.drewn ?_) | (with_reducible assumption) | (with_reducible exact Below.refl _ _) | ((with_reducible refine Below.stepp (by with_reducible assumption) ?_ ?_); focus (first | omega | (simp; done) | (simp; omega)))))).rh _ _) ((g1.below (by repeat (first | ((with_reducible refine Below.setc ?_ ?_ _); focus (first | omega | (simp; done) | (simp; omega))) | ((with_reducible refine Below.allocc ?_ ?_ _); focus (first | omega | (simp; done) | (simp; omega))) | (with_reducible refine Below.drew ?_) | (with_reducible refine Below.drewn ?_) | (with_reducible assumption) | (with_reducible exact Below.refl _ _) | ((with_reducible refine Below.stepp (by with_reducible assumption) ?_ ?_); focus (first | omega | (simp; done) | (simp; omega)))))).rh _ _)).mono ?_; rintro e w1 ⟨rfl, hB⟩; obtain ⟨hbc, hbf, hbz⟩ := bcell hB; have z0w1 : w.heap.size < w1.heap.size := (by (try simp at hbz); omega); have z1w1 : w.heap.size + 1 < w1.heap.size := (by (try simp at hbz); omega))
    go_ret
    exact ⟨ret_bool (eqB_ne fun e => eqB_false e1 (congrArg TwoM.store e)).symm, (by repeat (first | ((with_reducible refine Below.setc ?_ ?_ _); focus (first | omega | (simp; done) | (simp; omega))) | ((with_reducible refine Below.allocc ?_ ?_ _); focus (first | omega | (simp; done) | (simp; omega))) | (with_reducible refine Below.drew ?_) | (with_reducible refine Below.drewn ?_) | (with_reducible assumption) | (with_reducible exact Below.refl _ _) | ((with_reducible refine Below.stepp (by with_reducible assumption) ?_ ?_); focus (first | omega | (simp; done) | (simp; omega)))))⟩
  · cases e2 : eqB p.x q.x
    · go_enter Try.func54, Try.ntmps54
      go_wp2_with (go_at_call 19; refine (eqHeap_any _ _ _ _ _ ((h1.below (by repeat (first | ((with_reducible refine Below.setc ?_ ?_ _); focus (first | omega | (simp; done) | (simp; omega))) | ((with_reducible refine Below.allocc ?_ ?_ _); focus (first | omega | (simp; done) | (simp; omega))) | (with_reducible refine Below.drew ?_) | (with_reducible refine Below.drewn ?_) | (with_reducible assumption) | (with_reducible exact Below.refl _ _) | ((with_reducible refine Below.stepp (by with_reducible assumption) ?_ ?_); focus (first | omega | (simp; done) | (simp; omega)))))).rh _ _) ((g1.below (by repeat (first | ((with_reducible refine Below.setc ?_ ?_ _); focus (first | omega | (simp; done) | (simp; omega))) | ((with_reducible refine Below.allocc ?_ ?_ _); focus (first | omega | (simp; done) | (simp; omega))) | (with_reducible refine Below.drew ?_) | (with_reducible refine Below.drewn ?_) | (with_reducible assumption) | (with_reducible exact Below.refl _ _) | ((with_reducible refine Below.stepp (by with_reducible assumption) ?_ ?_); focus (first | omega | (simp; done) | (simp; omega)))))).rh _ _)).mono ?_; rintro e w1 ⟨rfl, hB⟩; obtain ⟨hbc, hbf, hbz⟩ := bcell hB; have z0w1 : w.heap.size < w1.heap.size := (by (try simp at hbz); omega); have z1w1 : w.heap.size + 1 < w1.heap.size := (by (try simp at hbz); omega))
      refine (eqBoolS_any _ _ _ _ _ _ _ (h2.below (by repeat (first | ((with_reducible refine Below.setc ?_ ?_ _); focus (first | omega | (simp; done) | (simp; omega))) | ((with_reducible refine Below.allocc ?_ ?_ _); focus (first | omega | (simp; done) | (simp; omega))) | (with_reducible refine Below.drew ?_) | (with_reducible refine Below.drewn ?_) | (with_reducible assumption) | (with_reducible exact Below.refl _ _) | ((with_reducible refine Below.stepp (by with_reducible assumption) ?_ ?_); focus (first | omega | (simp; done) | (simp; omega)))))) (g2.below (by repeat (first | ((with_reducible refine Below.setc ?_ ?_ _); focus (first | omega | (simp; done) | (simp; omega))) | ((with_reducible refine Below.allocc ?_ ?_ _); focus (first | omega | (simp; done) | (simp; omega))) | (with_reducible refine Below.drew ?_) | (with_reducible refine Below.drewn ?_) | (with_reducible assumption) | (with_reducible exact Below.refl _ _) | ((with_reducible refine Below.stepp (by with_reducible assumption) ?_ ?_); focus (first | omega | (simp; done) | (simp; omega)))))) h3 g3).mono ?_
      rintro e w2 ⟨rfl, n, rfl⟩
      go_wp2_with fail
      go_ret
      exact ⟨ret_bool (eqB_ne fun e => eqB_false e2 (congrArg TwoM.x e)).symm, (by repeat (first | ((with_reducible refine Below.setc ?_ ?_ _); focus (first | omega | (simp; done) | (simp; omega))) | ((with_reducible refine Below.allocc ?_ ?_ _); focus (first | omega | (simp; done) | (simp; omega))) | (with_reducible refine Below.drew ?_) | (with_reducible refine Below.drewn ?_) | (with_reducible assumption) | (with_reducible exact Below.refl _ _) | ((with_reducible refine Below.stepp (by with_reducible assumption) ?_ ?_); focus (first | omega | (simp; done) | (simp; omega)))))⟩
    · cases e3 : eqB p.y q.y
      all_goals
        go_enter Try.func54, Try.ntmps54
        go_wp2_with (go_at_call 19; refine (eqHeap_any _ _ _ _ _ ((h1.below (by repeat (first | ((with_reducible refine Below.setc ?_ ?_ _); focus (first | omega | (simp; done) | (simp; omega))) | ((with_reducible refine Below.allocc ?_ ?_ _); focus (first | omega | (simp; done) | (simp; omega))) | (with_reducible refine Below.drew ?_) | (with_reducible refine Below.drewn ?_) | (with_reducible assumption) | (with_reducible exact Below.refl _ _) | ((with_reducible refine Below.stepp (by with_reducible assumption) ?_ ?_); focus (first | omega | (simp; done) | (simp; omega)))))).rh _ _) ((g1.below (by repeat (first | ((with_reducible refine Below.setc ?_ ?_ _); focus (first | omega | (simp; done) | (simp; omega))) | ((with_reducible refine Below.allocc ?_ ?_ _); focus (first | omega | (simp; done) | (simp; omega))) | (with_reducible refine Below.drew ?_) | (with_reducible refine Below.drewn ?_) | (with_reducible assumption) | (with_reducible exact Below.refl _ _) | ((with_reducible refine Below.stepp (by with_reducible assumption) ?_ ?_); focus (first | omega | (simp; done) | (simp; omega)))))).rh _ _)).mono ?_; rintro e w1 ⟨rfl, hB⟩; obtain ⟨hbc, hbf, hbz⟩ := bcell hB; have z0w1 : w.heap.size < w1.heap.size := (by (try simp at hbz); omega); have z1w1 : w.heap.size + 1 < w1.heap.size := (by (try simp at hbz); omega))
        refine (eqBoolS_any _ _ _ _ _ _ _ (h2.below (by repeat (first | ((with_reducible refine Below.setc ?_ ?_ _); focus (first | omega | (simp; done) | (simp; omega))) | ((with_reducible refine Below.allocc ?_ ?_ _); focus (first | omega | (simp; done) | (simp; omega))) | (with_reducible refine Below.drew ?_) | (with_reducible refine Below.drewn ?_) | (with_reducible assumption) | (with_reducible exact Below.refl _ _) | ((with_reducible refine Below.stepp (by with_reducible assumption) ?_ ?_); focus (first | omega | (simp; done) | (simp; omega)))))) (g2.below (by repeat (first | ((with_reducible refine Below.setc ?_ ?_ _); focus (first | omega | (simp; done) | (simp; omega))) | ((with_reducible refine Below.allocc ?_ ?_ _); focus (first | omega | (simp; done) | (simp; omega))) | (with_reducible refine Below.drew ?_) | (with_reducible refine Below.drewn ?_) | (with_reducible assumption) | (with_reducible exact Below.refl _ _) | ((with_reducible refine Below.stepp (by with_reducible assumption) ?_ ?_); focus (first | omega | (simp; done) | (simp; omega)))))) h3 g3).mono ?_
        rintro e w2 ⟨rfl, n, rfl⟩
        go_wp2_with fail
        refine (eqBoolS_any _ _ _ _ _ _ _ (h4.below (by repeat (first | ((with_reducible refine Below.setc ?_ ?_ _); focus (first | omega | (simp; done) | (simp; omega))) | ((with_reducible refine Below.allocc ?_ ?_ _); focus (first | omega | (simp; done) | (simp; omega))) | (with_reducible refine Below.drew ?_) | (with_reducible refine Below.drewn ?_) | (with_reducible assumption) | (with_reducible exact Below.refl _ _) | ((with_reducible refine Below.stepp (by with_reducible assumption) ?_ ?_); focus (first | omega | (simp; done) | (simp; omega)))))) (g4.below (by repeat (first | ((with_reducible refine Below.setc ?_ ?_ _); focus (first | omega | (simp; done) | (simp; omega))) | ((with_reducible refine Below.allocc ?_ ?_ _); focus (first | omega | (simp; done) | (simp; omega))) | (with_reducible refine Below.drew ?_) | (with_reducible refine Below.drewn ?_) | (with_reducible assumption) | (with_reducible exact Below.refl _ _) | ((with_reducible refine Below.stepp (by with_reducible assumption) ?_ ?_); focus (first | omega | (simp; done) | (simp; omega)))))) h5 g5).mono ?_
        rintro e w3 ⟨rfl, n2, rfl⟩
        go_wp2_with fail
        go_ret
      · exact ⟨ret_bool (eqB_ne fun e => eqB_false e3 (congrArg TwoM.y e)).symm, (by repeat (first | ((with_reducible refine Below.setc ?_ ?_ _); focus (first | omega | (simp; done) | (simp; omega))) | ((with_reducible refine Below.allocc ?_ ?_ _); focus (first | omega | (simp; done) | (simp; omega))) | (with_reducible refine Below.drew ?_) | (with_reducible refine Below.drewn ?_) | (with_reducible assumption) | (with_reducible exact Below.refl _ _) | ((with_reducible refine Below.stepp (by with_reducible assumption) ?_ ?_); focus (first | omega | (simp; done) | (simp; omega)))))⟩
      · exact ⟨ret_bool (eqB_of (by
          have a1 := eqB_iff.1 e1
          have a2 := eqB_iff.1 e2
          have a3 := eqB_iff.1 e3
          cases p; cases q; simp at a1 a2 a3; simp [a1, a2, a3])).symm, (by repeat (first | ((with_reducible refine Below.setc ?_ ?_ _); focus (first | omega | (simp; done) | (simp; omega))) | ((with_reducible refine Below.allocc ?_ ?_ _); focus (first | omega | (simp; done) | (simp; omega))) | (with_reducible refine Below.drew ?_) | (with_reducible refine Below.drewn ?_) | (with_reducible assumption) | (with_reducible exact Below.refl _ _) | ((with_reducible refine Below.stepp (by with_reducible assumption) ?_ ?_); focus (first | omega | (simp; done) | (simp; omega)))))⟩
end Go.Proofs.Ytkmfhadanbfadaa
