/- Texts of one family, one behind the other: Same, Alive. -/
import Derived.Test.YtkikeanpbffpkaaChecked
import Derived.Deep.QuietTactic
import Derived.BigQuiet
import Derived.IntWalk
import Derived.Test.YtkikeanpbffpkaaGrOwn
/- The comparisons same.. of the laws and of the program: they tell whether both sides read as the same. -/
namespace Go.Proofs.Ytkikeanpbffpkaa
open Go.RowKit
set_option maxRecDepth 100000
set_option linter.unusedSimpArgs false
set_option linter.unusedVariables false
set_option maxHeartbeats 400000 in
theorem sameInts_any (A A' : Option Addr) (xs ys : List Int) (c c' : Nat) (w : World) (hx : RF fi w A xs) (hy : RF fi w A' ys) (hn : xs.length ≤ 9223372036854775807) (hn2 : ys.length ≤ 9223372036854775807) :
    Calls Try.prog 39 #[.slice A xs.length c, .slice A' ys.length c'] w fun e w' => e = .returned (.bool (eqB xs ys)) ∧ ∃ n, w' = w.drewN n := by
  by_cases hl : xs.length = ys.length
  · have HL := Lib.hid hl
    have hl2 : ((xs.length : Int) != (ys.length : Int)) = false := by simp [hl]
    have hl3 : xs.length ≤ ys.length := by omega
    clear hl
    go_enter Try.func39, Try.ntmps39
    go_wp2
    go_loopw [5] (fun i wr => ∃ (k : Nat), k ≤ xs.length ∧ i = .int .i64 k ∧ Hid (xs.take k = ys.take k) ∧ ∃ n, wr = w.drewN n) (fun i _ => xs.length - (intOf i).toNat)
    case atStart => exact ⟨0, by omega, rfl, rfl, 0, rfl⟩
    case round =>
      obtain ⟨k, hk, rfl, HT, n, rfl⟩ := hrel
      clear hl2
      by_cases hlt : k < xs.length
      · obtain ⟨b, o, x, rfl, gx, c1, hb⟩ := hx.at_ hlt
        obtain ⟨b', o', y, rfl, gy, c2, hb'⟩ := hy.at_ (k := k) (by omega)
        have GX := Lib.hid gx
        have GY := Lib.hid gy
        clear gx gy hx hy
        have d1 : w.cell? ⟨b, o + k, none⟩ = some (.int .i64 x) := c1
        have d2 : w.cell? ⟨b', o' + k, none⟩ = some (.int .i64 y) := c2
        have i1 : (0 : Int) ≤ (k : Int) := by omega
        have i2 : (k : Int) < (xs.length : Int) := by omega
        have i3 : (k : Int) < (ys.length : Int) := by omega
        clear c1 c2
        by_cases he : x = y
        · have hne : (x != y) = false := by simp [he]
          have HE := Lib.hid he
          clear he
          go_wp2
          go_quiet (fail)
          go_wp2
          go_roundw
          case rel => exact ⟨k + 1, by omega, by go_num, take_eq_step HT.out GX.out GY.out HE.out, _, by first | rfl | (simp; rfl)⟩
          case measure => simp [intOf]; omega
        · have hne : (x != y) = true := by simp [he]
          have HE := Lib.hid he
          clear he
          go_wp2
          go_quiet (fail)
          go_wp2
          go_ret
          exact ⟨ret_bool (eqB_ne (ne_of_get GX.out GY.out HE.out)).symm, _, by first | rfl | (simp; rfl)⟩
      · have hke : k = xs.length := by omega
        have HK := Lib.hid hke
        clear hke
        go_wp2
        go_ret
        refine ⟨ret_bool ?_, n, rfl⟩
        have h1 := HT.out
        rw [HK.out, List.take_length, HL.out, List.take_length] at h1
        exact (eqB_of h1).symm
  · have hl2 : ((xs.length : Int) != (ys.length : Int)) = true := by simp; omega
    go_enter Try.func39, Try.ntmps39
    go_wp2
    go_ret
    exact ⟨ret_bool (eqB_ne (fun e => hl (by rw [e]))).symm, 0, rfl⟩
set_option maxHeartbeats 400000 in
theorem implSameInts_any (A A' : Option Addr) (xs ys : List Int) (c c' : Nat) (w : World) (hx : RF fi w A xs) (hy : RF fi w A' ys) (hn : xs.length ≤ 9223372036854775807) (hn2 : ys.length ≤ 9223372036854775807) :
    Calls Try.prog 44 #[.slice A xs.length c, .slice A' ys.length c'] w fun e w' => e = .returned (.bool (eqB xs ys)) ∧ ∃ n, w' = w.drewN n := by
  by_cases hl : xs.length = ys.length
  · have HL := Lib.hid hl
    have hl2 : ((xs.length : Int) != (ys.length : Int)) = false := by simp [hl]
    have hl3 : xs.length ≤ ys.length := by omega
    clear hl
    go_enter Try.func44, Try.ntmps44
    go_wp2
    go_loopw [13] (fun i wr => ∃ (k : Nat), k ≤ xs.length ∧ i = .int .i64 k ∧ Hid (xs.take k = ys.take k) ∧ ∃ n, wr = w.drewN n) (fun i _ => xs.length - (intOf i).toNat)
    case atStart => exact ⟨0, by omega, rfl, rfl, 0, rfl⟩
    case round =>
      obtain ⟨k, hk, rfl, HT, n, rfl⟩ := hrel
      clear hl2
      by_cases hlt : k < xs.length
      · obtain ⟨b, o, x, rfl, gx, c1, hb⟩ := hx.at_ hlt
        obtain ⟨b', o', y, rfl, gy, c2, hb'⟩ := hy.at_ (k := k) (by omega)
        have GX := Lib.hid gx
        have GY := Lib.hid gy
        clear gx gy hx hy
        have d1 : w.cell? ⟨b, o + k, none⟩ = some (.int .i64 x) := c1
        have d2 : w.cell? ⟨b', o' + k, none⟩ = some (.int .i64 y) := c2
        have i1 : (0 : Int) ≤ (k : Int) := by omega
        have i2 : (k : Int) < (xs.length : Int) := by omega
        have i3 : (k : Int) < (ys.length : Int) := by omega
        clear c1 c2
        by_cases he : x = y
        · have hne : (x != y) = false := by simp [he]
          have HE := Lib.hid he
          clear he
          go_wp2
          go_quiet (fail)
          go_wp2
          go_roundw
          case rel => exact ⟨k + 1, by omega, by go_num, take_eq_step HT.out GX.out GY.out HE.out, _, by first | rfl | (simp; rfl)⟩
          case measure => simp [intOf]; omega
        · have hne : (x != y) = true := by simp [he]
          have HE := Lib.hid he
          clear he
          go_wp2
          go_quiet (fail)
          go_wp2
          go_ret
          exact ⟨ret_bool (eqB_ne (ne_of_get GX.out GY.out HE.out)).symm, _, by first | rfl | (simp; rfl)⟩
      · have hke : k = xs.length := by omega
        have HK := Lib.hid hke
        clear hke
        go_wp2
        go_ret
        refine ⟨ret_bool ?_, n, rfl⟩
        have h1 := HT.out
        rw [HK.out, List.take_length, HL.out, List.take_length] at h1
        exact (eqB_of h1).symm
  · have hl2 : ((xs.length : Int) != (ys.length : Int)) = true := by simp; omega
    go_enter Try.func44, Try.ntmps44
    go_wp2
    go_ret
    exact ⟨ret_bool (eqB_ne (fun e => hl (by rw [e]))).symm, 0, rfl⟩
theorem Calls.quiet_of_drew {P : Program} {f : FuncId} {args : Array Value} {w : World} {n : Nat} {v : Value}
    (h : Calls P f args (w.drewN n) fun e w' => e = .returned v ∧ ∃ m, w' = (w.drewN n).drewN m) : Calls P f args (w.drewN n) fun e w'' => e = .returned v ∧ ∃ m, w'' = w.drewN m :=
  h.mono fun _ _ ⟨he, m, hm⟩ => ⟨he, n + m, by rw [hm, World.drewN_drewN]⟩
theorem cells_ne {a b : HeapM} {k : Nat} {x y : CellM} (h1 : a.cells[k]? = some x) (h2 : b.cells[k]? = some y) (hn : x ≠ y) : a ≠ b := fun e => hn (by rw [e, h2] at h1; injection h1 with h1; exact h1.symm)
set_option maxHeartbeats 4000000 in
theorem sameHeap_any (v u : Value) (h k : HeapM) (w : World) (hv : RH w v h) (hu : RH w u k) :
    Calls Try.prog 38 #[v, u] w fun e w' => e = .returned (.bool (eqB h k)) ∧ Below w.heap.size w w' := by
  obtain ⟨A, c, A', c', rfl, hc, hr, hl1, hl2⟩ := hv
  obtain ⟨B, d, B', d', rfl, kc, kr, kl1, kl2⟩ := hu
  have k0 : (((w.alloc (.cells #[.slice A h.cells.length c, .slice A' h.roots.length c'] 26)).alloc (.cells #[.slice B k.cells.length d, .slice B' k.roots.length d'] 26))).cell? ⟨w.heap.size, 0, none⟩ = some (.slice A h.cells.length c) := by simp [go_sem]
  have k1 : (((w.alloc (.cells #[.slice A h.cells.length c, .slice A' h.roots.length c'] 26)).alloc (.cells #[.slice B k.cells.length d, .slice B' k.roots.length d'] 26))).cell? ⟨w.heap.size, 1, none⟩ = some (.slice A' h.roots.length c') := by simp [go_sem]
  have k2 : (((w.alloc (.cells #[.slice A h.cells.length c, .slice A' h.roots.length c'] 26)).alloc (.cells #[.slice B k.cells.length d, .slice B' k.roots.length d'] 26))).cell? ⟨w.heap.size + 1, 0, none⟩ = some (.slice B k.cells.length d) := by simp [go_sem]
  have k3 : (((w.alloc (.cells #[.slice A h.cells.length c, .slice A' h.roots.length c'] 26)).alloc (.cells #[.slice B k.cells.length d, .slice B' k.roots.length d'] 26))).cell? ⟨w.heap.size + 1, 1, none⟩ = some (.slice B' k.roots.length d') := by simp [go_sem]
  have hW : Below w.heap.size w (((w.alloc (.cells #[.slice A h.cells.length c, .slice A' h.roots.length c'] 26)).alloc (.cells #[.slice B k.cells.length d, .slice B' k.roots.length d'] 26))) := blw_
  have HC := Lib.hid (hc.below hW)
  have HR := Lib.hid (hr.below hW)
  have KC := Lib.hid (kc.below hW)
  have KR := Lib.hid (kr.below hW)
  clear hc hr kc kr
  by_cases hl : h.cells.length = k.cells.length
  · have HL := Lib.hid hl
    have hli : ((h.cells.length : Int) != (k.cells.length : Int)) = false := by simp [hl]
    clear hl
    go_enter Try.func38, Try.ntmps38
    go_wp2_with fail
    generalize (((w.alloc (.cells #[.slice A h.cells.length c, .slice A' h.roots.length c'] 26)).alloc (.cells #[.slice B k.cells.length d, .slice B' k.roots.length d'] 26))) = W0 at *
    go_loopw [5] (fun i wr => ∃ (j : Nat), j ≤ h.cells.length ∧ i = .int .i64 j ∧ Hid (h.cells.take j = k.cells.take j) ∧ ∃ n, wr = W0.drewN n) (fun i _ => h.cells.length - (intOf i).toNat)
    case atStart => exact ⟨0, by omega, rfl, rfl, 0, rfl⟩
    case round =>
      obtain ⟨j, hj, rfl, HT, n, rfl⟩ := hrel
      clear hli
      by_cases hlt : j < h.cells.length
      · have hlt2 : j < k.cells.length := by have := HL.out; omega
        obtain ⟨b, o, x, Ax, cx, rfl, gx, x0, x1, x2, hrx, hlx, hb⟩ := HC.out.at_ hlt
        obtain ⟨b', o', y, Ay, cy, rfl, gy, y0, y1, y2, hry, hly, hb'⟩ := KC.out.at_ hlt2
        have GX := Lib.hid gx
        have GY := Lib.hid gy
        have HX := Lib.hid hrx
        have HY := Lib.hid hry
        obtain ⟨xu, xd, xr⟩ := x
        obtain ⟨yu, yd, yr⟩ := y
        simp only at x0 x1 x2 y0 y1 y2 hlx hly
        have e0 : W0.cell? ⟨b, o + j * 3, none⟩ = some (.bool xu) := x0
        have e1 : W0.cell? ⟨b, o + j * 3 + 1, none⟩ = some (.int .i64 xd) := x1
        have e2 : W0.cell? ⟨b, o + j * 3 + 2, none⟩ = some (.slice Ax xr.length cx) := x2
        have f0 : W0.cell? ⟨b', o' + j * 3, none⟩ = some (.bool yu) := y0
        have f1 : W0.cell? ⟨b', o' + j * 3 + 1, none⟩ = some (.int .i64 yd) := y1
        have f2 : W0.cell? ⟨b', o' + j * 3 + 2, none⟩ = some (.slice Ay yr.length cy) := y2
        have i1 : (0 : Int) ≤ (j : Int) := by omega
        have i2 : (j : Int) < (h.cells.length : Int) := by omega
        have i3 : (j : Int) < (k.cells.length : Int) := by omega
        clear x0 x1 x2 y0 y1 y2 gx gy hrx hry
        by_cases hu : xu = yu
        · subst hu
          have hu1 : (xu != xu) = false := by simp
          have hu2 : (xu == xu) = true := by simp
          by_cases hd : xd = yd
          · subst hd
            have hd1 : (xd != xd) = false := by simp
            cases he : eqB xr yr
            all_goals
              have HE := Lib.hid he
              have hq : ∀ n, Calls Try.prog 39 #[.slice Ax xr.length cx, .slice Ay yr.length cy] (W0.drewN n) fun e w' => e = .returned (.bool (eqB xr yr)) ∧ ∃ m, w' = (W0.drewN n).drewN m := fun n => sameInts_any Ax Ay xr yr cx cy _ (HX.out.below (Below.drewn (Below.refl _ _))) (HY.out.below (Below.drewn (Below.refl _ _))) hlx hly
              rw [he] at hq
              clear he
              go_wp2
              go_quiet ((go_at_call 39; first | exact Calls.quiet_of_drew (hq _) | exact quiet_add (hq _)))
              go_wp2
            · go_ret
              exact ⟨ret_bool (eqB_ne (cells_ne GX.out GY.out (fun e9 => by injection e9 with a1 a2 a3; exact eqB_false HE.out a3))).symm, blw_⟩
            · go_roundw
              case rel => exact ⟨j + 1, by omega, by go_num, take_eq_step HT.out GX.out GY.out (by rw [eqB_iff.1 HE.out]), _, by first | rfl | (simp; rfl)⟩
              case measure => simp [intOf]; omega
          · have hd1 : (xd != yd) = true := by simp [hd]
            have HD := Lib.hid hd
            clear hd
            go_wp2
            go_quiet (fail)
            go_wp2
            go_ret
            exact ⟨ret_bool (eqB_ne (cells_ne GX.out GY.out (fun e9 => by injection e9 with a1 a2 a3; exact HD.out a2))).symm, blw_⟩
        · have hu1 : (xu != yu) = true := by simp [hu]
          have hu2 : (xu == yu) = false := by simp [hu]
          have HU := Lib.hid hu
          clear hu
          go_wp2
          go_quiet (fail)
          go_wp2
          go_ret
          exact ⟨ret_bool (eqB_ne (cells_ne GX.out GY.out (fun e9 => by injection e9 with a1 a2 a3; exact HU.out a1))).symm, blw_⟩
      · have hke : j = h.cells.length := by omega
        have HCE : Hid (h.cells = k.cells) := by
          have h1 := HT.out
          rw [hke, List.take_length, HL.out, List.take_length] at h1
          exact h1
        clear hke
        have HRn := HR.out.below (show Below W0.heap.size W0 (W0.drewN n) from Below.drewn (Below.refl _ _))
        have KRn := KR.out.below (show Below W0.heap.size W0 (W0.drewN n) from Below.drewn (Below.refl _ _))
        go_wp2_with fail
        (with_reducible refine (sameInts_any A' B' h.roots k.roots c' d' _ HRn KRn hl2 kl2).mono ?_)
        rintro e wz ⟨rfl, m, rfl⟩
        go_wp2_with fail
        go_ret
        refine ⟨ret_bool ?_, blw_⟩
        obtain ⟨hc9, hr9⟩ := h
        obtain ⟨kc9, kr9⟩ := k
        have h9 := HCE.out
        simp only at h9
        subst h9
        rw [Bool.eq_iff_iff, eqB_iff, eqB_iff]
        simp
  · have hli : ((h.cells.length : Int) != (k.cells.length : Int)) = true := by simp; omega
    go_enter Try.func38, Try.ntmps38
    go_wp2_with fail
    go_ret
    exact ⟨ret_bool (eqB_ne (fun e => hl (by rw [e]))).symm, blw_⟩
end Go.Proofs.Ytkikeanpbffpkaa

/- The laws' fixed answer. -/
namespace Go.Proofs.Ytkikeanpbffpkaa
open Go.RowKit
set_option maxRecDepth 100000
set_option linter.unusedSimpArgs false
set_option linter.unusedVariables false
theorem isTotal_3 (w : World) : Calls Try.prog 93 #[.int .i64 3] w fun e w' => e = .returned (.bool true) ∧ w' = w := by
  go_enter Try.func93, Try.ntmps93
  go_wp2
  go_ret
  exact ⟨rfl, rfl⟩
theorem blocksValid_3 (g c : Nat) (w : World) (h0 : w.cell? ⟨g, 0, none⟩ = some (.int .i64 0)) (h1 : w.cell? ⟨g, 1, none⟩ = some (.int .i64 3)) (h2 : w.cell? ⟨g, 2, none⟩ = some (.bool false)) :
    Calls Try.prog 70 #[.slice (some ⟨g, 0, none⟩) 1 c, .int .i64 3] w fun e w' => e = .returned (.bool true) ∧ Below w.heap.size w w' := by
  go_enter Try.func70, Try.ntmps70
  go_wp2_with fail
  (with_reducible refine (isTotal_3 _).mono ?_)
  rintro e w1 ⟨rfl, rfl⟩
  go_wp2_with fail
  go_loopw [5, 13] (fun s i wr => ((i = .int .i64 0 ∧ s = .int .i64 0) ∨ (i = .int .i64 1 ∧ s = .int .i64 3)) ∧ Below w1.heap.size w1 wr) (fun _ i _ => 1 - (intOf i).toNat)
  case atStart => exact ⟨.inl ⟨rfl, rfl⟩, Below.refl _ _⟩
  case round =>
    obtain ⟨h, hB⟩ := hrel
    rcases h with ⟨rfl, rfl⟩ | ⟨rfl, rfl⟩
    · have hzB := hB.size
      have k0 := cell_below h0 hB
      have k1 := cell_below h1 hB
      have k2 := cell_below h2 hB
      clear h0 h1 h2
      go_wp2_with fail
      go_roundw
      case rel => exact ⟨.inr ⟨rfl, rfl⟩, blw_⟩
      case measure => simp [intOf]
    · clear h0 h1 h2
      go_wp2_with fail
      go_ret
      exact ⟨rfl, hB⟩
theorem freeWords_3 (g c : Nat) (w : World) (h0 : w.cell? ⟨g, 0, none⟩ = some (.int .i64 0)) (h1 : w.cell? ⟨g, 1, none⟩ = some (.int .i64 3)) (h2 : w.cell? ⟨g, 2, none⟩ = some (.bool false)) :
    Calls Try.prog 40 #[.slice (some ⟨g, 0, none⟩) 1 c, .int .i64 3] w fun e w' => e = .returned (.int .i64 3) ∧ Below w.heap.size w w' := by
  go_enter Try.func40, Try.ntmps40
  go_wp2_with fail
  (with_reducible refine (blocksValid_3 g c _ h0 h1 h2).mono ?_)
  rintro e w1 ⟨rfl, hB1⟩
  have h0 := cell_below h0 hB1
  have h1 := cell_below h1 hB1
  have h2 := cell_below h2 hB1
  go_wp2_with fail
  go_loopw [5, 14] (fun s i wr => ((i = .int .i64 0 ∧ s = .int .i64 0) ∨ (i = .int .i64 1 ∧ s = .int .i64 3)) ∧ Below w1.heap.size w1 wr) (fun _ i _ => 1 - (intOf i).toNat)
  case atStart => exact ⟨.inl ⟨rfl, rfl⟩, Below.refl _ _⟩
  case round =>
    obtain ⟨h, hB⟩ := hrel
    rcases h with ⟨rfl, rfl⟩ | ⟨rfl, rfl⟩
    · have hzB := hB.size
      have k0 := cell_below h0 hB
      have k1 := cell_below h1 hB
      have k2 := cell_below h2 hB
      clear h0 h1 h2
      go_wp2_with fail
      go_roundw
      case rel => exact ⟨.inr ⟨rfl, rfl⟩, blw_⟩
      case measure => simp [intOf]
    · clear h0 h1 h2
      go_wp2_with fail
      go_ret
      exact ⟨rfl, hB1.trans (hB.mono hB1.size)⟩
theorem alive_any (w : World) : Calls Try.prog 10 #[] w fun e w' => e = .returned (.bool true) ∧ Below w.heap.size w w' := by
  go_enter Try.func10, Try.ntmps10
  go_wp2_with fail
  (with_reducible refine (freeWords_3 w.heap.size _ _ ?_ ?_ ?_).mono ?_)
  · simp [go_sem]
  · simp [go_sem]
  · simp [go_sem]
  rintro e w1 ⟨rfl, hB⟩
  go_wp2_with fail
  go_ret
  exact ⟨rfl, blw_⟩
end Go.Proofs.Ytkikeanpbffpkaa
