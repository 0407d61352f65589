/- held..: of values that hold the marks, they say so, and leave memory as it is but for new boxes. Conditions: lengths and numbers within bounds. -/
import Derived.Test.YtdkhpmlimnfgpaaChecked
import Derived.Test.YtdkhpmlimnfgpaaSzP
import Derived.Test.YtdkhpmlimnfgpaaDataM
import Derived.Test.YtdkhpmlimnfgpaaOwn
namespace Go.Proofs.Ytdkhpmlimnfgpaa
open Go.RowKit
set_option maxRecDepth 100000
set_option linter.unusedSimpArgs false
set_option linter.unusedVariables false
set_option maxHeartbeats 400000 in
theorem heldIntS_any (A : Option Addr) (n c : Nat) (k : Int) (w : World) (hr : RF fi w A (markI n k)) (hl : n ≤ 1125899906842624) (hk0 : 0 ≤ k) (hk1 : k ≤ 1125899906842624) :
    Calls Try.prog 85 #[.slice A n c, .int .i64 k] w fun e w' => e = .returned (.int .i64 (k + (n : Int))) ∧ w = w' := by
  go_enter Try.func85, Try.ntmps85
  go_wp2
  go_loop [1, 5] (fun q i => ∃ j : Nat, j ≤ n ∧ q = .int .i64 (k + (j : Int)) ∧ i = .int .i64 j) (fun _ i => n - (intOf i).toNat)
  case atStart => exact ⟨0, by omega, by simp, rfl⟩
  case round =>
    obtain ⟨j, hj, rfl, rfl⟩ := hrel
    by_cases hlt : j < n
    · obtain ⟨b, o, x, rfl, hx, c1, hb⟩ := hr.at_ (k := j) (by rw [markI_len]; exact hlt)
      rw [markI_at k hlt] at hx
      injection hx with hx
      subst hx
      have c2 : w.cell? ⟨b, o + j, none⟩ = some (.int .i64 (k + (j : Int))) := c1
      clear c1
      go_wp2
      go_round
      case rel => exact ⟨j + 1, by omega, by go_num, by go_num⟩
      case measure => simp [intOf]; omega
    · have hke : j = n := by omega
      have HK := Lib.hid hke
      clear hke
      go_wp2
      go_ret
      exact ⟨ret_int (by rw [HK.out]), rfl⟩
set_option maxHeartbeats 400000 in
theorem heldBoolS_any (A : Option Addr) (n c : Nat) (k : Int) (w : World) (hr : RF fb w A (markB n k)) (hl : n ≤ 1125899906842624) (hk0 : 0 ≤ k) (hk1 : k ≤ 1125899906842624) :
    Calls Try.prog 80 #[.slice A n c, .int .i64 k] w fun e w' => e = .returned (.int .i64 (k + (n : Int))) ∧ w = w' := by
  go_enter Try.func80, Try.ntmps80
  go_wp2
  go_loop [1, 5] (fun q i => ∃ j : Nat, j ≤ n ∧ q = .int .i64 (k + (j : Int)) ∧ i = .int .i64 j) (fun _ i => n - (intOf i).toNat)
  case atStart => exact ⟨0, by omega, by simp, rfl⟩
  case round =>
    obtain ⟨j, hj, rfl, rfl⟩ := hrel
    by_cases hlt : j < n
    · obtain ⟨b, o, x, rfl, hx, c1, hb⟩ := hr.at_ (k := j) (by rw [markB_len]; exact hlt)
      rw [markB_at k hlt] at hx
      injection hx with hx
      subst hx
      have c2 : w.cell? ⟨b, o + j, none⟩ = some (.bool ((k + (j : Int)) % 3 == 0)) := c1
      clear c1
      go_wp2
      go_round
      case rel => exact ⟨j + 1, by omega, by go_num, by go_num⟩
      case measure => simp [intOf]; omega
    · have hke : j = n := by omega
      have HK := Lib.hid hke
      clear hke
      go_wp2
      go_ret
      exact ⟨ret_int (by rw [HK.out]), rfl⟩
set_option maxHeartbeats 400000 in
theorem heldCellS_any (A : Option Addr) (cs : List CellM) (c : Nat) (k : Int) (w : World) (hc : RC w A (markCs cs k)) (hl : cs.length ≤ 1048576) (hr : ∀ d ∈ cs, d.refs.length ≤ 1048576) (hk0 : 0 ≤ k) (hk1 : k ≤ 1125899906842) :
    Calls Try.prog 106 #[.slice A cs.length c, .int .i64 k] w fun e w' => e = .returned (.int .i64 (k + (sizeCs cs : Int))) ∧ w = w' := by
  have hsz2 : sizeCs cs ≤ 1099513724928 := by
    refine Nat.le_trans (sizeCs_bound cs 1048576 hr) ?_
    omega
  go_enter Try.func106, Try.ntmps106
  go_wp2
  go_loop [1, 5] (fun q i => ∃ j : Nat, j ≤ cs.length ∧ q = .int .i64 (k + (sizeCs (cs.take j) : Int)) ∧ i = .int .i64 j) (fun _ i => cs.length - (intOf i).toNat)
  case atStart => exact ⟨0, by omega, by simp [sizeCs], rfl⟩
  case round =>
    obtain ⟨j, hj, rfl, rfl⟩ := hrel
    by_cases hlt : j < cs.length
    · obtain ⟨b, o, x, Ar, cr, rfl, gx, x0, x1, x2, hrx, hlx, hb⟩ := hc.at_ (k := j) (by rw [markCs_len]; exact hlt)
      have hd := List.getElem?_eq_getElem hlt
      rw [markCs_at cs k j _ hd] at gx
      injection gx with gx
      subst gx
      have hs := sizeCs_snoc hd
      have hle := sizeCs_le cs j
      have hrl := hr cs[j] (List.getElem_mem hlt)
      have HS := Lib.hid hs
      have y0 : w.cell? ⟨b, o + j * 3, none⟩ = some (.bool ((k + (sizeCs (cs.take j) : Int)) % 3 == 0)) := x0
      have y1 : w.cell? ⟨b, o + j * 3 + 1, none⟩ = some (.int .i64 (k + (sizeCs (cs.take j) : Int) + 1)) := x1
      have y2 : w.cell? ⟨b, o + j * 3 + 2, none⟩ = some (.slice Ar (markI cs[j].refs.length (k + (sizeCs (cs.take j) : Int) + 2)).length cr) := x2
      rw [markI_len] at y2
      have hrx' : RF fi w Ar (markI cs[j].refs.length (k + (sizeCs (cs.take j) : Int) + 1 + 1)) := by rw [show k + (sizeCs (cs.take j) : Int) + 1 + 1 = k + (sizeCs (cs.take j) : Int) + 2 by omega]; exact hrx
      clear hs hd x0 x1 x2 hrx hlx
      go_wp2_with (go_at_call 85; refine (heldIntS_any _ cs[j].refs.length _ _ _ hrx' (by omega) (by omega) (by omega)).mono ?_; rintro e w' ⟨rfl, rfl⟩)
      go_round
      case rel => exact ⟨j + 1, by omega, by rw [HS.out]; go_num, by go_num⟩
      case measure => simp [intOf]; omega
    · have hke : j = cs.length := by omega
      have HK := Lib.hid hke
      clear hke
      go_wp2
      go_ret
      exact ⟨ret_int (by rw [HK.out, List.take_length]), rfl⟩
theorem sizeCs_small {h : HeapM} (hs : SmallH h) : sizeCs h.cells ≤ 1099513724928 := by
  refine Nat.le_trans (sizeCs_bound h.cells 1048576 hs.refs) ?_
  have := hs.cells
  omega
set_option maxHeartbeats 400000 in
theorem heldHeap_any (v : Value) (h : HeapM) (k : Int) (w : World) (hv : RH w v (markH h k)) (hs : SmallH h) (hk0 : 0 ≤ k) (hk1 : k ≤ 1125899906842) :
    Calls Try.prog 47 #[v, .int .i64 k] w fun e w' => e = .returned (.int .i64 (k + (sizeH h : Int))) ∧ Below w.heap.size w w' := by
  obtain ⟨A, c, A', c', rfl, hc, hr, -, -⟩ := hv
  have hz := sizeCs_small hs
  have h1 := hs.cells
  have h2 := hs.refs
  have h3 := hs.roots
  rw [show (markH h k).cells.length = h.cells.length from markCs_len _ _, show (markH h k).roots.length = h.roots.length from markI_len _ _]
  have hc' : RC (w.alloc (.cells #[.slice A h.cells.length c, .slice A' h.roots.length c'] 29)) A (markCs h.cells k) := RC.below (cs := markCs h.cells k) hc (by repeat (first | ((with_reducible refine Below.setc ?_ ?_ _); focus (first | omega | (simp; done) | (simp; omega))) | ((with_reducible refine Below.allocc ?_ ?_ _); focus (first | omega | (simp; done) | (simp; omega))) | (with_reducible refine Below.drew ?_) | (with_reducible refine Below.drewn ?_) | (with_reducible assumption) | (with_reducible exact Below.refl _ _) | ((with_reducible refine Below.stepp (by with_reducible assumption) ?_ ?_); focus (first | omega | (simp; done) | (simp; omega)))))
  have hr' : RF fi (w.alloc (.cells #[.slice A h.cells.length c, .slice A' h.roots.length c'] 29)) A' (markI h.roots.length (k + (sizeCs h.cells : Int))) := RF.below (xs := markI h.roots.length (k + (sizeCs h.cells : Int))) hr (by repeat (first | ((with_reducible refine Below.setc ?_ ?_ _); focus (first | omega | (simp; done) | (simp; omega))) | ((with_reducible refine Below.allocc ?_ ?_ _); focus (first | omega | (simp; done) | (simp; omega))) | (with_reducible refine Below.drew ?_) | (with_reducible refine Below.drewn ?_) | (with_reducible assumption) | (with_reducible exact Below.refl _ _) | ((with_reducible refine Below.stepp (by with_reducible assumption) ?_ ?_); focus (first | omega | (simp; done) | (simp; omega)))))
  clear hc hr
  go_enter Try.func47, Try.ntmps47
  go_wp2_with (first | (go_at_call 106; refine (heldCellS_any _ h.cells _ _ _ hc' (by omega) h2 (by omega) (by omega)).mono ?_; rintro e w' ⟨rfl, rfl⟩) | (go_at_call 85; refine (heldIntS_any _ h.roots.length _ _ _ hr' (by omega) (by omega) (by omega)).mono ?_; rintro e w' ⟨rfl, rfl⟩))
  go_ret
  exact ⟨ret_int (by simp [sizeH]; omega), (by repeat (first | ((with_reducible refine Below.setc ?_ ?_ _); focus (first | omega | (simp; done) | (simp; omega))) | ((with_reducible refine Below.allocc ?_ ?_ _); focus (first | omega | (simp; done) | (simp; omega))) | (with_reducible refine Below.drew ?_) | (with_reducible refine Below.drewn ?_) | (with_reducible assumption) | (with_reducible exact Below.refl _ _) | ((with_reducible refine Below.stepp (by with_reducible assumption) ?_ ?_); focus (first | omega | (simp; done) | (simp; omega)))))⟩
set_option maxHeartbeats 400000 in
theorem heldPaint_any (v : Value) (p : PaintM) (k : Int) (w : World) (hv : RPt w v (markP p k)) (hs : SmallH p.store) (hs2 : p.colours.length ≤ 1048576) (hk0 : 0 ≤ k) (hk1 : k ≤ 1125899) :
    Calls Try.prog 30 #[v, .int .i64 k] w fun e w' => e = .returned (.int .i64 (k + (sizeP p : Int))) ∧ Below w.heap.size w w' := by
  obtain ⟨A, c, A', c', A2, c2, rfl, hh, hr, -⟩ := hv
  have hz := sizeCs_small hs
  have h3 := hs.roots
  have hH : sizeH p.store ≤ 1099514773504 := by unfold sizeH; omega
  have hr' : RF fi w A2 (markI p.colours.length (k + (sizeH p.store : Int))) := hr
  have hh' := hh.rh c c'
  rw [show (markP p k).colours.length = p.colours.length from markI_len _ _]
  have hh2 : RH w (.agg #[.slice A (markP p k).store.cells.length c, .slice A' (markP p k).store.roots.length c']) (markH p.store k) := hh'
  have hact : (markP p k).active = p.active := rfl
  rw [hact]
  generalize (markP p k).store.cells.length = n1 at hh2 ⊢
  generalize (markP p k).store.roots.length = n2 at hh2 ⊢
  clear hr hh hh' hact
  go_enter Try.func30, Try.ntmps30
  go_wp2_with (go_at_call 47; refine (heldHeap_any _ p.store _ _ (hh2.below (by repeat (first | ((with_reducible refine Below.setc ?_ ?_ _); focus (first | omega | (simp; done) | (simp; omega))) | ((with_reducible refine Below.allocc ?_ ?_ _); focus (first | omega | (simp; done) | (simp; omega))) | (with_reducible refine Below.drew ?_) | (with_reducible refine Below.drewn ?_) | (with_reducible assumption) | (with_reducible exact Below.refl _ _) | ((with_reducible refine Below.stepp (by with_reducible assumption) ?_ ?_); focus (first | omega | (simp; done) | (simp; omega)))))) hs (by omega) (by omega)).mono ?_; rintro e w1 ⟨rfl, hB1⟩; obtain ⟨hbc, hbf, hbz⟩ := bcell hB1; have z0w1 : w.heap.size < w1.heap.size := (by (try simp at hbz); omega))
  refine (heldIntS_any _ p.colours.length _ _ _ (hr'.below (by repeat (first | ((with_reducible refine Below.setc ?_ ?_ _); focus (first | omega | (simp; done) | (simp; omega))) | ((with_reducible refine Below.allocc ?_ ?_ _); focus (first | omega | (simp; done) | (simp; omega))) | (with_reducible refine Below.drew ?_) | (with_reducible refine Below.drewn ?_) | (with_reducible assumption) | (with_reducible exact Below.refl _ _) | ((with_reducible refine Below.stepp (by with_reducible assumption) ?_ ?_); focus (first | omega | (simp; done) | (simp; omega)))))) (by omega) (by omega) (by omega)).mono ?_
  rintro e w' ⟨rfl, rfl⟩
  go_wp2
  go_ret
  exact ⟨ret_int (by simp [sizeP]; omega), (by repeat (first | ((with_reducible refine Below.setc ?_ ?_ _); focus (first | omega | (simp; done) | (simp; omega))) | ((with_reducible refine Below.allocc ?_ ?_ _); focus (first | omega | (simp; done) | (simp; omega))) | (with_reducible refine Below.drew ?_) | (with_reducible refine Below.drewn ?_) | (with_reducible assumption) | (with_reducible exact Below.refl _ _) | ((with_reducible refine Below.stepp (by with_reducible assumption) ?_ ?_); focus (first | omega | (simp; done) | (simp; omega)))))⟩
set_option maxHeartbeats 400000 in
theorem heldSnap_any (v : Value) (p : TwoM) (k : Int) (w : World) (hv : RTw w v (markT p k)) (hs : SmallH p.store) (hs2 : p.x.length ≤ 1048576) (hs3 : p.y.length ≤ 1048576) (hk0 : 0 ≤ k) (hk1 : k ≤ 1125899) :
    Calls Try.prog 23 #[v, .int .i64 k] w fun e w' => e = .returned (.int .i64 (k + (sizeT p : Int))) ∧ Below w.heap.size w w' := by
  obtain ⟨A, c, A', c', A2, c2, A3, c3, rfl, hh, hr, -, hq, -⟩ := hv
  have hz := sizeCs_small hs
  have h3 := hs.roots
  have hH : sizeH p.store ≤ 1099514773504 := by unfold sizeH; omega
  have hr' : RF fb w A2 (markB p.x.length (k + (sizeH p.store : Int))) := hr
  have hq' : RF fb w A3 (markB p.y.length (k + (sizeH p.store : Int) + (p.x.length : Int))) := hq
  have hh' := hh.rh c c'
  rw [show (markT p k).x.length = p.x.length from markB_len _ _, show (markT p k).y.length = p.y.length from markB_len _ _]
  have hh2 : RH w (.agg #[.slice A (markT p k).store.cells.length c, .slice A' (markT p k).store.roots.length c']) (markH p.store k) := hh'
  generalize (markT p k).store.cells.length = n1 at hh2 ⊢
  generalize (markT p k).store.roots.length = n2 at hh2 ⊢
  clear hr hh hh' hq
  go_enter Try.func23, Try.ntmps23
  go_wp2_with (go_at_call 47; refine (heldHeap_any _ p.store _ _ (hh2.below (by repeat (first | ((with_reducible refine Below.setc ?_ ?_ _); focus (first | omega | (simp; done) | (simp; omega))) | ((with_reducible refine Below.allocc ?_ ?_ _); focus (first | omega | (simp; done) | (simp; omega))) | (with_reducible refine Below.drew ?_) | (with_reducible refine Below.drewn ?_) | (with_reducible assumption) | (with_reducible exact Below.refl _ _) | ((with_reducible refine Below.stepp (by with_reducible assumption) ?_ ?_); focus (first | omega | (simp; done) | (simp; omega)))))) hs (by omega) (by omega)).mono ?_; rintro e w1 ⟨rfl, hB1⟩; obtain ⟨hbc, hbf, hbz⟩ := bcell hB1; have z0w1 : w.heap.size < w1.heap.size := (by (try simp at hbz); omega))
  refine (heldBoolS_any _ p.x.length _ _ _ (hr'.below (by repeat (first | ((with_reducible refine Below.setc ?_ ?_ _); focus (first | omega | (simp; done) | (simp; omega))) | ((with_reducible refine Below.allocc ?_ ?_ _); focus (first | omega | (simp; done) | (simp; omega))) | (with_reducible refine Below.drew ?_) | (with_reducible refine Below.drewn ?_) | (with_reducible assumption) | (with_reducible exact Below.refl _ _) | ((with_reducible refine Below.stepp (by with_reducible assumption) ?_ ?_); focus (first | omega | (simp; done) | (simp; omega)))))) (by omega) (by omega) (by omega)).mono ?_
  rintro e w' ⟨rfl, rfl⟩
  go_wp2_with fail
  refine (heldBoolS_any _ p.y.length _ _ _ (hq'.below (by repeat (first | ((with_reducible refine Below.setc ?_ ?_ _); focus (first | omega | (simp; done) | (simp; omega))) | ((with_reducible refine Below.allocc ?_ ?_ _); focus (first | omega | (simp; done) | (simp; omega))) | (with_reducible refine Below.drew ?_) | (with_reducible refine Below.drewn ?_) | (with_reducible assumption) | (with_reducible exact Below.refl _ _) | ((with_reducible refine Below.stepp (by with_reducible assumption) ?_ ?_); focus (first | omega | (simp; done) | (simp; omega)))))) (by omega) (by omega) (by omega)).mono ?_
  rintro e w' ⟨rfl, rfl⟩
  go_wp2
  go_ret
  exact ⟨ret_int (by simp [sizeT]; omega), (by repeat (first | ((with_reducible refine Below.setc ?_ ?_ _); focus (first | omega | (simp; done) | (simp; omega))) | ((with_reducible refine Below.allocc ?_ ?_ _); focus (first | omega | (simp; done) | (simp; omega))) | (with_reducible refine Below.drew ?_) | (with_reducible refine Below.drewn ?_) | (with_reducible assumption) | (with_reducible exact Below.refl _ _) | ((with_reducible refine Below.stepp (by with_reducible assumption) ?_ ?_); focus (first | omega | (simp; done) | (simp; omega)))))⟩
end Go.Proofs.Ytdkhpmlimnfgpaa
