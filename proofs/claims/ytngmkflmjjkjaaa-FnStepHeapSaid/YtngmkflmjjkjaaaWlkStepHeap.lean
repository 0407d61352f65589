/- FnStepHeap: the law's call returns true. -/
import Derived.Test.YtngmkflmjjkjaaaChecked
import Derived.Deep.QuietTactic
import Derived.BigQuiet
import Derived.Deep.RegionWith
import Derived.Test.YtngmkflmjjkjaaaDrawA
import Derived.Test.YtngmkflmjjkjaaaGrSame
import Derived.Test.YtngmkflmjjkjaaaCtx
import Derived.Test.YtngmkflmjjkjaaaStepH
import Derived.Test.YtngmkflmjjkjaaaGrIso
namespace Go.Proofs.Ytngmkflmjjkjaaa
open Go.RowKit
set_option maxRecDepth 100000
set_option linter.unusedSimpArgs false
set_option linter.unusedVariables false
theorem step_from2 {h : HeapM} {o : CmdM} (hr : (stepM h o).2 = true) : validM h = true ∧ cmdOk o = true := by
  unfold stepM at hr
  split at hr
  · rename_i h9
    simp only [Bool.and_eq_true] at h9
    exact h9
  · simp at hr
theorem step_arg {o : CmdM} (h : cmdOk o = true) : 0 ≤ o.a ∧ o.a < 4 := by
  unfold cmdOk at h
  simp [inB] at h
  omega
set_option maxHeartbeats 8000000 in
theorem walkStepHeap (C : Option Addr) (bs : List Int) (c : Nat) (w : World) (hr : RF fu w C bs) (hb : ∀ x ∈ bs, 0 ≤ x ∧ x < 256) (hc : bs.length ≤ c) (hc2 : c ≤ 9223372036854775807) :
    Calls Try.prog 5 #[.slice C bs.length c] w fun e w' => e = .returned (.bool true) ∧ Below w.heap.size w w' := by
  by_cases hbig : 1048576 < bs.length
  · go_enter Try.func5, Try.ntmps5
    go_wp2
    go_ret
    exact ⟨rfl, (by repeat (first | ((with_reducible refine Below.setc ?_ ?_ _); focus (first | omega | (simp; done) | (simp; omega))) | ((with_reducible refine Below.allocc ?_ ?_ _); focus (first | omega | (simp; done) | (simp; omega))) | (with_reducible refine Below.drew ?_) | (with_reducible refine Below.drewn ?_) | (with_reducible assumption) | (with_reducible exact Below.refl _ _) | ((with_reducible refine Below.stepp (by with_reducible assumption) ?_ ?_); focus (first | omega | (simp; done) | (simp; omega)))))⟩
  go_enter Try.func5, Try.ntmps5
  go_wp2_with fail
  (with_reducible refine (drawStepHeap_any C bs c _ hr hb hc hc2).mono ?_); rintro e w1 ⟨v, h, o, rfl, hV, hB⟩
  obtain ⟨A, n, A', n', rfl⟩ := hV.parts
  have zB := hB.size
  clear hr hb
  simp only [cmdV]
  go_wp2_with fail
  refine Calls.gen (fun W => Below w.heap.size w W ∧ RH W (.agg #[.slice A h.cells.length n, .slice A' h.roots.length n']) h ∧ Bx W w1.heap.size [.slice A h.cells.length n, .slice A' h.roots.length n'] ∧ Bx W (w1.heap.size + 1) [.int .i64 o.op, .int .i64 o.a, .int .i64 o.b, .int .i64 o.c]) ⟨(by repeat (first | ((with_reducible refine Below.setc ?_ ?_ _); focus (first | omega | (simp; done) | (simp; omega))) | ((with_reducible refine Below.allocc ?_ ?_ _); focus (first | omega | (simp; done) | (simp; omega))) | (with_reducible refine Below.drew ?_) | (with_reducible refine Below.drewn ?_) | (with_reducible assumption) | (with_reducible exact Below.refl _ _) | ((with_reducible refine Below.stepp (by with_reducible assumption) ?_ ?_); focus (first | omega | (simp; done) | (simp; omega))))), hV.below (by repeat (first | ((with_reducible refine Below.setc ?_ ?_ _); focus (first | omega | (simp; done) | (simp; omega))) | ((with_reducible refine Below.allocc ?_ ?_ _); focus (first | omega | (simp; done) | (simp; omega))) | (with_reducible refine Below.drew ?_) | (with_reducible refine Below.drewn ?_) | (with_reducible assumption) | (with_reducible exact Below.refl _ _) | ((with_reducible refine Below.stepp (by with_reducible assumption) ?_ ?_); focus (first | omega | (simp; done) | (simp; omega))))), (Bx.new w1 [.slice A h.cells.length n, .slice A' h.roots.length n'] 28).below (by repeat (first | ((with_reducible refine Below.setc ?_ ?_ _); focus (first | omega | (simp; done) | (simp; omega))) | ((with_reducible refine Below.allocc ?_ ?_ _); focus (first | omega | (simp; done) | (simp; omega))) | (with_reducible refine Below.drew ?_) | (with_reducible refine Below.drewn ?_) | (with_reducible assumption) | (with_reducible exact Below.refl _ _) | ((with_reducible refine Below.stepp (by with_reducible assumption) ?_ ?_); focus (first | omega | (simp; done) | (simp; omega))))), by simpa using Bx.new (w1.alloc (.cells #[.slice A h.cells.length n, .slice A' h.roots.length n'] 28)) [.int .i64 o.op, .int .i64 o.a, .int .i64 o.b, .int .i64 o.c] 36⟩ ?_
  obtain ⟨bc, hbc⟩ : ∃ x, Hid (x = w1.heap.size + 1) := ⟨_, rfl⟩
  rw [← hbc.out]
  generalize w1.heap.size = bh
  clear hB hV zB hbc
  rintro W ⟨HB, HV, HH, HC⟩
  obtain ⟨X, hX⟩ : ∃ X, Hid (X = stepM h o) := ⟨_, rfl⟩
  (with_reducible refine (implStepHeap_any _ h o _ HV).mono ?_); rw [← hX.out]; rintro e w2 ⟨v2, rfl, oH, hB⟩
  have hV2 := oH.rh
  obtain ⟨A2, n2, A2', n2', rfl⟩ := hV2.parts
  have HB := HB.trans (hB.mono HB.size)
  have zB := HB.size
  have HV := HV.below hB
  have HH := HH.below hB
  have HC := HC.below hB
  clear hB oH
  go_upto_region 5 with fail
  refine Code.gen (fun W => Below w.heap.size w W ∧ RH W (.agg #[.slice A h.cells.length n, .slice A' h.roots.length n']) h ∧ Bx W bh [.slice A h.cells.length n, .slice A' h.roots.length n'] ∧ Bx W bc [.int .i64 o.op, .int .i64 o.a, .int .i64 o.b, .int .i64 o.c] ∧ RH W (.agg #[.slice A2 X.1.cells.length n2, .slice A2' X.1.roots.length n2']) X.1 ∧ Bx W w2.heap.size [.slice A2 X.1.cells.length n2, .slice A2' X.1.roots.length n2']) ⟨(by repeat (first | ((with_reducible refine Below.setc ?_ ?_ _); focus (first | omega | (simp; done) | (simp; omega))) | ((with_reducible refine Below.allocc ?_ ?_ _); focus (first | omega | (simp; done) | (simp; omega))) | (with_reducible refine Below.drew ?_) | (with_reducible refine Below.drewn ?_) | (with_reducible assumption) | (with_reducible exact Below.refl _ _) | ((with_reducible refine Below.stepp (by with_reducible assumption) ?_ ?_); focus (first | omega | (simp; done) | (simp; omega))))), HV.below (by repeat (first | ((with_reducible refine Below.setc ?_ ?_ _); focus (first | omega | (simp; done) | (simp; omega))) | ((with_reducible refine Below.allocc ?_ ?_ _); focus (first | omega | (simp; done) | (simp; omega))) | (with_reducible refine Below.drew ?_) | (with_reducible refine Below.drewn ?_) | (with_reducible assumption) | (with_reducible exact Below.refl _ _) | ((with_reducible refine Below.stepp (by with_reducible assumption) ?_ ?_); focus (first | omega | (simp; done) | (simp; omega))))), HH.below (by repeat (first | ((with_reducible refine Below.setc ?_ ?_ _); focus (first | omega | (simp; done) | (simp; omega))) | ((with_reducible refine Below.allocc ?_ ?_ _); focus (first | omega | (simp; done) | (simp; omega))) | (with_reducible refine Below.drew ?_) | (with_reducible refine Below.drewn ?_) | (with_reducible assumption) | (with_reducible exact Below.refl _ _) | ((with_reducible refine Below.stepp (by with_reducible assumption) ?_ ?_); focus (first | omega | (simp; done) | (simp; omega))))), HC.below (by repeat (first | ((with_reducible refine Below.setc ?_ ?_ _); focus (first | omega | (simp; done) | (simp; omega))) | ((with_reducible refine Below.allocc ?_ ?_ _); focus (first | omega | (simp; done) | (simp; omega))) | (with_reducible refine Below.drew ?_) | (with_reducible refine Below.drewn ?_) | (with_reducible assumption) | (with_reducible exact Below.refl _ _) | ((with_reducible refine Below.stepp (by with_reducible assumption) ?_ ?_); focus (first | omega | (simp; done) | (simp; omega))))), hV2.below (by repeat (first | ((with_reducible refine Below.setc ?_ ?_ _); focus (first | omega | (simp; done) | (simp; omega))) | ((with_reducible refine Below.allocc ?_ ?_ _); focus (first | omega | (simp; done) | (simp; omega))) | (with_reducible refine Below.drew ?_) | (with_reducible refine Below.drewn ?_) | (with_reducible assumption) | (with_reducible exact Below.refl _ _) | ((with_reducible refine Below.stepp (by with_reducible assumption) ?_ ?_); focus (first | omega | (simp; done) | (simp; omega))))), Bx.new _ _ _⟩ ?_
  generalize w2.heap.size = bx
  clear HB HV HH HC hV2 zB
  rintro W ⟨HB, HV, HH, HC, HX, HBX⟩
  have c0 := HH.c 0 _ rfl
  have c1 := HH.c 1 _ rfl
  have d0 := HC.c 0 _ rfl
  have d1 := HC.c 1 _ rfl
  have d2 := HC.c 2 _ rfl
  have d3 := HC.c 3 _ rfl
  go_wp2_with fail
  (with_reducible refine (specStepHeap_any _ h o _ HV).mono ?_); rw [← hX.out]; rintro e w2 ⟨v2, rfl, oH, hB⟩
  have hV2 := oH.rh
  obtain ⟨A3, n3, A3', n3', rfl⟩ := hV2.parts
  have HB := HB.trans (hB.mono HB.size)
  have zB := HB.size
  have HV := HV.below hB
  have HH := HH.below hB
  have HC := HC.below hB
  have HX := HX.below hB
  have HBX := HBX.below hB
  clear hB oH c0 c1 d0 d1 d2 d3
  go_upto_region 6 with fail
  refine Code.gen (fun W => Below w.heap.size w W ∧ RH W (.agg #[.slice A h.cells.length n, .slice A' h.roots.length n']) h ∧ Bx W bh [.slice A h.cells.length n, .slice A' h.roots.length n'] ∧ Bx W bc [.int .i64 o.op, .int .i64 o.a, .int .i64 o.b, .int .i64 o.c] ∧ RH W (.agg #[.slice A2 X.1.cells.length n2, .slice A2' X.1.roots.length n2']) X.1 ∧ Bx W bx [.slice A2 X.1.cells.length n2, .slice A2' X.1.roots.length n2'] ∧ RH W (.agg #[.slice A3 X.1.cells.length n3, .slice A3' X.1.roots.length n3']) X.1 ∧ Bx W w2.heap.size [.slice A3 X.1.cells.length n3, .slice A3' X.1.roots.length n3']) ⟨(by repeat (first | ((with_reducible refine Below.setc ?_ ?_ _); focus (first | omega | (simp; done) | (simp; omega))) | ((with_reducible refine Below.allocc ?_ ?_ _); focus (first | omega | (simp; done) | (simp; omega))) | (with_reducible refine Below.drew ?_) | (with_reducible refine Below.drewn ?_) | (with_reducible assumption) | (with_reducible exact Below.refl _ _) | ((with_reducible refine Below.stepp (by with_reducible assumption) ?_ ?_); focus (first | omega | (simp; done) | (simp; omega))))), HV.below (by repeat (first | ((with_reducible refine Below.setc ?_ ?_ _); focus (first | omega | (simp; done) | (simp; omega))) | ((with_reducible refine Below.allocc ?_ ?_ _); focus (first | omega | (simp; done) | (simp; omega))) | (with_reducible refine Below.drew ?_) | (with_reducible refine Below.drewn ?_) | (with_reducible assumption) | (with_reducible exact Below.refl _ _) | ((with_reducible refine Below.stepp (by with_reducible assumption) ?_ ?_); focus (first | omega | (simp; done) | (simp; omega))))), HH.below (by repeat (first | ((with_reducible refine Below.setc ?_ ?_ _); focus (first | omega | (simp; done) | (simp; omega))) | ((with_reducible refine Below.allocc ?_ ?_ _); focus (first | omega | (simp; done) | (simp; omega))) | (with_reducible refine Below.drew ?_) | (with_reducible refine Below.drewn ?_) | (with_reducible assumption) | (with_reducible exact Below.refl _ _) | ((with_reducible refine Below.stepp (by with_reducible assumption) ?_ ?_); focus (first | omega | (simp; done) | (simp; omega))))), HC.below (by repeat (first | ((with_reducible refine Below.setc ?_ ?_ _); focus (first | omega | (simp; done) | (simp; omega))) | ((with_reducible refine Below.allocc ?_ ?_ _); focus (first | omega | (simp; done) | (simp; omega))) | (with_reducible refine Below.drew ?_) | (with_reducible refine Below.drewn ?_) | (with_reducible assumption) | (with_reducible exact Below.refl _ _) | ((with_reducible refine Below.stepp (by with_reducible assumption) ?_ ?_); focus (first | omega | (simp; done) | (simp; omega))))), HX.below (by repeat (first | ((with_reducible refine Below.setc ?_ ?_ _); focus (first | omega | (simp; done) | (simp; omega))) | ((with_reducible refine Below.allocc ?_ ?_ _); focus (first | omega | (simp; done) | (simp; omega))) | (with_reducible refine Below.drew ?_) | (with_reducible refine Below.drewn ?_) | (with_reducible assumption) | (with_reducible exact Below.refl _ _) | ((with_reducible refine Below.stepp (by with_reducible assumption) ?_ ?_); focus (first | omega | (simp; done) | (simp; omega))))), HBX.below (by repeat (first | ((with_reducible refine Below.setc ?_ ?_ _); focus (first | omega | (simp; done) | (simp; omega))) | ((with_reducible refine Below.allocc ?_ ?_ _); focus (first | omega | (simp; done) | (simp; omega))) | (with_reducible refine Below.drew ?_) | (with_reducible refine Below.drewn ?_) | (with_reducible assumption) | (with_reducible exact Below.refl _ _) | ((with_reducible refine Below.stepp (by with_reducible assumption) ?_ ?_); focus (first | omega | (simp; done) | (simp; omega))))), hV2.below (by repeat (first | ((with_reducible refine Below.setc ?_ ?_ _); focus (first | omega | (simp; done) | (simp; omega))) | ((with_reducible refine Below.allocc ?_ ?_ _); focus (first | omega | (simp; done) | (simp; omega))) | (with_reducible refine Below.drew ?_) | (with_reducible refine Below.drewn ?_) | (with_reducible assumption) | (with_reducible exact Below.refl _ _) | ((with_reducible refine Below.stepp (by with_reducible assumption) ?_ ?_); focus (first | omega | (simp; done) | (simp; omega))))), Bx.new _ _ _⟩ ?_
  generalize w2.heap.size = by_
  clear HB HV HH HC HX HBX hV2 zB
  rintro W ⟨HB, HV, HH, HC, HX, HBX, HY, HBY⟩
  have c0 := HBX.c 0 _ rfl
  have c1 := HBX.c 1 _ rfl
  have d0 := HBY.c 0 _ rfl
  have d1 := HBY.c 1 _ rfl
  have hE : eqB X.1 X.1 = true := eqB_of rfl
  go_wp2_with fail
  (with_reducible refine (sameHeap_any _ _ X.1 X.1 _ HX HY).mono ?_); rw [hE]; rintro e w2 ⟨rfl, hB⟩
  have HB := HB.trans (hB.mono HB.size)
  have zB := HB.size
  have HV := HV.below hB
  have HH := HH.below hB
  have HC := HC.below hB
  have HX := HX.below hB
  have HBX := HBX.below hB
  clear hB hE c0 c1 d0 d1 HY HBY
  rcases bool_ft X.2 with hx | hx
  · have HN : Hid (X.1.roots.length = 0 ∨ X.1 = h) := by
      have h9 := hx
      rw [hX.out] at h9 ⊢
      exact step_not h o h9
    rw [hx]
    have c0 := HBX.c 0 _ rfl
    have c1 := HBX.c 1 _ rfl
    have e0 := HH.c 0 _ rfl
    have e1 := HH.c 1 _ rfl
    by_cases hl0 : X.1.roots.length = 0
    · have hl0' : ((X.1.roots.length : Int) == 0) = true := by simp [hl0]
      rw [hl0] at c1
      go_wp2_with fail
      (with_reducible refine (alive_any _).mono ?_); rintro e w3 ⟨rfl, hB⟩
      have zb := hB.size
      go_wp2_with fail
      go_ret
      exact ⟨rfl, (by repeat (first | ((with_reducible refine Below.setc ?_ ?_ _); focus (first | omega | (simp; done) | (simp; omega))) | ((with_reducible refine Below.allocc ?_ ?_ _); focus (first | omega | (simp; done) | (simp; omega))) | (with_reducible refine Below.drew ?_) | (with_reducible refine Below.drewn ?_) | (with_reducible assumption) | (with_reducible exact Below.refl _ _) | ((with_reducible refine Below.stepp (by with_reducible assumption) ?_ ?_); focus (first | omega | (simp; done) | (simp; omega)))))⟩
    · have hl0' : ((X.1.roots.length : Int) == 0) = false := by simp [hl0]
      have hE : eqB X.1 h = true := eqB_of (HN.out.resolve_left hl0)
      go_wp2_with fail
      (with_reducible refine (sameHeap_any _ _ X.1 h _ HX HV).mono ?_); rw [hE]; rintro e w3 ⟨rfl, hB⟩
      have HB := HB.trans (hB.mono HB.size)
      have zB := HB.size
      clear hB hE c0 c1 e0 e1
      go_wp2_with fail
      (with_reducible refine (alive_any _).mono ?_); rintro e w4 ⟨rfl, hB⟩
      have zb := hB.size
      go_wp2_with fail
      go_ret
      exact ⟨rfl, (by repeat (first | ((with_reducible refine Below.setc ?_ ?_ _); focus (first | omega | (simp; done) | (simp; omega))) | ((with_reducible refine Below.allocc ?_ ?_ _); focus (first | omega | (simp; done) | (simp; omega))) | (with_reducible refine Below.drew ?_) | (with_reducible refine Below.drewn ?_) | (with_reducible assumption) | (with_reducible exact Below.refl _ _) | ((with_reducible refine Below.stepp (by with_reducible assumption) ?_ ?_); focus (first | omega | (simp; done) | (simp; omega)))))⟩
  have HD : Hid (validM X.1 = true ∧ X.1.cells.length = (if o.op = 1 then h.cells.length + 1 else h.cells.length) ∧ X.1.roots.length = 4 ∧ h.roots.length = 4) := by
    have h9 := hx
    rw [hX.out] at h9 ⊢
    exact step_done h9
  have HRT : Hid (∀ (k : Nat) (a b : Int), X.1.roots[k]? = some a → h.roots[k]? = some b → a = b ∨ ((k : Int) = o.a ∧ o.op ≠ 3 ∧ o.op ≠ 6)) := by
    have h9 := hx
    rw [hX.out] at h9 ⊢
    exact fun k a b => step_root h9
  have HCT : Hid (∀ (k : Nat) (c : CellM), h.cells[k]? = some c → ∃ c', X.1.cells[k]? = some c' ∧ c'.used = c.used ∧ ((c'.data = c.data ∧ c'.refs = c.refs) ∨ (k : Int) = rootAt h o.a)) := by
    have h9 := hx
    rw [hX.out] at h9 ⊢
    exact fun k c => step_cell h9
  have HOK : Hid (cmdOk o = true ∧ validM h = true) := by
    have h9 := hx
    rw [hX.out] at h9
    exact ⟨(step_from2 h9).2, (step_from2 h9).1⟩
  obtain ⟨ha0, ha4⟩ : 0 ≤ o.a ∧ o.a < 4 := step_arg HOK.out.1
  have h40 : X.1.cells.length ≤ 41 ∧ h.cells.length ≤ 40 := by
    have h8 := HOK.out.2
    have h7 := HD.out.2.1
    unfold validM at h8
    simp at h8
    split at h7 <;> omega
  obtain ⟨a, Ha⟩ : ∃ a : Nat, Hid (o.a = (a : Int)) := ⟨o.a.toNat, by unfold Hid; omega⟩
  rw [hx]
  have c0 := HBX.c 0 _ rfl
  have c1 := HBX.c 1 _ rfl
  have e0 := HH.c 0 _ rfl
  have e1 := HH.c 1 _ rfl
  have d0 := HC.c 0 _ rfl
  have d1 : w2.cell? ⟨bc, 1, none⟩ = some (.int .i64 (a : Int)) := by have h9 := HC.c 1 _ rfl; rwa [Ha.out] at h9
  go_wp2_with fail
  go_loopw [9] (fun s9 wr => ∃ k : Nat, s9 = .int .i64 (k : Int) ∧ k ≤ 4 ∧ ∃ n, wr = w2.drewN n) (fun s9 _ => 4 - (intOf s9).toNat)
  case atStart => exact ⟨0, rfl, by omega, 0, rfl⟩
  case round =>
    obtain ⟨k, rfl, hk, n9, rfl⟩ := hrel
    by_cases hlt : k < 4
    · obtain ⟨bR, oR, y, rfl, gy, qy, -⟩ := HX.inv.2.1.at_ (k := k) (by have := HD.out.2.2.1; omega)
      obtain ⟨bR2, oR2, y2, rfl, gy2, qy2, -⟩ := HV.inv.2.1.at_ (k := k) (by have := HD.out.2.2.2; omega)
      have q1 : w2.cell? ⟨bR, oR + k, none⟩ = some (.int .i64 y) := qy
      have q2 : w2.cell? ⟨bR2, oR2 + k, none⟩ = some (.int .i64 y2) := qy2
      have HR9 : Hid (y = y2 ∨ ((k : Int) = o.a ∧ o.op ≠ 3 ∧ o.op ≠ 6)) := HRT.out k y y2 gy gy2
      have i0 : (0 : Int) ≤ (k : Int) := by omega
      have i1 : (k : Int) < (X.1.roots.length : Int) := by have := HD.out.2.2.1; omega
      have i2 : (k : Int) < (h.roots.length : Int) := by have := HD.out.2.2.2; omega
      have i4 : (k : Int) < 4 := by omega
      clear gy gy2 qy qy2
      by_cases he : y = y2
      · have hne : (y != y2) = false := by simp [he]
        clear he
        go_wp2
        go_quiet (fail)
        go_wp2
        go_roundw
        case rel => exact ⟨k + 1, by go_num, by omega, _, by first | rfl | (simp; rfl)⟩
        case measure => simp [intOf]; omega
      · have hne : (y != y2) = true := by simp [he]
        obtain ⟨h5, h3, h6⟩ := HR9.out.resolve_left he
        have h5b : ((k : Int) != (a : Int)) = false := by have := Ha.out; simp; omega
        have h3b : (o.op == 3) = false := by simp [h3]
        have h6b : (o.op == 6) = false := by simp [h6]
        clear he h5 h3 h6
        go_wp2
        go_quiet (fail)
        go_wp2
        go_roundw
        case rel => exact ⟨k + 1, by go_num, by omega, _, by first | rfl | (simp; rfl)⟩
        case measure => simp [intOf]; omega
    · have i4 : ¬ (k : Int) < 4 := by omega
      go_wp2
      have hal : a < h.roots.length := by have := HD.out.2.2.2; have := Ha.out; omega
      obtain ⟨bA, oA, ya, rfl, ga, qa, -⟩ := HV.inv.2.1.at_ hal
      have qa' : w2.cell? ⟨bA, oA + a, none⟩ = some (.int .i64 ya) := qa
      have hra : Hid (rootAt h o.a = ya) := by
        have h9 := Ha.out
        unfold Hid rootAt
        rw [h9]
        simp only [Int.toNat_natCast, ga]
      have ia1 : (0 : Int) ≤ (a : Int) := by omega
      have ia2 : (a : Int) < (h.roots.length : Int) := by omega
      clear qa ga
      go_loopw [10, 11] (fun s10 s11 wr => ∃ k : Nat, s10 = .int .i64 (k : Int) ∧ k ≤ h.cells.length ∧ ∃ n, wr = w2.drewN n) (fun s10 _ _ => h.cells.length - (intOf s10).toNat)
      case atStart => exact ⟨0, rfl, by omega, n9, rfl⟩
      case round =>
        clear i4 hk hlt
        obtain ⟨k, rfl, hk, n8, rfl⟩ := hrel
        by_cases hlt : k < h.cells.length
        · obtain ⟨bx1, ox1, x, Ax, cx, rfl, gx, x0, x1, x2, hrx, hlx, -⟩ := HV.inv.1.at_ hlt
          have hlt2 : k < X.1.cells.length := by obtain ⟨c', h9, -⟩ := HCT.out k x gx; exact (List.getElem?_eq_some_iff.1 h9).1
          obtain ⟨by1, oy1, y, Ay, cy, rfl, gy, y0, y1, y2, hry, hly, -⟩ := HX.inv.1.at_ hlt2
          have HCk : Hid (y.used = x.used ∧ ((y.data = x.data ∧ y.refs = x.refs) ∨ (k : Int) = ya)) := by
            obtain ⟨c', h9, h8, h7⟩ := HCT.out k x gx
            rw [gy] at h9
            injection h9 with h9
            subst h9
            rw [hra.out] at h7
            exact ⟨h8, h7⟩
          have HRX := Lib.hid hry
          have HRY := Lib.hid hrx
          obtain ⟨xu, xd, xr0⟩ := x
          obtain ⟨yu, yd, xr⟩ := y
          simp only at x0 x1 x2 y0 y1 y2 hlx hly
          have p0 : w2.cell? ⟨bx1, ox1 + k * 3, none⟩ = some (.bool xu) := x0
          have p1 : w2.cell? ⟨bx1, ox1 + k * 3 + 1, none⟩ = some (.int .i64 xd) := x1
          have p2 : w2.cell? ⟨bx1, ox1 + k * 3 + 2, none⟩ = some (.slice Ax xr0.length cx) := x2
          have r0 : w2.cell? ⟨by1, oy1 + k * 3, none⟩ = some (.bool yu) := y0
          have r1 : w2.cell? ⟨by1, oy1 + k * 3 + 1, none⟩ = some (.int .i64 yd) := y1
          have r2 : w2.cell? ⟨by1, oy1 + k * 3 + 2, none⟩ = some (.slice Ay xr.length cy) := y2
          have i1 : (0 : Int) ≤ (k : Int) := by omega
          have i2 : (k : Int) < (h.cells.length : Int) := by omega
          have i3 : (k : Int) < (X.1.cells.length : Int) := by omega
          have hus : yu = xu := HCk.out.1
          clear x0 x1 x2 y0 y1 y2 gx gy hrx hry
          subst hus
          have hu2 : (yu != yu) = false := by simp
          have hq : ∀ n, Calls Try.prog 28 #[.slice Ay xr.length cy, .slice Ax xr0.length cx] (w2.drewN n) fun e w' => e = .returned (.bool (eqB xr xr0)) ∧ ∃ m, w' = (w2.drewN n).drewN m := fun n => sameInts_any Ay Ax xr xr0 cy cx _ (HRX.out.below (Below.drewn (Below.refl _ _))) (HRY.out.below (Below.drewn (Below.refl _ _))) hly hlx
          have HQ := Lib.hid hq
          clear hq
          by_cases hd : yd = xd
          · have hd1 : (yd == xd) = true := by simp [hd]
            cases he : eqB xr xr0 with
            | true =>
              have hq := HQ.out
              rw [he] at hq
              clear hd he
              go_wp2
              go_quiet ((go_at_call 28; first | exact Calls.quiet_of_drew (hq _) | exact quiet_add (hq _)))
              go_wp2
              go_quiet (fail)
              go_wp2
              go_roundw
              case rel => exact ⟨k + 1, by go_num, by omega, _, by first | rfl | (simp; rfl)⟩
              case measure => simp [intOf]; omega
            | false =>
              have hq := HQ.out
              have hky : ((k : Int) != ya) = false := by
                rcases HCk.out.2 with ⟨-, h9⟩ | h9
                · exact absurd h9 (eqB_false he)
                · simp [h9]
              rw [he] at hq
              clear hd he
              go_wp2
              go_quiet ((go_at_call 28; first | exact Calls.quiet_of_drew (hq _) | exact quiet_add (hq _)))
              go_wp2
              go_quiet (fail)
              go_wp2
              go_roundw
              case rel => exact ⟨k + 1, by go_num, by omega, _, by first | rfl | (simp; rfl)⟩
              case measure => simp [intOf]; omega
          · have hd1 : (yd == xd) = false := by simp [hd]
            have hky : ((k : Int) != ya) = false := by
              rcases HCk.out.2 with ⟨h9, -⟩ | h9
              · exact absurd h9 hd
              · simp [h9]
            clear hd
            go_wp2
            go_quiet (fail)
            go_wp2
            go_quiet (fail)
            go_wp2
            go_roundw
            case rel => exact ⟨k + 1, by go_num, by omega, _, by first | rfl | (simp; rfl)⟩
            case measure => simp [intOf]; omega
        · have i4 : ¬ (k : Int) < (h.cells.length : Int) := by omega
          go_wp2_with fail
          have hBn : Below w2.heap.size w2 (w2.drewN n8) := Below.drewn (Below.refl _ _)
          have hvv : validM X.1 = true := HD.out.1
          (with_reducible refine (implHeapValid_any _ X.1 _ (HX.below hBn)).mono ?_); rw [hvv]; rintro e w3 ⟨rfl, hB⟩
          have hB := hBn.trans (hB.mono hBn.size)
          have HB := HB.trans (hB.mono HB.size)
          have HBX := HBX.below hB
          have HH := HH.below hB
          have HC := HC.below hB
          have hlen : Hid (X.1.cells.length = (if o.op = 1 then h.cells.length + 1 else h.cells.length)) := HD.out.2.1
          clear c0 c1 e0 e1 d0 d1 hB hBn hvv qa'
          have c0 := HBX.c 0 _ rfl
          have e0 := HH.c 0 _ rfl
          have d0 := HC.c 0 _ rfl
          by_cases h1 : o.op = 1
          · have hl1 : ((X.1.cells.length : Int) == (h.cells.length : Int) + 1) = true := by have h9 := hlen.out; rw [if_pos h1] at h9; simp; omega
            have ov : (h.cells.length : Int) + 1 < 9223372036854775807 := by omega
            have hl2 : X.1.cells.length = h.cells.length + 1 := by have h9 := hlen.out; rwa [if_pos h1] at h9
            rw [h1] at d0
            rw [hl2] at c0
            clear hl1 hl2
            go_wp2_with fail
            go_ret
            exact ⟨rfl, HB⟩
          · have h1b : (o.op == 1) = false := by simp [h1]
            have h1c : (o.op != 1) = true := by simp [h1]
            have hl2 : X.1.cells.length = h.cells.length := by have h9 := hlen.out; rwa [if_neg h1] at h9
            rw [hl2] at c0
            clear hl2
            go_wp2_with fail
            go_ret
            exact ⟨rfl, HB⟩
end Go.Proofs.Ytngmkflmjjkjaaa
