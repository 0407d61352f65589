/- FnStepCounted: the law's call returns true. -/
import Derived.Test.YtkikeanpbffpkaaChecked
import Derived.Deep.QuietTactic
import Derived.BigQuiet
import Derived.Deep.RegionWith
import Derived.Test.YtkikeanpbffpkaaGrCtx
import Derived.Test.YtkikeanpbffpkaaGrDrC
import Derived.Test.YtkikeanpbffpkaaGrSam
import Derived.Test.YtkikeanpbffpkaaGrSame
import Derived.Test.YtkikeanpbffpkaaGrCntI
import Derived.Test.YtkikeanpbffpkaaGrCntS
import Derived.Test.YtkikeanpbffpkaaStepH
import Derived.Test.YtkikeanpbffpkaaViewI
import Derived.Test.YtkikeanpbffpkaaGrCntD
namespace Go.Proofs.Ytkikeanpbffpkaa
open Go.RowKit
set_option maxRecDepth 100000
set_option linter.unusedSimpArgs false
set_option linter.unusedVariables false
set_option maxHeartbeats 8000000 in
theorem walkStepCounted (C : Option Addr) (bs : List Int) (c : Nat) (w : World) (hr : RF fu w C bs) (hb : ∀ x ∈ bs, 0 ≤ x ∧ x < 256) (hc : bs.length ≤ c) (hc2 : c ≤ 9223372036854775807) :
    Calls Try.prog 3 #[.slice C bs.length c] w fun e w' => e = .returned (.bool true) ∧ Below w.heap.size w w' := by
  by_cases hbig : 1048576 < bs.length
  · go_enter Try.func3, Try.ntmps3
    go_wp2
    go_ret
    exact ⟨rfl, blw_⟩
  go_enter Try.func3, Try.ntmps3
  go_wp2_with fail
  (with_reducible refine (drawStepCounted_any C bs c _ hr hb hc hc2).mono ?_); rintro e w1 ⟨v1, p, o, rfl, hV, hB⟩
  have hV_p := hV
  clear hV
  obtain ⟨A_p, n_p, B_p, m_p, C_p, k_p, rfl⟩ := hV_p.parts
  clear hr hb
  have zB := hB.size
  simp only [cmdV]
  go_upto_region 4 with fail
  refine Code.gen (Stb (fun W => RCt W (.agg #[.slice A_p p.store.cells.length n_p, .slice B_p p.store.roots.length m_p, .slice C_p p.counts.length k_p]) p ∧ Bx W (w1.heap.size) [.slice A_p p.store.cells.length n_p, .slice B_p p.store.roots.length m_p, .slice C_p p.counts.length k_p] ∧ Bx W (w1.heap.size + 1) [.int .i64 o.op, .int .i64 o.a, .int .i64 o.b, .int .i64 o.c] ∧ Below w.heap.size w W)) (Stb.and (Stb.rct (hV_p.below blw_)) (Stb.and (Stb.bx ((Bx.new w1 [.slice A_p p.store.cells.length n_p, .slice B_p p.store.roots.length m_p, .slice C_p p.counts.length k_p] 28).below blw_)) (Stb.and (Stb.bx (by simpa using Bx.new (w1.alloc (.cells #[.slice A_p p.store.cells.length n_p, .slice B_p p.store.roots.length m_p, .slice C_p p.counts.length k_p] 28)) [.int .i64 o.op, .int .i64 o.a, .int .i64 o.b, .int .i64 o.c] 30)) (Stb.here blw_)))) ?_
  obtain ⟨bx_o, hbx_o⟩ : ∃ x, Hid (x = w1.heap.size + 1) := ⟨_, rfl⟩
  rw [← hbx_o.out]
  generalize w1.heap.size = bx_p
  clear hbx_o
  clear hV_p hB zB
  rintro W HI
  obtain ⟨X, hX⟩ : ∃ X, Hid (X = stepCountM p o) := ⟨_, rfl⟩
  have c_p0 := HI.now.2.1.c 0 _ rfl
  have c_p1 := HI.now.2.1.c 1 _ rfl
  have c_p2 := HI.now.2.1.c 2 _ rfl
  have z_p := HI.now.2.1.lt
  have c_o0 := HI.now.2.2.1.c 0 _ rfl
  have c_o1 := HI.now.2.2.1.c 1 _ rfl
  have c_o2 := HI.now.2.2.1.c 2 _ rfl
  have c_o3 := HI.now.2.2.1.c 3 _ rfl
  have z_o := HI.now.2.2.1.lt
  go_wp2_with fail
  refine Calls.gen (Stb (fun W => RCt W (.agg #[.slice A_p p.store.cells.length n_p, .slice B_p p.store.roots.length m_p, .slice C_p p.counts.length k_p]) p ∧ Bx W bx_p [.slice A_p p.store.cells.length n_p, .slice B_p p.store.roots.length m_p, .slice C_p p.counts.length k_p] ∧ Bx W bx_o [.int .i64 o.op, .int .i64 o.a, .int .i64 o.b, .int .i64 o.c] ∧ Below w.heap.size w W)) (HI.step blw_) ?_
  clear c_p0 c_p1 c_p2 z_p c_o0 c_o1 c_o2 c_o3 z_o
  clear HI 
  rintro W HI
  (with_reducible refine (implStepCounted_any _ p o _ HI.now.1).mono ?_); rw [← hX.out]; rintro e w2 ⟨v2, rfl, oH, hB⟩
  replace HI := HI.step hB
  clear hB
  have hV_x := oH.rc
  clear oH
  obtain ⟨A_x, n_x, B_x, m_x, C_x, k_x, rfl⟩ := hV_x.parts
  go_upto_region 5 with fail
  refine Code.gen (Stb (fun W => RCt W (.agg #[.slice A_x X.1.store.cells.length n_x, .slice B_x X.1.store.roots.length m_x, .slice C_x X.1.counts.length k_x]) X.1 ∧ Bx W (w2.heap.size) [.slice A_x X.1.store.cells.length n_x, .slice B_x X.1.store.roots.length m_x, .slice C_x X.1.counts.length k_x] ∧ RCt W (.agg #[.slice A_p p.store.cells.length n_p, .slice B_p p.store.roots.length m_p, .slice C_p p.counts.length k_p]) p ∧ Bx W bx_p [.slice A_p p.store.cells.length n_p, .slice B_p p.store.roots.length m_p, .slice C_p p.counts.length k_p] ∧ Bx W bx_o [.int .i64 o.op, .int .i64 o.a, .int .i64 o.b, .int .i64 o.c] ∧ Below w.heap.size w W)) (Stb.and (Stb.rct (hV_x.below blw_)) (Stb.and (Stb.bx (Bx.new w2 [.slice A_x X.1.store.cells.length n_x, .slice B_x X.1.store.roots.length m_x, .slice C_x X.1.counts.length k_x] 28)) (HI.step blw_))) ?_
  generalize w2.heap.size = bx_x
  clear HI hV_x 
  rintro W HI
  have c_p0 := HI.now.2.2.2.1.c 0 _ rfl
  have c_p1 := HI.now.2.2.2.1.c 1 _ rfl
  have c_p2 := HI.now.2.2.2.1.c 2 _ rfl
  have z_p := HI.now.2.2.2.1.lt
  have c_o0 := HI.now.2.2.2.2.1.c 0 _ rfl
  have c_o1 := HI.now.2.2.2.2.1.c 1 _ rfl
  have c_o2 := HI.now.2.2.2.2.1.c 2 _ rfl
  have c_o3 := HI.now.2.2.2.2.1.c 3 _ rfl
  have z_o := HI.now.2.2.2.2.1.lt
  go_wp2_with fail
  refine Calls.gen (Stb (fun W => RCt W (.agg #[.slice A_x X.1.store.cells.length n_x, .slice B_x X.1.store.roots.length m_x, .slice C_x X.1.counts.length k_x]) X.1 ∧ Bx W bx_x [.slice A_x X.1.store.cells.length n_x, .slice B_x X.1.store.roots.length m_x, .slice C_x X.1.counts.length k_x] ∧ RCt W (.agg #[.slice A_p p.store.cells.length n_p, .slice B_p p.store.roots.length m_p, .slice C_p p.counts.length k_p]) p ∧ Bx W bx_p [.slice A_p p.store.cells.length n_p, .slice B_p p.store.roots.length m_p, .slice C_p p.counts.length k_p] ∧ Bx W bx_o [.int .i64 o.op, .int .i64 o.a, .int .i64 o.b, .int .i64 o.c] ∧ Below w.heap.size w W)) (HI.step blw_) ?_
  clear c_p0 c_p1 c_p2 z_p c_o0 c_o1 c_o2 c_o3 z_o
  clear HI 
  rintro W HI
  (with_reducible refine (specStepCounted_any _ p o _ HI.now.2.2.1).mono ?_); rw [← hX.out]; rintro e w2 ⟨v2, rfl, oH, hB⟩
  replace HI := HI.step hB
  clear hB
  have hV_y := oH.rc
  clear oH
  obtain ⟨A_y, n_y, B_y, m_y, C_y, k_y, rfl⟩ := hV_y.parts
  go_upto_region 6 with fail
  refine Code.gen (Stb (fun W => RCt W (.agg #[.slice A_y X.1.store.cells.length n_y, .slice B_y X.1.store.roots.length m_y, .slice C_y X.1.counts.length k_y]) X.1 ∧ Bx W (w2.heap.size) [.slice A_y X.1.store.cells.length n_y, .slice B_y X.1.store.roots.length m_y, .slice C_y X.1.counts.length k_y] ∧ RCt W (.agg #[.slice A_x X.1.store.cells.length n_x, .slice B_x X.1.store.roots.length m_x, .slice C_x X.1.counts.length k_x]) X.1 ∧ Bx W bx_x [.slice A_x X.1.store.cells.length n_x, .slice B_x X.1.store.roots.length m_x, .slice C_x X.1.counts.length k_x] ∧ RCt W (.agg #[.slice A_p p.store.cells.length n_p, .slice B_p p.store.roots.length m_p, .slice C_p p.counts.length k_p]) p ∧ Bx W bx_p [.slice A_p p.store.cells.length n_p, .slice B_p p.store.roots.length m_p, .slice C_p p.counts.length k_p] ∧ Bx W bx_o [.int .i64 o.op, .int .i64 o.a, .int .i64 o.b, .int .i64 o.c] ∧ Below w.heap.size w W)) (Stb.and (Stb.rct (hV_y.below blw_)) (Stb.and (Stb.bx (Bx.new w2 [.slice A_y X.1.store.cells.length n_y, .slice B_y X.1.store.roots.length m_y, .slice C_y X.1.counts.length k_y] 28)) (HI.step blw_))) ?_
  generalize w2.heap.size = bx_y
  clear HI hV_y 
  rintro W HI
  have c_x0 := HI.now.2.2.2.1.c 0 _ rfl
  have c_x1 := HI.now.2.2.2.1.c 1 _ rfl
  have c_x2 := HI.now.2.2.2.1.c 2 _ rfl
  have z_x := HI.now.2.2.2.1.lt
  have c_y0 := HI.now.2.1.c 0 _ rfl
  have c_y1 := HI.now.2.1.c 1 _ rfl
  have c_y2 := HI.now.2.1.c 2 _ rfl
  have z_y := HI.now.2.1.lt
  go_wp2_with fail
  refine Calls.gen (Stb (fun W => RCt W (.agg #[.slice A_y X.1.store.cells.length n_y, .slice B_y X.1.store.roots.length m_y, .slice C_y X.1.counts.length k_y]) X.1 ∧ Bx W bx_y [.slice A_y X.1.store.cells.length n_y, .slice B_y X.1.store.roots.length m_y, .slice C_y X.1.counts.length k_y] ∧ RCt W (.agg #[.slice A_x X.1.store.cells.length n_x, .slice B_x X.1.store.roots.length m_x, .slice C_x X.1.counts.length k_x]) X.1 ∧ Bx W bx_x [.slice A_x X.1.store.cells.length n_x, .slice B_x X.1.store.roots.length m_x, .slice C_x X.1.counts.length k_x] ∧ RCt W (.agg #[.slice A_p p.store.cells.length n_p, .slice B_p p.store.roots.length m_p, .slice C_p p.counts.length k_p]) p ∧ Bx W bx_p [.slice A_p p.store.cells.length n_p, .slice B_p p.store.roots.length m_p, .slice C_p p.counts.length k_p] ∧ Bx W bx_o [.int .i64 o.op, .int .i64 o.a, .int .i64 o.b, .int .i64 o.c] ∧ Below w.heap.size w W)) (HI.step blw_) ?_
  clear c_x0 c_x1 c_x2 z_x c_y0 c_y1 c_y2 z_y
  clear HI 
  rintro W HI
  (with_reducible refine (sameCounted_eq _ _ X.1 _ HI.now.2.2.1 HI.now.1).mono ?_); rintro e w2 ⟨rfl, hB⟩
  replace HI := HI.step hB
  clear hB
  rcases bool_ft X.2 with hx | hx
  · have HN : Hid (X.1.store.roots.length = 0 ∨ X.1 = p) := by rw [hX.out] at hx ⊢; exact law_StepCounted_no hx
    rw [hx]
    by_cases hz : X.1.store.roots.length = 0
    · have c_x0 := HI.now.2.2.2.1.c 0 _ rfl
      have c_x1 := HI.now.2.2.2.1.c 1 _ rfl
      have c_x2 := HI.now.2.2.2.1.c 2 _ rfl
      have z_x := HI.now.2.2.2.1.lt
      rw [hz] at c_x1
      go_wp2_with fail
      refine Calls.gen (Stb (fun W => RCt W (.agg #[.slice A_y X.1.store.cells.length n_y, .slice B_y X.1.store.roots.length m_y, .slice C_y X.1.counts.length k_y]) X.1 ∧ Bx W bx_y [.slice A_y X.1.store.cells.length n_y, .slice B_y X.1.store.roots.length m_y, .slice C_y X.1.counts.length k_y] ∧ RCt W (.agg #[.slice A_x X.1.store.cells.length n_x, .slice B_x X.1.store.roots.length m_x, .slice C_x X.1.counts.length k_x]) X.1 ∧ Bx W bx_x [.slice A_x X.1.store.cells.length n_x, .slice B_x X.1.store.roots.length m_x, .slice C_x X.1.counts.length k_x] ∧ RCt W (.agg #[.slice A_p p.store.cells.length n_p, .slice B_p p.store.roots.length m_p, .slice C_p p.counts.length k_p]) p ∧ Bx W bx_p [.slice A_p p.store.cells.length n_p, .slice B_p p.store.roots.length m_p, .slice C_p p.counts.length k_p] ∧ Bx W bx_o [.int .i64 o.op, .int .i64 o.a, .int .i64 o.b, .int .i64 o.c] ∧ Below w.heap.size w W)) (HI.step blw_) ?_
      clear c_x0 c_x1 c_x2 z_x
      clear HI 
      rintro W HI
      (with_reducible refine (alive_any _).mono ?_); rintro e w2 ⟨rfl, hB⟩
      replace HI := HI.step hB
      clear hB
      have HB := HI.now.2.2.2.2.2.2.2
      have zB := HB.size
      clear HI
      go_wp2_with fail
      go_ret
      exact ⟨rfl, blw_⟩
    have hz1 : ((X.1.store.roots.length : Int) == 0) = false := by rw [beq_eq_false_iff_ne]; omega
    have c_x0 := HI.now.2.2.2.1.c 0 _ rfl
    have c_x1 := HI.now.2.2.2.1.c 1 _ rfl
    have c_x2 := HI.now.2.2.2.1.c 2 _ rfl
    have z_x := HI.now.2.2.2.1.lt
    have c_p0 := HI.now.2.2.2.2.2.1.c 0 _ rfl
    have c_p1 := HI.now.2.2.2.2.2.1.c 1 _ rfl
    have c_p2 := HI.now.2.2.2.2.2.1.c 2 _ rfl
    have z_p := HI.now.2.2.2.2.2.1.lt
    go_wp2_with fail
    refine Calls.gen (Stb (fun W => RCt W (.agg #[.slice A_y X.1.store.cells.length n_y, .slice B_y X.1.store.roots.length m_y, .slice C_y X.1.counts.length k_y]) X.1 ∧ Bx W bx_y [.slice A_y X.1.store.cells.length n_y, .slice B_y X.1.store.roots.length m_y, .slice C_y X.1.counts.length k_y] ∧ RCt W (.agg #[.slice A_x X.1.store.cells.length n_x, .slice B_x X.1.store.roots.length m_x, .slice C_x X.1.counts.length k_x]) X.1 ∧ Bx W bx_x [.slice A_x X.1.store.cells.length n_x, .slice B_x X.1.store.roots.length m_x, .slice C_x X.1.counts.length k_x] ∧ RCt W (.agg #[.slice A_p p.store.cells.length n_p, .slice B_p p.store.roots.length m_p, .slice C_p p.counts.length k_p]) p ∧ Bx W bx_p [.slice A_p p.store.cells.length n_p, .slice B_p p.store.roots.length m_p, .slice C_p p.counts.length k_p] ∧ Bx W bx_o [.int .i64 o.op, .int .i64 o.a, .int .i64 o.b, .int .i64 o.c] ∧ Below w.heap.size w W)) (HI.step blw_) ?_
    clear c_x0 c_x1 c_x2 z_x c_p0 c_p1 c_p2 z_p
    clear HI 
    rintro W HI
    have hE := HN.out.resolve_left hz
    have hVx := HI.now.2.2.1
    rw [hE] at hVx
    rw [hE]
    (with_reducible refine (sameCounted_eq _ _ p _ hVx HI.now.2.2.2.2.1).mono ?_); rintro e w2 ⟨rfl, hB⟩
    replace HI := HI.step hB
    clear hB
    clear hVx
    go_wp2_with fail
    refine Calls.gen (Stb (fun W => RCt W (.agg #[.slice A_y X.1.store.cells.length n_y, .slice B_y X.1.store.roots.length m_y, .slice C_y X.1.counts.length k_y]) X.1 ∧ Bx W bx_y [.slice A_y X.1.store.cells.length n_y, .slice B_y X.1.store.roots.length m_y, .slice C_y X.1.counts.length k_y] ∧ RCt W (.agg #[.slice A_x X.1.store.cells.length n_x, .slice B_x X.1.store.roots.length m_x, .slice C_x X.1.counts.length k_x]) X.1 ∧ Bx W bx_x [.slice A_x X.1.store.cells.length n_x, .slice B_x X.1.store.roots.length m_x, .slice C_x X.1.counts.length k_x] ∧ RCt W (.agg #[.slice A_p p.store.cells.length n_p, .slice B_p p.store.roots.length m_p, .slice C_p p.counts.length k_p]) p ∧ Bx W bx_p [.slice A_p p.store.cells.length n_p, .slice B_p p.store.roots.length m_p, .slice C_p p.counts.length k_p] ∧ Bx W bx_o [.int .i64 o.op, .int .i64 o.a, .int .i64 o.b, .int .i64 o.c] ∧ Below w.heap.size w W)) (HI.step blw_) ?_
    clear HI 
    rintro W HI
    (with_reducible refine (alive_any _).mono ?_); rintro e w2 ⟨rfl, hB⟩
    replace HI := HI.step hB
    clear hB
    have HB := HI.now.2.2.2.2.2.2.2
    have zB := HB.size
    clear HI
    go_wp2_with fail
    go_ret
    exact ⟨rfl, blw_⟩
  have HL := Lib.hid (law_StepCounted (p := p) (o := o) (by rw [← hX.out]; exact hx))
  rw [← hX.out] at HL
  rw [hx]
  have c_x0 := HI.now.2.2.2.1.c 0 _ rfl
  have c_x1 := HI.now.2.2.2.1.c 1 _ rfl
  have c_x2 := HI.now.2.2.2.1.c 2 _ rfl
  have z_x := HI.now.2.2.2.1.lt
  have c_p0 := HI.now.2.2.2.2.2.1.c 0 _ rfl
  have c_p1 := HI.now.2.2.2.2.2.1.c 1 _ rfl
  have c_p2 := HI.now.2.2.2.2.2.1.c 2 _ rfl
  have z_p := HI.now.2.2.2.2.2.1.lt
  have HC2 := HI.now.2.2.1.co
  have HX2 := HI.now.2.2.1.inv.1.cells
  have hl40 := Lib.hid (valid_small (countOk_iff.1 HL.out.1).1).1
  go_wp2_with fail
  go_loopw [9] (fun s9 wr => ∃ k : Nat, s9 = .int .i64 (k : Int) ∧ k ≤ X.1.counts.length ∧ ∃ n, wr = w2.drewN n) (fun s9 _ => X.1.counts.length - (intOf s9).toNat)
  case atStart => exact ⟨0, rfl, by omega, 0, rfl⟩
  case round =>
    obtain ⟨k, rfl, hk, n9, rfl⟩ := hrel
    by_cases hlt : k < X.1.counts.length
    · obtain ⟨b1, o1, cc, Ar, cr, rfl, g1, m1, -, -, -, -, -⟩ := HX2.at_ (k := k) (by have := HL.out.2.2.1; omega)
      obtain ⟨b2, o2, y2, rfl, g2, m2, -⟩ := HC2.at_ hlt
      have q2 : w2.cell? ⟨b2, o2 + k, none⟩ = some (.int .i64 y2) := m2
      have he : cc.used = decide (0 < y2) := by have h9 := HL.out.2.1 k cc g1; rw [List.getD_eq_getElem?_getD, g2] at h9; exact h9
      have y0 : 0 ≤ y2 := ((okc_of HL.out.1).2 y2 (List.mem_of_getElem? g2)).1
      have i0 : (0 : Int) ≤ (k : Int) := by omega
      have i1 : (k : Int) < (X.1.store.cells.length : Int) := by have := HL.out.2.2.1; omega
      have i2 : (k : Int) < (X.1.counts.length : Int) := by omega
      have i3 : (k : Int) + 1 < 9223372036854775807 := by have := HL.out.2.2.1; have := hl40.out; omega
      rw [he] at m1
      clear g1 g2 m2 HI he
      by_cases hy : 0 < y2
      · clear y0
        rw [decide_eq_true hy] at m1
        go_wp2
        go_quiet (fail)
        go_wp2
        go_roundw
        case rel => exact ⟨k + 1, by go_num, by omega, _, by first | rfl | (simp; rfl)⟩
        case measure => simp [intOf]; omega
      · have hy0 : y2 = 0 := by omega
        subst hy0
        rw [decide_eq_false hy] at m1
        clear y0 hy
        go_wp2
        go_quiet (fail)
        go_wp2
        go_roundw
        case rel => exact ⟨k + 1, by go_num, by omega, _, by first | rfl | (simp; rfl)⟩
        case measure => simp [intOf]; omega
    · have i4 : ¬ (k : Int) < (X.1.counts.length : Int) := by omega
      clear HX2 HC2
      have c_o0 := HI.now.2.2.2.2.2.2.1.c 0 _ rfl
      have c_o1 := HI.now.2.2.2.2.2.2.1.c 1 _ rfl
      have c_o2 := HI.now.2.2.2.2.2.2.1.c 2 _ rfl
      have c_o3 := HI.now.2.2.2.2.2.2.1.c 3 _ rfl
      obtain ⟨Y, hY⟩ : ∃ Y, Hid (Y = stepM p.store o) := ⟨_, rfl⟩
      rw [← hY.out] at HL
      go_wp2_with fail
      refine Calls.gen (Stb (fun W => RCt W (.agg #[.slice A_y X.1.store.cells.length n_y, .slice B_y X.1.store.roots.length m_y, .slice C_y X.1.counts.length k_y]) X.1 ∧ Bx W bx_y [.slice A_y X.1.store.cells.length n_y, .slice B_y X.1.store.roots.length m_y, .slice C_y X.1.counts.length k_y] ∧ RCt W (.agg #[.slice A_x X.1.store.cells.length n_x, .slice B_x X.1.store.roots.length m_x, .slice C_x X.1.counts.length k_x]) X.1 ∧ Bx W bx_x [.slice A_x X.1.store.cells.length n_x, .slice B_x X.1.store.roots.length m_x, .slice C_x X.1.counts.length k_x] ∧ RCt W (.agg #[.slice A_p p.store.cells.length n_p, .slice B_p p.store.roots.length m_p, .slice C_p p.counts.length k_p]) p ∧ Bx W bx_p [.slice A_p p.store.cells.length n_p, .slice B_p p.store.roots.length m_p, .slice C_p p.counts.length k_p] ∧ Bx W bx_o [.int .i64 o.op, .int .i64 o.a, .int .i64 o.b, .int .i64 o.c] ∧ Below w.heap.size w W)) (HI.step blw_) ?_
      clear c_x0 c_x1 c_x2 z_x c_p0 c_p1 c_p2 z_p c_o0 c_o1 c_o2 c_o3
      clear HI 
      rintro W HI
      (with_reducible refine (implStepHeap_any _ p.store o _ (HI.now.2.2.2.2.1).st).mono ?_); rw [← hY.out]; rintro e w2 ⟨v2, rfl, oH, hB⟩
      replace HI := HI.step hB
      clear hB
      have hV_s := oH.rh
      clear oH
      obtain ⟨A_s, n_s, B_s, m_s, rfl⟩ := hV_s.parts
      go_upto_region 16 with fail
      refine Code.gen (Stb (fun W => RH W (.agg #[.slice A_s Y.1.cells.length n_s, .slice B_s Y.1.roots.length m_s]) Y.1 ∧ Bx W (w2.heap.size) [.slice A_s Y.1.cells.length n_s, .slice B_s Y.1.roots.length m_s] ∧ RCt W (.agg #[.slice A_y X.1.store.cells.length n_y, .slice B_y X.1.store.roots.length m_y, .slice C_y X.1.counts.length k_y]) X.1 ∧ Bx W bx_y [.slice A_y X.1.store.cells.length n_y, .slice B_y X.1.store.roots.length m_y, .slice C_y X.1.counts.length k_y] ∧ RCt W (.agg #[.slice A_x X.1.store.cells.length n_x, .slice B_x X.1.store.roots.length m_x, .slice C_x X.1.counts.length k_x]) X.1 ∧ Bx W bx_x [.slice A_x X.1.store.cells.length n_x, .slice B_x X.1.store.roots.length m_x, .slice C_x X.1.counts.length k_x] ∧ RCt W (.agg #[.slice A_p p.store.cells.length n_p, .slice B_p p.store.roots.length m_p, .slice C_p p.counts.length k_p]) p ∧ Bx W bx_p [.slice A_p p.store.cells.length n_p, .slice B_p p.store.roots.length m_p, .slice C_p p.counts.length k_p] ∧ Bx W bx_o [.int .i64 o.op, .int .i64 o.a, .int .i64 o.b, .int .i64 o.c] ∧ Below w.heap.size w W)) (Stb.and (Stb.rh (hV_s.below blw_)) (Stb.and (Stb.bx (Bx.new w2 [.slice A_s Y.1.cells.length n_s, .slice B_s Y.1.roots.length m_s] 26)) (HI.step blw_))) ?_
      generalize w2.heap.size = bx_s
      clear HI hV_s 
      rintro W HI
      have c_x0 := HI.now.2.2.2.2.2.1.c 0 _ rfl
      have c_x1 := HI.now.2.2.2.2.2.1.c 1 _ rfl
      have c_x2 := HI.now.2.2.2.2.2.1.c 2 _ rfl
      have z_x := HI.now.2.2.2.2.2.1.lt
      go_wp2_with fail
      refine Calls.gen (Stb (fun W => RH W (.agg #[.slice A_s Y.1.cells.length n_s, .slice B_s Y.1.roots.length m_s]) Y.1 ∧ Bx W bx_s [.slice A_s Y.1.cells.length n_s, .slice B_s Y.1.roots.length m_s] ∧ RCt W (.agg #[.slice A_y X.1.store.cells.length n_y, .slice B_y X.1.store.roots.length m_y, .slice C_y X.1.counts.length k_y]) X.1 ∧ Bx W bx_y [.slice A_y X.1.store.cells.length n_y, .slice B_y X.1.store.roots.length m_y, .slice C_y X.1.counts.length k_y] ∧ RCt W (.agg #[.slice A_x X.1.store.cells.length n_x, .slice B_x X.1.store.roots.length m_x, .slice C_x X.1.counts.length k_x]) X.1 ∧ Bx W bx_x [.slice A_x X.1.store.cells.length n_x, .slice B_x X.1.store.roots.length m_x, .slice C_x X.1.counts.length k_x] ∧ RCt W (.agg #[.slice A_p p.store.cells.length n_p, .slice B_p p.store.roots.length m_p, .slice C_p p.counts.length k_p]) p ∧ Bx W bx_p [.slice A_p p.store.cells.length n_p, .slice B_p p.store.roots.length m_p, .slice C_p p.counts.length k_p] ∧ Bx W bx_o [.int .i64 o.op, .int .i64 o.a, .int .i64 o.b, .int .i64 o.c] ∧ Below w.heap.size w W)) (HI.step blw_) ?_
      clear c_x0 c_x1 c_x2 z_x
      clear HI 
      rintro W HI
      (with_reducible refine (implCountedValid_any _ X.1 _ HI.now.2.2.2.2.1).mono ?_); rw [HL.out.1]; rintro e w2 ⟨rfl, hB⟩
      replace HI := HI.step hB
      clear hB
      rcases bool_ft Y.2 with hy | hy
      · rw [hy]
        have HB := HI.now.2.2.2.2.2.2.2.2.2
        have zB := HB.size
        clear HI
        go_wp2_with fail
        go_ret
        exact ⟨rfl, blw_⟩
      rw [hy]
      have c_x0 := HI.now.2.2.2.2.2.1.c 0 _ rfl
      have c_x1 := HI.now.2.2.2.2.2.1.c 1 _ rfl
      have c_x2 := HI.now.2.2.2.2.2.1.c 2 _ rfl
      have z_x := HI.now.2.2.2.2.2.1.lt
      have c_s0 := HI.now.2.1.c 0 _ rfl
      have c_s1 := HI.now.2.1.c 1 _ rfl
      have z_s := HI.now.2.1.lt
      go_wp2_with fail
      refine Calls.gen (Stb (fun W => RH W (.agg #[.slice A_s Y.1.cells.length n_s, .slice B_s Y.1.roots.length m_s]) Y.1 ∧ Bx W bx_s [.slice A_s Y.1.cells.length n_s, .slice B_s Y.1.roots.length m_s] ∧ RCt W (.agg #[.slice A_y X.1.store.cells.length n_y, .slice B_y X.1.store.roots.length m_y, .slice C_y X.1.counts.length k_y]) X.1 ∧ Bx W bx_y [.slice A_y X.1.store.cells.length n_y, .slice B_y X.1.store.roots.length m_y, .slice C_y X.1.counts.length k_y] ∧ RCt W (.agg #[.slice A_x X.1.store.cells.length n_x, .slice B_x X.1.store.roots.length m_x, .slice C_x X.1.counts.length k_x]) X.1 ∧ Bx W bx_x [.slice A_x X.1.store.cells.length n_x, .slice B_x X.1.store.roots.length m_x, .slice C_x X.1.counts.length k_x] ∧ RCt W (.agg #[.slice A_p p.store.cells.length n_p, .slice B_p p.store.roots.length m_p, .slice C_p p.counts.length k_p]) p ∧ Bx W bx_p [.slice A_p p.store.cells.length n_p, .slice B_p p.store.roots.length m_p, .slice C_p p.counts.length k_p] ∧ Bx W bx_o [.int .i64 o.op, .int .i64 o.a, .int .i64 o.b, .int .i64 o.c] ∧ Below w.heap.size w W)) (HI.step blw_) ?_
      clear c_x0 c_x1 c_x2 z_x c_s0 c_s1 z_s
      clear HI 
      rintro W HI
      (with_reducible refine (sameView_any _ _ X.1.store Y.1 _ (HI.now.2.2.2.2.1).st HI.now.1).mono ?_); rw [HL.out.2.2.2 hy]; rintro e w2 ⟨rfl, hB⟩
      replace HI := HI.step hB
      clear hB
      have HB := HI.now.2.2.2.2.2.2.2.2.2
      have zB := HB.size
      clear HI
      go_wp2_with fail
      go_ret
      exact ⟨rfl, blw_⟩
end Go.Proofs.Ytkikeanpbffpkaa
