/- FnSnapStep: the law's call returns true. -/
import Derived.Test.YteilaalababfpaaChecked
import Derived.Deep.QuietTactic
import Derived.BigQuiet
import Derived.Deep.RegionWith
import Derived.Test.YteilaalababfpaaGrCtx
import Derived.Test.YteilaalababfpaaGrDrawN
import Derived.Test.YteilaalababfpaaGrSam
import Derived.Test.YteilaalababfpaaGrSame
import Derived.Test.YteilaalababfpaaGrSnap
import Derived.Test.YteilaalababfpaaSnapV
import Derived.Test.YteilaalababfpaaGrIso
namespace Go.Proofs.Yteilaalababfpaa
open Go.RowKit
set_option maxRecDepth 100000
set_option linter.unusedSimpArgs false
set_option linter.unusedVariables false
set_option maxHeartbeats 8000000 in
theorem walkSnapStep (C : Option Addr) (bs : List Int) (c : Nat) (w : World) (hr : RF fu w C bs) (hb : ∀ x ∈ bs, 0 ≤ x ∧ x < 256) (hc : bs.length ≤ c) (hc2 : c ≤ 9223372036854775807) :
    Calls Try.prog 5 #[.slice C bs.length c] w fun e w' => e = .returned (.bool true) ∧ Below w.heap.size w w' := by
  by_cases hbig : 1048576 < bs.length
  · go_enter Try.func5, Try.ntmps5
    go_wp2
    go_ret
    exact ⟨rfl, blw_⟩
  go_enter Try.func5, Try.ntmps5
  go_wp2_with fail
  (with_reducible refine (drawSnapStep_any C bs c _ hr hb hc hc2).mono ?_); rintro e w1 ⟨v1, p, rfl, hV, hB⟩
  have hV_p := hV
  clear hV
  obtain ⟨A_p, n_p, B_p, m_p, C_p, k_p, D_p, l_p, rfl⟩ := hV_p.parts
  clear hr hb
  have zB := hB.size
  go_upto_region 4 with fail
  refine Code.gen (Stb (fun W => RTw W (.agg #[.slice A_p p.store.cells.length n_p, .slice B_p p.store.roots.length m_p, .slice C_p p.x.length k_p, .slice D_p p.y.length l_p]) p ∧ Bx W (w1.heap.size) [.slice A_p p.store.cells.length n_p, .slice B_p p.store.roots.length m_p, .slice C_p p.x.length k_p, .slice D_p p.y.length l_p] ∧ Below w.heap.size w W)) (Stb.and (Stb.rtw (hV_p.below blw_)) (Stb.and (Stb.bx (Bx.new w1 [.slice A_p p.store.cells.length n_p, .slice B_p p.store.roots.length m_p, .slice C_p p.x.length k_p, .slice D_p p.y.length l_p] 29)) (Stb.here blw_))) ?_
  generalize w1.heap.size = bx_p
  clear hV_p hB zB
  rintro W HI
  obtain ⟨X, hX⟩ : ∃ X, Hid (X = snapStepM p) := ⟨_, rfl⟩
  have c_p0 := HI.now.2.1.c 0 _ rfl
  have c_p1 := HI.now.2.1.c 1 _ rfl
  have c_p2 := HI.now.2.1.c 2 _ rfl
  have c_p3 := HI.now.2.1.c 3 _ rfl
  have z_p := HI.now.2.1.lt
  go_wp2_with fail
  refine Calls.gen (Stb (fun W => RTw W (.agg #[.slice A_p p.store.cells.length n_p, .slice B_p p.store.roots.length m_p, .slice C_p p.x.length k_p, .slice D_p p.y.length l_p]) p ∧ Bx W bx_p [.slice A_p p.store.cells.length n_p, .slice B_p p.store.roots.length m_p, .slice C_p p.x.length k_p, .slice D_p p.y.length l_p] ∧ Below w.heap.size w W)) (HI.step blw_) ?_
  clear c_p0 c_p1 c_p2 c_p3 z_p
  clear HI 
  rintro W HI
  (with_reducible refine (implSnapStep_any _ p _ HI.now.1).mono ?_); rw [← hX.out]; rintro e w2 ⟨v2, rfl, oH, hB⟩
  replace HI := HI.step hB
  clear hB
  have hV_x := oH.rt
  clear oH
  obtain ⟨A_x, n_x, B_x, m_x, C_x, k_x, D_x, l_x, rfl⟩ := hV_x.parts
  go_upto_region 5 with fail
  refine Code.gen (Stb (fun W => RTw W (.agg #[.slice A_x X.1.store.cells.length n_x, .slice B_x X.1.store.roots.length m_x, .slice C_x X.1.x.length k_x, .slice D_x X.1.y.length l_x]) X.1 ∧ Bx W (w2.heap.size) [.slice A_x X.1.store.cells.length n_x, .slice B_x X.1.store.roots.length m_x, .slice C_x X.1.x.length k_x, .slice D_x X.1.y.length l_x] ∧ RTw W (.agg #[.slice A_p p.store.cells.length n_p, .slice B_p p.store.roots.length m_p, .slice C_p p.x.length k_p, .slice D_p p.y.length l_p]) p ∧ Bx W bx_p [.slice A_p p.store.cells.length n_p, .slice B_p p.store.roots.length m_p, .slice C_p p.x.length k_p, .slice D_p p.y.length l_p] ∧ Below w.heap.size w W)) (Stb.and (Stb.rtw (hV_x.below blw_)) (Stb.and (Stb.bx (Bx.new w2 [.slice A_x X.1.store.cells.length n_x, .slice B_x X.1.store.roots.length m_x, .slice C_x X.1.x.length k_x, .slice D_x X.1.y.length l_x] 29)) (HI.step blw_))) ?_
  generalize w2.heap.size = bx_x
  clear HI hV_x 
  rintro W HI
  have c_p0 := HI.now.2.2.2.1.c 0 _ rfl
  have c_p1 := HI.now.2.2.2.1.c 1 _ rfl
  have c_p2 := HI.now.2.2.2.1.c 2 _ rfl
  have c_p3 := HI.now.2.2.2.1.c 3 _ rfl
  have z_p := HI.now.2.2.2.1.lt
  go_wp2_with fail
  refine Calls.gen (Stb (fun W => RTw W (.agg #[.slice A_x X.1.store.cells.length n_x, .slice B_x X.1.store.roots.length m_x, .slice C_x X.1.x.length k_x, .slice D_x X.1.y.length l_x]) X.1 ∧ Bx W bx_x [.slice A_x X.1.store.cells.length n_x, .slice B_x X.1.store.roots.length m_x, .slice C_x X.1.x.length k_x, .slice D_x X.1.y.length l_x] ∧ RTw W (.agg #[.slice A_p p.store.cells.length n_p, .slice B_p p.store.roots.length m_p, .slice C_p p.x.length k_p, .slice D_p p.y.length l_p]) p ∧ Bx W bx_p [.slice A_p p.store.cells.length n_p, .slice B_p p.store.roots.length m_p, .slice C_p p.x.length k_p, .slice D_p p.y.length l_p] ∧ Below w.heap.size w W)) (HI.step blw_) ?_
  clear c_p0 c_p1 c_p2 c_p3 z_p
  clear HI 
  rintro W HI
  (with_reducible refine (specSnapStep_any _ p _ HI.now.2.2.1).mono ?_); rw [← hX.out]; rintro e w2 ⟨v2, rfl, oH, hB⟩
  replace HI := HI.step hB
  clear hB
  have hV_y := oH.rt
  clear oH
  obtain ⟨A_y, n_y, B_y, m_y, C_y, k_y, D_y, l_y, rfl⟩ := hV_y.parts
  go_upto_region 6 with fail
  refine Code.gen (Stb (fun W => RTw W (.agg #[.slice A_y X.1.store.cells.length n_y, .slice B_y X.1.store.roots.length m_y, .slice C_y X.1.x.length k_y, .slice D_y X.1.y.length l_y]) X.1 ∧ Bx W (w2.heap.size) [.slice A_y X.1.store.cells.length n_y, .slice B_y X.1.store.roots.length m_y, .slice C_y X.1.x.length k_y, .slice D_y X.1.y.length l_y] ∧ RTw W (.agg #[.slice A_x X.1.store.cells.length n_x, .slice B_x X.1.store.roots.length m_x, .slice C_x X.1.x.length k_x, .slice D_x X.1.y.length l_x]) X.1 ∧ Bx W bx_x [.slice A_x X.1.store.cells.length n_x, .slice B_x X.1.store.roots.length m_x, .slice C_x X.1.x.length k_x, .slice D_x X.1.y.length l_x] ∧ RTw W (.agg #[.slice A_p p.store.cells.length n_p, .slice B_p p.store.roots.length m_p, .slice C_p p.x.length k_p, .slice D_p p.y.length l_p]) p ∧ Bx W bx_p [.slice A_p p.store.cells.length n_p, .slice B_p p.store.roots.length m_p, .slice C_p p.x.length k_p, .slice D_p p.y.length l_p] ∧ Below w.heap.size w W)) (Stb.and (Stb.rtw (hV_y.below blw_)) (Stb.and (Stb.bx (Bx.new w2 [.slice A_y X.1.store.cells.length n_y, .slice B_y X.1.store.roots.length m_y, .slice C_y X.1.x.length k_y, .slice D_y X.1.y.length l_y] 29)) (HI.step blw_))) ?_
  generalize w2.heap.size = bx_y
  clear HI hV_y 
  rintro W HI
  have c_x0 := HI.now.2.2.2.1.c 0 _ rfl
  have c_x1 := HI.now.2.2.2.1.c 1 _ rfl
  have c_x2 := HI.now.2.2.2.1.c 2 _ rfl
  have c_x3 := HI.now.2.2.2.1.c 3 _ rfl
  have z_x := HI.now.2.2.2.1.lt
  have c_y0 := HI.now.2.1.c 0 _ rfl
  have c_y1 := HI.now.2.1.c 1 _ rfl
  have c_y2 := HI.now.2.1.c 2 _ rfl
  have c_y3 := HI.now.2.1.c 3 _ rfl
  have z_y := HI.now.2.1.lt
  go_wp2_with fail
  refine Calls.gen (Stb (fun W => RTw W (.agg #[.slice A_y X.1.store.cells.length n_y, .slice B_y X.1.store.roots.length m_y, .slice C_y X.1.x.length k_y, .slice D_y X.1.y.length l_y]) X.1 ∧ Bx W bx_y [.slice A_y X.1.store.cells.length n_y, .slice B_y X.1.store.roots.length m_y, .slice C_y X.1.x.length k_y, .slice D_y X.1.y.length l_y] ∧ RTw W (.agg #[.slice A_x X.1.store.cells.length n_x, .slice B_x X.1.store.roots.length m_x, .slice C_x X.1.x.length k_x, .slice D_x X.1.y.length l_x]) X.1 ∧ Bx W bx_x [.slice A_x X.1.store.cells.length n_x, .slice B_x X.1.store.roots.length m_x, .slice C_x X.1.x.length k_x, .slice D_x X.1.y.length l_x] ∧ RTw W (.agg #[.slice A_p p.store.cells.length n_p, .slice B_p p.store.roots.length m_p, .slice C_p p.x.length k_p, .slice D_p p.y.length l_p]) p ∧ Bx W bx_p [.slice A_p p.store.cells.length n_p, .slice B_p p.store.roots.length m_p, .slice C_p p.x.length k_p, .slice D_p p.y.length l_p] ∧ Below w.heap.size w W)) (HI.step blw_) ?_
  clear c_x0 c_x1 c_x2 c_x3 z_x c_y0 c_y1 c_y2 c_y3 z_y
  clear HI 
  rintro W HI
  (with_reducible refine (sameSnap_eq _ _ X.1 _ HI.now.2.2.1 HI.now.1).mono ?_); rintro e w2 ⟨rfl, hB⟩
  replace HI := HI.step hB
  clear hB
  have c_p0 := HI.now.2.2.2.2.2.1.c 0 _ rfl
  have c_p1 := HI.now.2.2.2.2.2.1.c 1 _ rfl
  have c_p2 := HI.now.2.2.2.2.2.1.c 2 _ rfl
  have c_p3 := HI.now.2.2.2.2.2.1.c 3 _ rfl
  have z_p := HI.now.2.2.2.2.2.1.lt
  go_wp2_with fail
  refine Calls.gen (Stb (fun W => RTw W (.agg #[.slice A_y X.1.store.cells.length n_y, .slice B_y X.1.store.roots.length m_y, .slice C_y X.1.x.length k_y, .slice D_y X.1.y.length l_y]) X.1 ∧ Bx W bx_y [.slice A_y X.1.store.cells.length n_y, .slice B_y X.1.store.roots.length m_y, .slice C_y X.1.x.length k_y, .slice D_y X.1.y.length l_y] ∧ RTw W (.agg #[.slice A_x X.1.store.cells.length n_x, .slice B_x X.1.store.roots.length m_x, .slice C_x X.1.x.length k_x, .slice D_x X.1.y.length l_x]) X.1 ∧ Bx W bx_x [.slice A_x X.1.store.cells.length n_x, .slice B_x X.1.store.roots.length m_x, .slice C_x X.1.x.length k_x, .slice D_x X.1.y.length l_x] ∧ RTw W (.agg #[.slice A_p p.store.cells.length n_p, .slice B_p p.store.roots.length m_p, .slice C_p p.x.length k_p, .slice D_p p.y.length l_p]) p ∧ Bx W bx_p [.slice A_p p.store.cells.length n_p, .slice B_p p.store.roots.length m_p, .slice C_p p.x.length k_p, .slice D_p p.y.length l_p] ∧ Below w.heap.size w W)) (HI.step blw_) ?_
  clear c_p0 c_p1 c_p2 c_p3 z_p
  clear HI 
  rintro W HI
  (with_reducible refine (specSnapValid_any _ p _ HI.now.2.2.2.2.1).mono ?_); rintro e w2 ⟨rfl, hB⟩
  replace HI := HI.step hB
  clear hB
  rcases bool_ft (snapM p) with hva | hva
  · have hz := snap_step_no hva
    rw [← hX.out] at hz
    obtain ⟨hx2, hz⟩ := hz
    rw [hva, hx2]
    have c_x0 := HI.now.2.2.2.1.c 0 _ rfl
    have c_x1 := HI.now.2.2.2.1.c 1 _ rfl
    have c_x2 := HI.now.2.2.2.1.c 2 _ rfl
    have c_x3 := HI.now.2.2.2.1.c 3 _ rfl
    have z_x := HI.now.2.2.2.1.lt
    rw [hz] at c_x1
    clear hz hva hx2
    go_wp2_with fail
    refine Calls.gen (Stb (fun W => RTw W (.agg #[.slice A_y X.1.store.cells.length n_y, .slice B_y X.1.store.roots.length m_y, .slice C_y X.1.x.length k_y, .slice D_y X.1.y.length l_y]) X.1 ∧ Bx W bx_y [.slice A_y X.1.store.cells.length n_y, .slice B_y X.1.store.roots.length m_y, .slice C_y X.1.x.length k_y, .slice D_y X.1.y.length l_y] ∧ RTw W (.agg #[.slice A_x X.1.store.cells.length n_x, .slice B_x X.1.store.roots.length m_x, .slice C_x X.1.x.length k_x, .slice D_x X.1.y.length l_x]) X.1 ∧ Bx W bx_x [.slice A_x X.1.store.cells.length n_x, .slice B_x X.1.store.roots.length m_x, .slice C_x X.1.x.length k_x, .slice D_x X.1.y.length l_x] ∧ RTw W (.agg #[.slice A_p p.store.cells.length n_p, .slice B_p p.store.roots.length m_p, .slice C_p p.x.length k_p, .slice D_p p.y.length l_p]) p ∧ Bx W bx_p [.slice A_p p.store.cells.length n_p, .slice B_p p.store.roots.length m_p, .slice C_p p.x.length k_p, .slice D_p p.y.length l_p] ∧ Below w.heap.size w W)) (HI.step blw_) ?_
    clear c_x0 c_x1 c_x2 c_x3 z_x
    clear HI 
    rintro W HI
    (with_reducible refine (alive_any _).mono ?_); rintro e w2 ⟨rfl, hB⟩
    replace HI := HI.step hB
    clear hB
    have HB := HI.now.2.2.2.2.2.2
    have zB := HB.size
    clear HI
    go_wp2_with fail
    go_ret
    exact ⟨rfl, blw_⟩
  have HL := Lib.hid (snap_step_yes hva)
  rw [← hX.out] at HL
  rw [hva]
  clear hva
  have c_x0 := HI.now.2.2.2.1.c 0 _ rfl
  have c_x1 := HI.now.2.2.2.1.c 1 _ rfl
  have c_x2 := HI.now.2.2.2.1.c 2 _ rfl
  have c_x3 := HI.now.2.2.2.1.c 3 _ rfl
  have z_x := HI.now.2.2.2.1.lt
  have c_p0 := HI.now.2.2.2.2.2.1.c 0 _ rfl
  have c_p1 := HI.now.2.2.2.2.2.1.c 1 _ rfl
  have c_p2 := HI.now.2.2.2.2.2.1.c 2 _ rfl
  have c_p3 := HI.now.2.2.2.2.2.1.c 3 _ rfl
  have z_p := HI.now.2.2.2.2.2.1.lt
  have HX2 := HI.now.2.2.1.fx
  have HP2 := HI.now.2.2.2.2.1.fx
  have HP3 := HI.now.2.2.2.2.1.fy
  go_wp2_with fail
  go_loopw [8, 9] (fun s8 s9 wr => ∃ k : Nat, s9 = .int .i64 (k : Int) ∧ k ≤ p.x.length ∧ s8 = .bool (waitB (p.y.take k)) ∧ ∃ n, wr = w2.drewN n) (fun _ s9 _ => p.x.length - (intOf s9).toNat)
  case atStart => exact ⟨0, rfl, by omega, rfl, 0, rfl⟩
  case round =>
    obtain ⟨k, rfl, hk, rfl, n9, rfl⟩ := hrel
    obtain ⟨gb, hgb⟩ : ∃ gb, Hid (gb = waitB (p.y.take k)) := ⟨_, rfl⟩
    rw [← hgb.out]
    by_cases hlt : k < p.x.length
    · obtain ⟨b1, o1, y1, rfl, g1, m1, -⟩ := HX2.at_ (k := k) (by have := HL.out; omega)
      obtain ⟨b2, o2, y2, rfl, g2, m2, -⟩ := HP2.at_ hlt
      obtain ⟨b3, o3, y3, rfl, g3, m3, -⟩ := HP3.at_ (k := k) (by have := HL.out; omega)
      have q1 : w2.cell? ⟨b1, o1 + k, none⟩ = some (.bool y1) := m1
      have q2 : w2.cell? ⟨b2, o2 + k, none⟩ = some (.bool y2) := m2
      have q3 : w2.cell? ⟨b3, o3 + k, none⟩ = some (.bool y3) := m3
      have HE := Lib.hid (HL.out.2.2.2.2.1 k y2 y1 g2 g1)
      have HG2 : Hid (waitB (p.y.take (k + 1)) = (gb || y3)) := by rw [hgb.out]; unfold Hid waitB; rw [take_snoc_of g3, List.any_append]; simp
      have i0 : (0 : Int) ≤ (k : Int) := by omega
      have i1 : (k : Int) < (X.1.x.length : Int) := by have := HL.out; omega
      have i2 : (k : Int) < (p.x.length : Int) := by omega
      have i5 : (k : Int) < (p.y.length : Int) := by have := HL.out; omega
      have i3 : (k : Int) + 1 < 9223372036854775807 := by have := HL.out; omega
      clear g1 g2 g3 m1 m2 m3 HI hgb HX2 HP2 HP3
      rcases bool_ft y2 with h2 | h2
      · rw [h2] at q2
        rcases bool_ft gb with hg | hg
        all_goals
          rw [hg] at HG2
          subst hg
          rcases bool_ft y3 with h3 | h3
          all_goals
            rw [h3] at HG2 q3
            go_wp2
            go_roundw
            case rel => exact ⟨k + 1, by go_num, by omega, by rw [HG2.out]; rfl, _, by first | rfl | (simp; rfl)⟩
            case measure => simp [intOf]; omega
      · have hy1 : y1 = true := HE.out h2
        rw [h2] at q2
        rw [hy1] at q1
        clear hy1
        rcases bool_ft gb with hg | hg
        all_goals
          rw [hg] at HG2
          subst hg
          rcases bool_ft y3 with h3 | h3
          all_goals
            rw [h3] at HG2 q3
            go_wp2
            go_roundw
            case rel => exact ⟨k + 1, by go_num, by omega, by rw [HG2.out]; rfl, _, by first | rfl | (simp; rfl)⟩
            case measure => simp [intOf]; omega
    · have i4 : ¬ (k : Int) < (p.x.length : Int) := by omega
      have hgx : gb = X.2 := by rw [hgb.out, show k = p.y.length by have := HL.out; omega, List.take_length, HL.out.1]
      have hxx : (X.2 == X.2) = true := by simp
      rw [hgx]
      clear hgx hgb
      clear HX2 HP2 HP3
      go_wp2_with fail
      refine Calls.gen (Stb (fun W => RTw W (.agg #[.slice A_y X.1.store.cells.length n_y, .slice B_y X.1.store.roots.length m_y, .slice C_y X.1.x.length k_y, .slice D_y X.1.y.length l_y]) X.1 ∧ Bx W bx_y [.slice A_y X.1.store.cells.length n_y, .slice B_y X.1.store.roots.length m_y, .slice C_y X.1.x.length k_y, .slice D_y X.1.y.length l_y] ∧ RTw W (.agg #[.slice A_x X.1.store.cells.length n_x, .slice B_x X.1.store.roots.length m_x, .slice C_x X.1.x.length k_x, .slice D_x X.1.y.length l_x]) X.1 ∧ Bx W bx_x [.slice A_x X.1.store.cells.length n_x, .slice B_x X.1.store.roots.length m_x, .slice C_x X.1.x.length k_x, .slice D_x X.1.y.length l_x] ∧ RTw W (.agg #[.slice A_p p.store.cells.length n_p, .slice B_p p.store.roots.length m_p, .slice C_p p.x.length k_p, .slice D_p p.y.length l_p]) p ∧ Bx W bx_p [.slice A_p p.store.cells.length n_p, .slice B_p p.store.roots.length m_p, .slice C_p p.x.length k_p, .slice D_p p.y.length l_p] ∧ Below w.heap.size w W)) (HI.step blw_) ?_
      clear c_x0 c_x1 c_x2 c_x3 z_x c_p0 c_p1 c_p2 c_p3 z_p
      clear HI 
      rintro W HI
      (with_reducible refine (implSnapValid_any _ X.1 _ HI.now.2.2.1).mono ?_); rw [HL.out.2.1]; rintro e w2 ⟨rfl, hB⟩
      replace HI := HI.step hB
      clear hB
      have c_x0 := HI.now.2.2.2.1.c 0 _ rfl
      have c_x1 := HI.now.2.2.2.1.c 1 _ rfl
      have c_x2 := HI.now.2.2.2.1.c 2 _ rfl
      have c_x3 := HI.now.2.2.2.1.c 3 _ rfl
      have z_x := HI.now.2.2.2.1.lt
      have c_p0 := HI.now.2.2.2.2.2.1.c 0 _ rfl
      have c_p1 := HI.now.2.2.2.2.2.1.c 1 _ rfl
      have c_p2 := HI.now.2.2.2.2.2.1.c 2 _ rfl
      have c_p3 := HI.now.2.2.2.2.2.1.c 3 _ rfl
      have z_p := HI.now.2.2.2.2.2.1.lt
      go_wp2_with fail
      refine Calls.gen (Stb (fun W => RTw W (.agg #[.slice A_y X.1.store.cells.length n_y, .slice B_y X.1.store.roots.length m_y, .slice C_y X.1.x.length k_y, .slice D_y X.1.y.length l_y]) X.1 ∧ Bx W bx_y [.slice A_y X.1.store.cells.length n_y, .slice B_y X.1.store.roots.length m_y, .slice C_y X.1.x.length k_y, .slice D_y X.1.y.length l_y] ∧ RTw W (.agg #[.slice A_x X.1.store.cells.length n_x, .slice B_x X.1.store.roots.length m_x, .slice C_x X.1.x.length k_x, .slice D_x X.1.y.length l_x]) X.1 ∧ Bx W bx_x [.slice A_x X.1.store.cells.length n_x, .slice B_x X.1.store.roots.length m_x, .slice C_x X.1.x.length k_x, .slice D_x X.1.y.length l_x] ∧ RTw W (.agg #[.slice A_p p.store.cells.length n_p, .slice B_p p.store.roots.length m_p, .slice C_p p.x.length k_p, .slice D_p p.y.length l_p]) p ∧ Bx W bx_p [.slice A_p p.store.cells.length n_p, .slice B_p p.store.roots.length m_p, .slice C_p p.x.length k_p, .slice D_p p.y.length l_p] ∧ Below w.heap.size w W)) (HI.step blw_) ?_
      clear c_x0 c_x1 c_x2 c_x3 z_x c_p0 c_p1 c_p2 c_p3 z_p
      clear HI 
      rintro W HI
      (with_reducible refine (sameHeap_any _ _ X.1.store p.store _ (HI.now.2.2.1).st (HI.now.2.2.2.2.1).st).mono ?_); rw [eqB_of HL.out.2.2.1]; rintro e w2 ⟨rfl, hB⟩
      replace HI := HI.step hB
      clear hB
      rcases bool_ft X.2 with hx | hx
      · rw [hx]
        have c_x0 := HI.now.2.2.2.1.c 0 _ rfl
        have c_x1 := HI.now.2.2.2.1.c 1 _ rfl
        have c_x2 := HI.now.2.2.2.1.c 2 _ rfl
        have c_x3 := HI.now.2.2.2.1.c 3 _ rfl
        have z_x := HI.now.2.2.2.1.lt
        have c_p0 := HI.now.2.2.2.2.2.1.c 0 _ rfl
        have c_p1 := HI.now.2.2.2.2.2.1.c 1 _ rfl
        have c_p2 := HI.now.2.2.2.2.2.1.c 2 _ rfl
        have c_p3 := HI.now.2.2.2.2.2.1.c 3 _ rfl
        have z_p := HI.now.2.2.2.2.2.1.lt
        go_wp2_with fail
        refine Calls.gen (Stb (fun W => RTw W (.agg #[.slice A_y X.1.store.cells.length n_y, .slice B_y X.1.store.roots.length m_y, .slice C_y X.1.x.length k_y, .slice D_y X.1.y.length l_y]) X.1 ∧ Bx W bx_y [.slice A_y X.1.store.cells.length n_y, .slice B_y X.1.store.roots.length m_y, .slice C_y X.1.x.length k_y, .slice D_y X.1.y.length l_y] ∧ RTw W (.agg #[.slice A_x X.1.store.cells.length n_x, .slice B_x X.1.store.roots.length m_x, .slice C_x X.1.x.length k_x, .slice D_x X.1.y.length l_x]) X.1 ∧ Bx W bx_x [.slice A_x X.1.store.cells.length n_x, .slice B_x X.1.store.roots.length m_x, .slice C_x X.1.x.length k_x, .slice D_x X.1.y.length l_x] ∧ RTw W (.agg #[.slice A_p p.store.cells.length n_p, .slice B_p p.store.roots.length m_p, .slice C_p p.x.length k_p, .slice D_p p.y.length l_p]) p ∧ Bx W bx_p [.slice A_p p.store.cells.length n_p, .slice B_p p.store.roots.length m_p, .slice C_p p.x.length k_p, .slice D_p p.y.length l_p] ∧ Below w.heap.size w W)) (HI.step blw_) ?_
        clear c_x0 c_x1 c_x2 c_x3 z_x c_p0 c_p1 c_p2 c_p3 z_p
        clear HI 
        rintro W HI
        have hE := HL.out.2.2.2.1 hx
        have hVx := HI.now.2.2.1
        rw [hE] at hVx
        rw [hE]
        (with_reducible refine (sameSnap_eq _ _ p _ hVx HI.now.2.2.2.2.1).mono ?_); rintro e w2 ⟨rfl, hB⟩
        replace HI := HI.step hB
        clear hB
        clear hVx
        have HB := HI.now.2.2.2.2.2.2
        have zB := HB.size
        clear HI
        go_wp2_with fail
        go_ret
        exact ⟨rfl, blw_⟩
      rw [hx]
      have HB := HI.now.2.2.2.2.2.2
      have zB := HB.size
      clear HI
      go_wp2_with fail
      go_ret
      exact ⟨rfl, blw_⟩
end Go.Proofs.Yteilaalababfpaa
