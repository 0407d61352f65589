/- FnCollectYoung: the law's call returns true. -/
import Derived.Test.YtopbngfghpgbnaaChecked
import Derived.Deep.QuietTactic
import Derived.BigQuiet
import Derived.Deep.RegionWith
import Derived.Test.YtopbngfghpgbnaaGrCtx
import Derived.Test.YtopbngfghpgbnaaGrDrawG
import Derived.Test.YtopbngfghpgbnaaGrSam
import Derived.Test.YtopbngfghpgbnaaGrSame
import Derived.Test.YtopbngfghpgbnaaCollY
import Derived.Test.YtopbngfghpgbnaaCollYS
import Derived.Test.YtopbngfghpgbnaaGrAged
import Derived.Test.YtopbngfghpgbnaaViewI
import Derived.Test.YtopbngfghpgbnaaGrIso
namespace Go.Proofs.Ytopbngfghpgbnaa
open Go.RowKit
set_option maxRecDepth 100000
set_option linter.unusedSimpArgs false
set_option linter.unusedVariables false
set_option maxHeartbeats 8000000 in
theorem walkCollectYoung (C : Option Addr) (bs : List Int) (c : Nat) (w : World) (hr : RF fu w C bs) (hb : ∀ x ∈ bs, 0 ≤ x ∧ x < 256) (hc : bs.length ≤ c) (hc2 : c ≤ 9223372036854775807) :
    Calls Try.prog 12 #[.slice C bs.length c] w fun e w' => e = .returned (.bool true) ∧ Below w.heap.size w w' := by
  by_cases hbig : 1048576 < bs.length
  · go_enter Try.func12, Try.ntmps12
    go_wp2
    go_ret
    exact ⟨rfl, blw_⟩
  go_enter Try.func12, Try.ntmps12
  go_wp2_with fail
  (with_reducible refine (drawCollectYoung_any C bs c _ hr hb hc hc2).mono ?_); rintro e w1 ⟨v1, p, rfl, hV, hB⟩
  have hV_p := hV
  clear hV
  obtain ⟨A_p, n_p, B_p, m_p, C_p, k_p, D_p, l_p, rfl⟩ := hV_p.parts
  clear hr hb
  have zB := hB.size
  go_upto_region 4 with fail
  refine Code.gen (Stb (fun W => RTw W (.agg #[.slice A_p p.store.cells.length n_p, .slice B_p p.store.roots.length m_p, .slice C_p p.x.length k_p, .slice D_p p.y.length l_p]) p ∧ Bx W (w1.heap.size) [.slice A_p p.store.cells.length n_p, .slice B_p p.store.roots.length m_p, .slice C_p p.x.length k_p, .slice D_p p.y.length l_p] ∧ Below w.heap.size w W)) (Stb.and (Stb.rtw (hV_p.below blw_)) (Stb.and (Stb.bx (Bx.new w1 [.slice A_p p.store.cells.length n_p, .slice B_p p.store.roots.length m_p, .slice C_p p.x.length k_p, .slice D_p p.y.length l_p] 60)) (Stb.here blw_))) ?_
  generalize w1.heap.size = bx_p
  clear hV_p hB zB
  rintro W HI
  obtain ⟨X, hX⟩ : ∃ X, Hid (X = collectYoungM p) := ⟨_, rfl⟩
  have c_p0 := HI.now.2.1.c 0 _ rfl
  have c_p1 := HI.now.2.1.c 1 _ rfl
  have c_p2 := HI.now.2.1.c 2 _ rfl
  have c_p3 := HI.now.2.1.c 3 _ rfl
  have z_p := HI.now.2.1.lt
  go_wp2_with fail
  refine Calls.gen (Stb (fun W => RTw W (.agg #[.slice A_p p.store.cells.length n_p, .slice B_p p.store.roots.length m_p, .slice C_p p.x.length k_p, .slice D_p p.y.length l_p]) p ∧ Bx W bx_p [.slice A_p p.store.cells.length n_p, .slice B_p p.store.roots.length m_p, .slice C_p p.x.length k_p, .slice D_p p.y.length l_p] ∧ Below w.heap.size w W)) (HI.step blw_) ?_
  clear c_p0 c_p1 c_p2 c_p3 z_p
  clear HI 
  rintro W HI
  (with_reducible refine (implCollectYoung_any _ p _ HI.now.1).mono ?_); rw [← hX.out]; rintro e w2 ⟨v2, rfl, oH, hB⟩
  replace HI := HI.step hB
  clear hB
  have hV_x := oH.rt
  clear oH
  obtain ⟨A_x, n_x, B_x, m_x, C_x, k_x, D_x, l_x, rfl⟩ := hV_x.parts
  go_upto_region 5 with fail
  refine Code.gen (Stb (fun W => RTw W (.agg #[.slice A_x X.1.store.cells.length n_x, .slice B_x X.1.store.roots.length m_x, .slice C_x X.1.x.length k_x, .slice D_x X.1.y.length l_x]) X.1 ∧ Bx W (w2.heap.size) [.slice A_x X.1.store.cells.length n_x, .slice B_x X.1.store.roots.length m_x, .slice C_x X.1.x.length k_x, .slice D_x X.1.y.length l_x] ∧ RTw W (.agg #[.slice A_p p.store.cells.length n_p, .slice B_p p.store.roots.length m_p, .slice C_p p.x.length k_p, .slice D_p p.y.length l_p]) p ∧ Bx W bx_p [.slice A_p p.store.cells.length n_p, .slice B_p p.store.roots.length m_p, .slice C_p p.x.length k_p, .slice D_p p.y.length l_p] ∧ Below w.heap.size w W)) (Stb.and (Stb.rtw (hV_x.below blw_)) (Stb.and (Stb.bx (Bx.new w2 [.slice A_x X.1.store.cells.length n_x, .slice B_x X.1.store.roots.length m_x, .slice C_x X.1.x.length k_x, .slice D_x X.1.y.length l_x] 60)) (HI.step blw_))) ?_
  generalize w2.heap.size = bx_x
  clear HI hV_x 
  rintro W HI
  have c_p0 := HI.now.2.2.2.1.c 0 _ rfl
  have c_p1 := HI.now.2.2.2.1.c 1 _ rfl
  have c_p2 := HI.now.2.2.2.1.c 2 _ rfl
  have c_p3 := HI.now.2.2.2.1.c 3 _ rfl
  have z_p := HI.now.2.2.2.1.lt
  go_wp2_with fail
  refine Calls.gen (Stb (fun W => RTw W (.agg #[.slice A_x X.1.store.cells.length n_x, .slice B_x X.1.store.roots.length m_x, .slice C_x X.1.x.length k_x, .slice D_x X.1.y.length l_x]) X.1 ∧ Bx W bx_x [.slice A_x X.1.store.cells.length n_x, .slice B_x X.1.store.roots.length m_x, .slice C_x X.1.x.length k_x, .slice D_x X.1.y.length l_x] ∧ RTw W (.agg #[.slice A_p p.store.cells.length n_p, .slice B_p p.store.roots.length m_p, .slice C_p p.x.length k_p, .slice D_p p.y.length l_p]) p ∧ Bx W bx_p [.slice A_p p.store.cells.length n_p, .slice B_p p.store.roots.length m_p, .slice C_p p.x.length k_p, .slice D_p p.y.length l_p] ∧ Below w.heap.size w W)) (HI.step blw_) ?_
  clear c_p0 c_p1 c_p2 c_p3 z_p
  clear HI 
  rintro W HI
  (with_reducible refine (specCollectYoung_any _ p _ HI.now.2.2.1).mono ?_); rw [← hX.out]; rintro e w2 ⟨v2, rfl, oH, hB⟩
  replace HI := HI.step hB
  clear hB
  have hV_y := oH.rt
  clear oH
  obtain ⟨A_y, n_y, B_y, m_y, C_y, k_y, D_y, l_y, rfl⟩ := hV_y.parts
  go_upto_region 6 with fail
  refine Code.gen (Stb (fun W => RTw W (.agg #[.slice A_y X.1.store.cells.length n_y, .slice B_y X.1.store.roots.length m_y, .slice C_y X.1.x.length k_y, .slice D_y X.1.y.length l_y]) X.1 ∧ Bx W (w2.heap.size) [.slice A_y X.1.store.cells.length n_y, .slice B_y X.1.store.roots.length m_y, .slice C_y X.1.x.length k_y, .slice D_y X.1.y.length l_y] ∧ RTw W (.agg #[.slice A_x X.1.store.cells.length n_x, .slice B_x X.1.store.roots.length m_x, .slice C_x X.1.x.length k_x, .slice D_x X.1.y.length l_x]) X.1 ∧ Bx W bx_x [.slice A_x X.1.store.cells.length n_x, .slice B_x X.1.store.roots.length m_x, .slice C_x X.1.x.length k_x, .slice D_x X.1.y.length l_x] ∧ RTw W (.agg #[.slice A_p p.store.cells.length n_p, .slice B_p p.store.roots.length m_p, .slice C_p p.x.length k_p, .slice D_p p.y.length l_p]) p ∧ Bx W bx_p [.slice A_p p.store.cells.length n_p, .slice B_p p.store.roots.length m_p, .slice C_p p.x.length k_p, .slice D_p p.y.length l_p] ∧ Below w.heap.size w W)) (Stb.and (Stb.rtw (hV_y.below blw_)) (Stb.and (Stb.bx (Bx.new w2 [.slice A_y X.1.store.cells.length n_y, .slice B_y X.1.store.roots.length m_y, .slice C_y X.1.x.length k_y, .slice D_y X.1.y.length l_y] 60)) (HI.step blw_))) ?_
  generalize w2.heap.size = bx_y
  clear HI hV_y 
  rintro W HI
  have c_x0 := HI.now.2.2.2.1.c 0 _ rfl
  have c_x1 := HI.now.2.2.2.1.c 1 _ rfl
  have c_x2 := HI.now.2.2.2.1.c 2 _ rfl
  have c_x3 := HI.now.2.2.2.1.c 3 _ rfl
  have z_x := HI.now.2.2.2.1.lt
  have c_y0 := HI.now.2.1.c 0 _ rfl
  have c_y1 := HI.now.2.1.c 1 _ rfl
  have c_y2 := HI.now.2.1.c 2 _ rfl
  have c_y3 := HI.now.2.1.c 3 _ rfl
  have z_y := HI.now.2.1.lt
  go_wp2_with fail
  refine Calls.gen (Stb (fun W => RTw W (.agg #[.slice A_y X.1.store.cells.length n_y, .slice B_y X.1.store.roots.length m_y, .slice C_y X.1.x.length k_y, .slice D_y X.1.y.length l_y]) X.1 ∧ Bx W bx_y [.slice A_y X.1.store.cells.length n_y, .slice B_y X.1.store.roots.length m_y, .slice C_y X.1.x.length k_y, .slice D_y X.1.y.length l_y] ∧ RTw W (.agg #[.slice A_x X.1.store.cells.length n_x, .slice B_x X.1.store.roots.length m_x, .slice C_x X.1.x.length k_x, .slice D_x X.1.y.length l_x]) X.1 ∧ Bx W bx_x [.slice A_x X.1.store.cells.length n_x, .slice B_x X.1.store.roots.length m_x, .slice C_x X.1.x.length k_x, .slice D_x X.1.y.length l_x] ∧ RTw W (.agg #[.slice A_p p.store.cells.length n_p, .slice B_p p.store.roots.length m_p, .slice C_p p.x.length k_p, .slice D_p p.y.length l_p]) p ∧ Bx W bx_p [.slice A_p p.store.cells.length n_p, .slice B_p p.store.roots.length m_p, .slice C_p p.x.length k_p, .slice D_p p.y.length l_p] ∧ Below w.heap.size w W)) (HI.step blw_) ?_
  clear c_x0 c_x1 c_x2 c_x3 z_x c_y0 c_y1 c_y2 c_y3 z_y
  clear HI 
  rintro W HI
  (with_reducible refine (sameAged_eq _ _ X.1 _ HI.now.2.2.1 HI.now.1).mono ?_); rintro e w2 ⟨rfl, hB⟩
  replace HI := HI.step hB
  clear hB
  rcases bool_ft (agedM p) with hva | hva
  · have hx2 : X.2 = -1 := by rw [hX.out]; exact young_neg hva
    rw [hx2]
    clear hva
    go_wp2_with fail
    refine Calls.gen (Stb (fun W => RTw W (.agg #[.slice A_y X.1.store.cells.length n_y, .slice B_y X.1.store.roots.length m_y, .slice C_y X.1.x.length k_y, .slice D_y X.1.y.length l_y]) X.1 ∧ Bx W bx_y [.slice A_y X.1.store.cells.length n_y, .slice B_y X.1.store.roots.length m_y, .slice C_y X.1.x.length k_y, .slice D_y X.1.y.length l_y] ∧ RTw W (.agg #[.slice A_x X.1.store.cells.length n_x, .slice B_x X.1.store.roots.length m_x, .slice C_x X.1.x.length k_x, .slice D_x X.1.y.length l_x]) X.1 ∧ Bx W bx_x [.slice A_x X.1.store.cells.length n_x, .slice B_x X.1.store.roots.length m_x, .slice C_x X.1.x.length k_x, .slice D_x X.1.y.length l_x] ∧ RTw W (.agg #[.slice A_p p.store.cells.length n_p, .slice B_p p.store.roots.length m_p, .slice C_p p.x.length k_p, .slice D_p p.y.length l_p]) p ∧ Bx W bx_p [.slice A_p p.store.cells.length n_p, .slice B_p p.store.roots.length m_p, .slice C_p p.x.length k_p, .slice D_p p.y.length l_p] ∧ Below w.heap.size w W)) (HI.step blw_) ?_
    clear HI 
    rintro W HI
    (with_reducible refine (alive_any _).mono ?_); rintro e w2 ⟨rfl, hB⟩
    replace HI := HI.step hB
    clear hB
    have HB := HI.now.2.2.2.2.2.2
    have zB := HB.size
    clear HI
    go_wp2_with fail
    go_ret
    exact ⟨rfl, blw_⟩
  have hx2 : ¬ X.2 < 0 := by have := young_pos hva; rw [hX.out]; omega
  have HL := Lib.hid (young_facts hva)
  rw [← hX.out] at HL
  clear hva
  have c_x0 := HI.now.2.2.2.1.c 0 _ rfl
  have c_x1 := HI.now.2.2.2.1.c 1 _ rfl
  have c_x2 := HI.now.2.2.2.1.c 2 _ rfl
  have c_x3 := HI.now.2.2.2.1.c 3 _ rfl
  have z_x := HI.now.2.2.2.1.lt
  have HX2 := HI.now.2.2.1.fx
  have HX3 := HI.now.2.2.1.fy
  have HC2 := (HI.now.2.2.1).st.inv.1
  go_wp2_with fail
  go_loopw [8] (fun s9 wr => ∃ k : Nat, s9 = .int .i64 (k : Int) ∧ k ≤ X.1.x.length ∧ ∃ n, wr = w2.drewN n) (fun s9 _ => X.1.x.length - (intOf s9).toNat)
  case atStart => exact ⟨0, rfl, by omega, 0, rfl⟩
  case round =>
    obtain ⟨k, rfl, hk, n9, rfl⟩ := hrel
    by_cases hlt : k < X.1.x.length
    · obtain ⟨b1, o1, y1, rfl, g1, m1, -⟩ := HX2.at_ hlt
      obtain ⟨b2, o2, y2, rfl, g2, m2, -⟩ := HX3.at_ (k := k) (by have := HL.out.2.2.2.2.2.2.1; omega)
      obtain ⟨b3, o3, y3, Ar, cr, rfl, g3, m3, -⟩ := HC2.at_ (k := k) (by have := HL.out.2.2.2.2.2.1; omega)
      obtain ⟨he, hf⟩ := HL.out.2.2.2.2.1 k y1 y2 y3 g1 g3 g2
      have q1 : w2.cell? ⟨b1, o1 + k, none⟩ = some (.bool y1) := m1
      have q2 : w2.cell? ⟨b2, o2 + k, none⟩ = some (.bool false) := by rw [← hf]; exact m2
      have q3 : w2.cell? ⟨b3, o3 + k * 3, none⟩ = some (.bool y1) := by rw [← he]; exact m3
      have hne : (y1 != y1) = false := by simp
      have i0 : (0 : Int) ≤ (k : Int) := by omega
      have i1 : (k : Int) < (X.1.x.length : Int) := by omega
      have i2 : (k : Int) < (X.1.y.length : Int) := by have := HL.out.2.2.2.2.2.2.1; omega
      have i5 : (k : Int) < (X.1.store.cells.length : Int) := by have := HL.out.2.2.2.2.2.1; omega
      have i3 : (k : Int) + 1 < 9223372036854775807 := by have := HL.out.2.2.2.2.2.2.2; have := HL.out.2.2.2.1; omega
      clear g1 g2 g3 m1 m2 m3 he hf HI HX2 HX3 HC2
      go_wp2
      go_quiet (fail)
      go_wp2
      go_roundw
      case rel => exact ⟨k + 1, by go_num, by omega, _, by first | rfl | (simp; rfl)⟩
      case measure => simp [intOf]; omega
    · have i4 : ¬ (k : Int) < (X.1.x.length : Int) := by omega
      clear HX2 HX3 HC2
      go_wp2_with fail
      refine Calls.gen (Stb (fun W => RTw W (.agg #[.slice A_y X.1.store.cells.length n_y, .slice B_y X.1.store.roots.length m_y, .slice C_y X.1.x.length k_y, .slice D_y X.1.y.length l_y]) X.1 ∧ Bx W bx_y [.slice A_y X.1.store.cells.length n_y, .slice B_y X.1.store.roots.length m_y, .slice C_y X.1.x.length k_y, .slice D_y X.1.y.length l_y] ∧ RTw W (.agg #[.slice A_x X.1.store.cells.length n_x, .slice B_x X.1.store.roots.length m_x, .slice C_x X.1.x.length k_x, .slice D_x X.1.y.length l_x]) X.1 ∧ Bx W bx_x [.slice A_x X.1.store.cells.length n_x, .slice B_x X.1.store.roots.length m_x, .slice C_x X.1.x.length k_x, .slice D_x X.1.y.length l_x] ∧ RTw W (.agg #[.slice A_p p.store.cells.length n_p, .slice B_p p.store.roots.length m_p, .slice C_p p.x.length k_p, .slice D_p p.y.length l_p]) p ∧ Bx W bx_p [.slice A_p p.store.cells.length n_p, .slice B_p p.store.roots.length m_p, .slice C_p p.x.length k_p, .slice D_p p.y.length l_p] ∧ Below w.heap.size w W)) (HI.step blw_) ?_
      clear c_x0 c_x1 c_x2 c_x3 z_x
      clear HI 
      rintro W HI
      (with_reducible refine (implAgedValid_any _ X.1 _ HI.now.2.2.1).mono ?_); rw [HL.out.1]; rintro e w2 ⟨rfl, hB⟩
      replace HI := HI.step hB
      clear hB
      have c_x0 := HI.now.2.2.2.1.c 0 _ rfl
      have c_x1 := HI.now.2.2.2.1.c 1 _ rfl
      have c_x2 := HI.now.2.2.2.1.c 2 _ rfl
      have c_x3 := HI.now.2.2.2.1.c 3 _ rfl
      have z_x := HI.now.2.2.2.1.lt
      have c_p0 := HI.now.2.2.2.2.2.1.c 0 _ rfl
      have c_p1 := HI.now.2.2.2.2.2.1.c 1 _ rfl
      have c_p2 := HI.now.2.2.2.2.2.1.c 2 _ rfl
      have c_p3 := HI.now.2.2.2.2.2.1.c 3 _ rfl
      have z_p := HI.now.2.2.2.2.2.1.lt
      go_wp2_with fail
      refine Calls.gen (Stb (fun W => RTw W (.agg #[.slice A_y X.1.store.cells.length n_y, .slice B_y X.1.store.roots.length m_y, .slice C_y X.1.x.length k_y, .slice D_y X.1.y.length l_y]) X.1 ∧ Bx W bx_y [.slice A_y X.1.store.cells.length n_y, .slice B_y X.1.store.roots.length m_y, .slice C_y X.1.x.length k_y, .slice D_y X.1.y.length l_y] ∧ RTw W (.agg #[.slice A_x X.1.store.cells.length n_x, .slice B_x X.1.store.roots.length m_x, .slice C_x X.1.x.length k_x, .slice D_x X.1.y.length l_x]) X.1 ∧ Bx W bx_x [.slice A_x X.1.store.cells.length n_x, .slice B_x X.1.store.roots.length m_x, .slice C_x X.1.x.length k_x, .slice D_x X.1.y.length l_x] ∧ RTw W (.agg #[.slice A_p p.store.cells.length n_p, .slice B_p p.store.roots.length m_p, .slice C_p p.x.length k_p, .slice D_p p.y.length l_p]) p ∧ Bx W bx_p [.slice A_p p.store.cells.length n_p, .slice B_p p.store.roots.length m_p, .slice C_p p.x.length k_p, .slice D_p p.y.length l_p] ∧ Below w.heap.size w W)) (HI.step blw_) ?_
      clear c_x0 c_x1 c_x2 c_x3 z_x c_p0 c_p1 c_p2 c_p3 z_p
      clear HI 
      rintro W HI
      (with_reducible refine (sameView_any _ _ X.1.store p.store _ (HI.now.2.2.1).st (HI.now.2.2.2.2.1).st).mono ?_); rw [HL.out.2.1]; rintro e w2 ⟨rfl, hB⟩
      replace HI := HI.step hB
      clear hB
      have c_p0 := HI.now.2.2.2.2.2.1.c 0 _ rfl
      have c_p1 := HI.now.2.2.2.2.2.1.c 1 _ rfl
      have c_p2 := HI.now.2.2.2.2.2.1.c 2 _ rfl
      have c_p3 := HI.now.2.2.2.2.2.1.c 3 _ rfl
      have z_p := HI.now.2.2.2.2.2.1.lt
      go_wp2_with fail
      refine Calls.gen (Stb (fun W => RTw W (.agg #[.slice A_y X.1.store.cells.length n_y, .slice B_y X.1.store.roots.length m_y, .slice C_y X.1.x.length k_y, .slice D_y X.1.y.length l_y]) X.1 ∧ Bx W bx_y [.slice A_y X.1.store.cells.length n_y, .slice B_y X.1.store.roots.length m_y, .slice C_y X.1.x.length k_y, .slice D_y X.1.y.length l_y] ∧ RTw W (.agg #[.slice A_x X.1.store.cells.length n_x, .slice B_x X.1.store.roots.length m_x, .slice C_x X.1.x.length k_x, .slice D_x X.1.y.length l_x]) X.1 ∧ Bx W bx_x [.slice A_x X.1.store.cells.length n_x, .slice B_x X.1.store.roots.length m_x, .slice C_x X.1.x.length k_x, .slice D_x X.1.y.length l_x] ∧ RTw W (.agg #[.slice A_p p.store.cells.length n_p, .slice B_p p.store.roots.length m_p, .slice C_p p.x.length k_p, .slice D_p p.y.length l_p]) p ∧ Bx W bx_p [.slice A_p p.store.cells.length n_p, .slice B_p p.store.roots.length m_p, .slice C_p p.x.length k_p, .slice D_p p.y.length l_p] ∧ Below w.heap.size w W)) (HI.step blw_) ?_
      clear c_p0 c_p1 c_p2 c_p3 z_p
      clear HI 
      rintro W HI
      (with_reducible refine (leakedCells_any _ p.store _ (HI.now.2.2.2.2.1).st).mono ?_); rintro e w2 ⟨v5, rfl, ⟨S6, c6, rfl, -⟩, hB⟩
      replace HI := HI.step hB
      clear hB
      have hle : X.2 ≤ ((leakM p.store).length : Int) := HL.out.2.2.1
      have c_x0 := HI.now.2.2.2.1.c 0 _ rfl
      have c_x1 := HI.now.2.2.2.1.c 1 _ rfl
      have c_x2 := HI.now.2.2.2.1.c 2 _ rfl
      have c_x3 := HI.now.2.2.2.1.c 3 _ rfl
      have z_x := HI.now.2.2.2.1.lt
      have c_p0 := HI.now.2.2.2.2.2.1.c 0 _ rfl
      have c_p1 := HI.now.2.2.2.2.2.1.c 1 _ rfl
      have c_p2 := HI.now.2.2.2.2.2.1.c 2 _ rfl
      have c_p3 := HI.now.2.2.2.2.2.1.c 3 _ rfl
      have z_p := HI.now.2.2.2.2.2.1.lt
      rw [HL.out.2.2.2.1] at c_x2
      have HB := HI.now.2.2.2.2.2.2
      have zB := HB.size
      clear HI
      go_wp2_with fail
      go_ret
      exact ⟨rfl, blw_⟩
end Go.Proofs.Ytopbngfghpgbnaa
