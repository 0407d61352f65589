/- FnSnapSweep: the law's call returns true. -/
import Derived.Test.YteilaalababfpaaChecked
import Derived.Deep.QuietTactic
import Derived.BigQuiet
import Derived.Deep.RegionWith
import Derived.Test.YteilaalababfpaaGrCtx
import Derived.Test.YteilaalababfpaaDrawA
import Derived.Test.YteilaalababfpaaGrSame
import Derived.Test.YteilaalababfpaaCloD
import Derived.Test.YteilaalababfpaaGrSnap
import Derived.Test.YteilaalababfpaaSnapF
import Derived.Test.YteilaalababfpaaRunS
import Derived.Test.YteilaalababfpaaGrIso
namespace Go.Proofs.Yteilaalababfpaa
open Go.RowKit
set_option maxRecDepth 100000
set_option linter.unusedSimpArgs false
set_option linter.unusedVariables false
set_option maxHeartbeats 8000000 in
theorem walkSnapSweep (C : Option Addr) (bs : List Int) (c : Nat) (w : World) (hr : RF fu w C bs) (hb : ∀ x ∈ bs, 0 ≤ x ∧ x < 256) (hc : bs.length ≤ c) (hc2 : c ≤ 9223372036854775807) :
    Calls Try.prog 8 #[.slice C bs.length c] w fun e w' => e = .returned (.bool true) ∧ Below w.heap.size w w' := by
  by_cases hbig : 1048576 < bs.length
  · go_enter Try.func8, Try.ntmps8
    go_wp2
    go_ret
    exact ⟨rfl, blw_⟩
  go_enter Try.func8, Try.ntmps8
  go_wp2_with fail
  (with_reducible refine (drawCollectSweep_any C bs c _ hr hb hc hc2).mono ?_); rintro e w1 ⟨v1, h, rfl, hV, hB⟩
  have hV_h := hV
  clear hV
  obtain ⟨A_h, n_h, B_h, m_h, rfl⟩ := hV_h.parts
  clear hr hb
  have zB := hB.size
  go_upto_region 4 with fail
  refine Code.gen (Stb (fun W => RH W (.agg #[.slice A_h h.cells.length n_h, .slice B_h h.roots.length m_h]) h ∧ Bx W (w1.heap.size) [.slice A_h h.cells.length n_h, .slice B_h h.roots.length m_h] ∧ Below w.heap.size w W)) (Stb.and (Stb.rh (hV_h.below blw_)) (Stb.and (Stb.bx (Bx.new w1 [.slice A_h h.cells.length n_h, .slice B_h h.roots.length m_h] 26)) (Stb.here blw_))) ?_
  generalize w1.heap.size = bx_h
  clear hV_h hB zB
  rintro W HI
  obtain ⟨X, hX⟩ : ∃ X, Hid (X = collectSweepM h) := ⟨_, rfl⟩
  have c_h0 := HI.now.2.1.c 0 _ rfl
  have c_h1 := HI.now.2.1.c 1 _ rfl
  have z_h := HI.now.2.1.lt
  go_wp2_with fail
  refine Calls.gen (Stb (fun W => RH W (.agg #[.slice A_h h.cells.length n_h, .slice B_h h.roots.length m_h]) h ∧ Bx W bx_h [.slice A_h h.cells.length n_h, .slice B_h h.roots.length m_h] ∧ Below w.heap.size w W)) (HI.step blw_) ?_
  clear c_h0 c_h1 z_h
  clear HI 
  rintro W HI
  (with_reducible refine (implCollectSweep_any _ h _ HI.now.1).mono ?_); rw [← hX.out]; rintro e w2 ⟨v2, rfl, oH, hB⟩
  replace HI := HI.step hB
  clear hB
  have hV_x := oH.rh
  clear oH
  obtain ⟨A_x, n_x, B_x, m_x, rfl⟩ := hV_x.parts
  go_upto_region 5 with fail
  refine Code.gen (Stb (fun W => RH W (.agg #[.slice A_x X.1.cells.length n_x, .slice B_x X.1.roots.length m_x]) X.1 ∧ Bx W (w2.heap.size) [.slice A_x X.1.cells.length n_x, .slice B_x X.1.roots.length m_x] ∧ RH W (.agg #[.slice A_h h.cells.length n_h, .slice B_h h.roots.length m_h]) h ∧ Bx W bx_h [.slice A_h h.cells.length n_h, .slice B_h h.roots.length m_h] ∧ Below w.heap.size w W)) (Stb.and (Stb.rh (hV_x.below blw_)) (Stb.and (Stb.bx (Bx.new w2 [.slice A_x X.1.cells.length n_x, .slice B_x X.1.roots.length m_x] 26)) (HI.step blw_))) ?_
  generalize w2.heap.size = bx_x
  clear HI hV_x 
  rintro W HI
  have c_h0 := HI.now.2.2.2.1.c 0 _ rfl
  have c_h1 := HI.now.2.2.2.1.c 1 _ rfl
  have z_h := HI.now.2.2.2.1.lt
  go_wp2_with fail
  refine Calls.gen (Stb (fun W => RH W (.agg #[.slice A_x X.1.cells.length n_x, .slice B_x X.1.roots.length m_x]) X.1 ∧ Bx W bx_x [.slice A_x X.1.cells.length n_x, .slice B_x X.1.roots.length m_x] ∧ RH W (.agg #[.slice A_h h.cells.length n_h, .slice B_h h.roots.length m_h]) h ∧ Bx W bx_h [.slice A_h h.cells.length n_h, .slice B_h h.roots.length m_h] ∧ Below w.heap.size w W)) (HI.step blw_) ?_
  clear c_h0 c_h1 z_h
  clear HI 
  rintro W HI
  (with_reducible refine (specCollectSweep_any _ h _ HI.now.2.2.1).mono ?_); rw [← hX.out]; rintro e w2 ⟨v2, rfl, oH, hB⟩
  replace HI := HI.step hB
  clear hB
  have hV_y := oH.rh
  clear oH
  obtain ⟨A_y, n_y, B_y, m_y, rfl⟩ := hV_y.parts
  go_upto_region 6 with fail
  refine Code.gen (Stb (fun W => RH W (.agg #[.slice A_y X.1.cells.length n_y, .slice B_y X.1.roots.length m_y]) X.1 ∧ Bx W (w2.heap.size) [.slice A_y X.1.cells.length n_y, .slice B_y X.1.roots.length m_y] ∧ RH W (.agg #[.slice A_x X.1.cells.length n_x, .slice B_x X.1.roots.length m_x]) X.1 ∧ Bx W bx_x [.slice A_x X.1.cells.length n_x, .slice B_x X.1.roots.length m_x] ∧ RH W (.agg #[.slice A_h h.cells.length n_h, .slice B_h h.roots.length m_h]) h ∧ Bx W bx_h [.slice A_h h.cells.length n_h, .slice B_h h.roots.length m_h] ∧ Below w.heap.size w W)) (Stb.and (Stb.rh (hV_y.below blw_)) (Stb.and (Stb.bx (Bx.new w2 [.slice A_y X.1.cells.length n_y, .slice B_y X.1.roots.length m_y] 26)) (HI.step blw_))) ?_
  generalize w2.heap.size = bx_y
  clear HI hV_y 
  rintro W HI
  have c_x0 := HI.now.2.2.2.1.c 0 _ rfl
  have c_x1 := HI.now.2.2.2.1.c 1 _ rfl
  have z_x := HI.now.2.2.2.1.lt
  have c_y0 := HI.now.2.1.c 0 _ rfl
  have c_y1 := HI.now.2.1.c 1 _ rfl
  have z_y := HI.now.2.1.lt
  go_wp2_with fail
  refine Calls.gen (Stb (fun W => RH W (.agg #[.slice A_y X.1.cells.length n_y, .slice B_y X.1.roots.length m_y]) X.1 ∧ Bx W bx_y [.slice A_y X.1.cells.length n_y, .slice B_y X.1.roots.length m_y] ∧ RH W (.agg #[.slice A_x X.1.cells.length n_x, .slice B_x X.1.roots.length m_x]) X.1 ∧ Bx W bx_x [.slice A_x X.1.cells.length n_x, .slice B_x X.1.roots.length m_x] ∧ RH W (.agg #[.slice A_h h.cells.length n_h, .slice B_h h.roots.length m_h]) h ∧ Bx W bx_h [.slice A_h h.cells.length n_h, .slice B_h h.roots.length m_h] ∧ Below w.heap.size w W)) (HI.step blw_) ?_
  clear c_x0 c_x1 z_x c_y0 c_y1 z_y
  clear HI 
  rintro W HI
  (with_reducible refine (sameHeap_any _ _ X.1 X.1 _ HI.now.2.2.1 HI.now.1).mono ?_); rw [eqB_of (rfl : X.1 = X.1)]; rintro e w2 ⟨rfl, hB⟩
  replace HI := HI.step hB
  clear hB
  obtain ⟨Z, hZ⟩ : ∃ Z, Hid (Z = snapStartM h) := ⟨_, rfl⟩
  obtain ⟨F, hF⟩ : ∃ F, Hid (F = snapFinM Z) := ⟨_, rfl⟩
  have c_h0 := HI.now.2.2.2.2.2.1.c 0 _ rfl
  have c_h1 := HI.now.2.2.2.2.2.1.c 1 _ rfl
  have z_h := HI.now.2.2.2.2.2.1.lt
  go_wp2_with fail
  refine Calls.gen (Stb (fun W => RH W (.agg #[.slice A_y X.1.cells.length n_y, .slice B_y X.1.roots.length m_y]) X.1 ∧ Bx W bx_y [.slice A_y X.1.cells.length n_y, .slice B_y X.1.roots.length m_y] ∧ RH W (.agg #[.slice A_x X.1.cells.length n_x, .slice B_x X.1.roots.length m_x]) X.1 ∧ Bx W bx_x [.slice A_x X.1.cells.length n_x, .slice B_x X.1.roots.length m_x] ∧ RH W (.agg #[.slice A_h h.cells.length n_h, .slice B_h h.roots.length m_h]) h ∧ Bx W bx_h [.slice A_h h.cells.length n_h, .slice B_h h.roots.length m_h] ∧ Below w.heap.size w W)) (HI.step blw_) ?_
  clear c_h0 c_h1 z_h
  clear HI 
  rintro W HI
  (with_reducible refine (implSnapStart_any _ h _ HI.now.2.2.2.2.1).mono ?_); rw [← hZ.out]; rintro e w2 ⟨v2, rfl, oH, hB⟩
  replace HI := HI.step hB
  clear hB
  have hV_z := oH.rt
  clear oH
  obtain ⟨A_z, n_z, B_z, m_z, C_z, k_z, D_z, l_z, rfl⟩ := hV_z.parts
  go_wp2_with fail
  refine Calls.gen (Stb (fun W => RTw W (.agg #[.slice A_z Z.store.cells.length n_z, .slice B_z Z.store.roots.length m_z, .slice C_z Z.x.length k_z, .slice D_z Z.y.length l_z]) Z ∧ RH W (.agg #[.slice A_y X.1.cells.length n_y, .slice B_y X.1.roots.length m_y]) X.1 ∧ Bx W bx_y [.slice A_y X.1.cells.length n_y, .slice B_y X.1.roots.length m_y] ∧ RH W (.agg #[.slice A_x X.1.cells.length n_x, .slice B_x X.1.roots.length m_x]) X.1 ∧ Bx W bx_x [.slice A_x X.1.cells.length n_x, .slice B_x X.1.roots.length m_x] ∧ RH W (.agg #[.slice A_h h.cells.length n_h, .slice B_h h.roots.length m_h]) h ∧ Bx W bx_h [.slice A_h h.cells.length n_h, .slice B_h h.roots.length m_h] ∧ Below w.heap.size w W)) (Stb.and (Stb.rtw (hV_z.below blw_)) (HI.step blw_)) ?_
  clear HI hV_z
  rintro W HI
  (with_reducible refine (implSnapFinish_any _ Z _ HI.now.1).mono ?_); rw [← hF.out]; rintro e w2 ⟨v2, rfl, oH, hB⟩
  replace HI := HI.step hB
  clear hB
  have hV_f := oH.rh
  clear oH
  obtain ⟨A_f, n_f, B_f, m_f, rfl⟩ := hV_f.parts
  go_upto_region 9 with fail
  refine Code.gen (Stb (fun W => RH W (.agg #[.slice A_f F.1.cells.length n_f, .slice B_f F.1.roots.length m_f]) F.1 ∧ Bx W (w2.heap.size) [.slice A_f F.1.cells.length n_f, .slice B_f F.1.roots.length m_f] ∧ RTw W (.agg #[.slice A_z Z.store.cells.length n_z, .slice B_z Z.store.roots.length m_z, .slice C_z Z.x.length k_z, .slice D_z Z.y.length l_z]) Z ∧ RH W (.agg #[.slice A_y X.1.cells.length n_y, .slice B_y X.1.roots.length m_y]) X.1 ∧ Bx W bx_y [.slice A_y X.1.cells.length n_y, .slice B_y X.1.roots.length m_y] ∧ RH W (.agg #[.slice A_x X.1.cells.length n_x, .slice B_x X.1.roots.length m_x]) X.1 ∧ Bx W bx_x [.slice A_x X.1.cells.length n_x, .slice B_x X.1.roots.length m_x] ∧ RH W (.agg #[.slice A_h h.cells.length n_h, .slice B_h h.roots.length m_h]) h ∧ Bx W bx_h [.slice A_h h.cells.length n_h, .slice B_h h.roots.length m_h] ∧ Below w.heap.size w W)) (Stb.and (Stb.rh (hV_f.below blw_)) (Stb.and (Stb.bx (Bx.new w2 [.slice A_f F.1.cells.length n_f, .slice B_f F.1.roots.length m_f] 26)) (HI.step blw_))) ?_
  generalize w2.heap.size = bx_f
  clear HI hV_f 
  rintro W HI
  rcases bool_ft (validM h) with hva | hva
  · have hx2 : X.2 = -1 := by rw [hX.out, collectSweep_no hva]
    rw [hx2]
    clear hva hx2
    refine wp_region_R (by kernel_rfl) (fun R wd hR hwd => ?_)
    have hBd : Below W.heap.size W wd := by rw [hwd]; exact blw_
    replace HI := HI.step hBd
    clear hwd hBd
    refine rel_at (fr := ?fr_0) hR (fun f W => Stb (fun W => RH W (.agg #[.slice A_f F.1.cells.length n_f, .slice B_f F.1.roots.length m_f]) F.1 ∧ Bx W bx_f [.slice A_f F.1.cells.length n_f, .slice B_f F.1.roots.length m_f] ∧ RTw W (.agg #[.slice A_z Z.store.cells.length n_z, .slice B_z Z.store.roots.length m_z, .slice C_z Z.x.length k_z, .slice D_z Z.y.length l_z]) Z ∧ RH W (.agg #[.slice A_y X.1.cells.length n_y, .slice B_y X.1.roots.length m_y]) X.1 ∧ Bx W bx_y [.slice A_y X.1.cells.length n_y, .slice B_y X.1.roots.length m_y] ∧ RH W (.agg #[.slice A_x X.1.cells.length n_x, .slice B_x X.1.roots.length m_x]) X.1 ∧ Bx W bx_x [.slice A_x X.1.cells.length n_x, .slice B_x X.1.roots.length m_x] ∧ RH W (.agg #[.slice A_h h.cells.length n_h, .slice B_h h.roots.length m_h]) h ∧ Bx W bx_h [.slice A_h h.cells.length n_h, .slice B_h h.roots.length m_h] ∧ Below w.heap.size w W) W) [(fun v W => v = .int .i64 (-1)), (fun v W => v = .bool true), (fun v W => v = .bool true), (fun v W => v = undef), (fun v W => v = undef), (fun v W => v = undef), (fun v W => v = undef), (fun v W => v = undef), (fun v W => v = undef), (fun v W => v = undef), (fun v W => v = undef), (fun v W => v = undef), (fun v W => v = undef), (fun v W => v = undef), (fun v W => v = undef), (fun v W => v = undef), (fun v W => v = undef), (fun v W => v = (.bool true)), (fun v W => v = (.bool true)), (fun v W => v = .bool true), (fun v W => v = .bool true), (fun v W => v = .bool true)] (fun W W' => Below W.heap.size W W') [(0, []), (1, [0]), (2, [1, 0]), (3, [2, 1, 0]), (4, [2, 1, 0]), (5, [2, 1, 0]), (6, [2, 1, 0]), (7, [6, 2, 1, 0]), (8, [6, 2, 1, 0]), (9, [6, 2, 1, 0]), (10, [2, 1, 0]), (11, [2, 1, 0]), (12, [11, 2, 1, 0]), (13, [11, 2, 1, 0]), (14, [11, 2, 1, 0]), (15, [11, 2, 1, 0]), (16, [2, 1, 0]), (17, [2, 1, 0, 16]), (18, [17, 2, 1, 0, 16]), (19, [18, 17, 2, 1, 0, 16]), (20, [18, 17, 2, 1, 0, 16, 19]), (21, [20, 18, 17, 2, 1, 0, 16, 19])] [(40, 0), (41, 1), (42, 2), (43, 3), (44, 4), (45, 5), (46, 6), (47, 7), (48, 8), (49, 9), (50, 10), (51, 11), (52, 12), (53, 13), (54, 14), (55, 15), (56, 16), (57, 17), (58, 18), (59, 19), (60, 20), (2, 21)] [0, 1, 2, 3, 4, 5, 6, 7, 8, 9, 10, 11, 12, 13, 14, 15, 16, 17, 18, 19, 20, 21] #[true, true, true, true, true, true, true, true, true, true, true, true, true, true, true, true, true, true, true, true, true, true] 22 0 (by kernel_rfl) (by kernel_rfl) ?hfr_0 ?h0_0 ?mono_0 ?steps_0 ?_
    case hfr_0 => intro x; (simp [frOf, fill, Act.put, List.lookup]; with_reducible rfl)
    case h0_0 => exact HI
    case mono_0 => exact (Pm.cons (fun _ _ _ _ h => h) (Pm.cons (fun _ _ _ _ h => h) (Pm.cons (fun _ _ _ _ h => h) (Pm.cons (fun _ _ _ _ h => h) (Pm.cons (fun _ _ _ _ h => h) (Pm.cons (fun _ _ _ _ h => h) (Pm.cons (fun _ _ _ _ h => h) (Pm.cons (fun _ _ _ _ h => h) (Pm.cons (fun _ _ _ _ h => h) (Pm.cons (fun _ _ _ _ h => h) (Pm.cons (fun _ _ _ _ h => h) (Pm.cons (fun _ _ _ _ h => h) (Pm.cons (fun _ _ _ _ h => h) (Pm.cons (fun _ _ _ _ h => h) (Pm.cons (fun _ _ _ _ h => h) (Pm.cons (fun _ _ _ _ h => h) (Pm.cons (fun _ _ _ _ h => h) (Pm.cons (fun _ _ _ _ h => h) (Pm.cons (fun _ _ _ _ h => h) (Pm.cons (fun _ _ _ _ h => h) (Pm.cons (fun _ _ _ _ h => h) (Pm.cons (fun _ _ _ _ h => h) Pm.nil))))))))))))))))))))))
    case steps_0 =>
      refine Steps.cons (RStep.of rfl fun x W f hI hD K9 hK => ?_) ?_
      · clear hD
        go_simp
        exact hK (.int .i64 (-1)) _ _ (by kernel_rfl) (Below.refl _ _) (hI) rfl
      refine Steps.cons (RStep.of rfl fun x W f hI hD K9 hK => ?_) ?_
      · have e0 : x 0 = .int .i64 (-1) := hD 0 (by decide)
        clear hD
        simp only [e0] at hK ⊢
        go_simp
        exact hK (.bool true) _ _ (by kernel_rfl) (Below.refl _ _) (hI) rfl
      refine Steps.cons (RStep.of rfl fun x W f hI hD K9 hK => ?_) ?_
      · have e1 : x 1 = .bool true := hD 1 (by decide)
        clear hD
        simp only [e1] at hK ⊢
        go_simp
        exact hK (.bool true) _ _ (by kernel_rfl) (Below.refl _ _) (hI) rfl
      refine Steps.cons (RStep.of rfl fun x W f hI hD K9 hK => ?_) ?_
      · have e2 : x 2 = .bool true := hD 2 (by decide)
        clear hD
        simp only [e2] at hK ⊢
        go_simp
        exact hK (undef) _ _ (by kernel_rfl) (Below.refl _ _) (hI) rfl
      refine Steps.cons (RStep.of rfl fun x W f hI hD K9 hK => ?_) ?_
      · have e2 : x 2 = .bool true := hD 2 (by decide)
        clear hD
        simp only [e2] at hK ⊢
        go_simp
        exact hK (undef) _ _ (by kernel_rfl) (Below.refl _ _) (hI) rfl
      refine Steps.cons (RStep.of rfl fun x W f hI hD K9 hK => ?_) ?_
      · have e2 : x 2 = .bool true := hD 2 (by decide)
        clear hD
        simp only [e2] at hK ⊢
        go_simp
        exact hK (undef) _ _ (by kernel_rfl) (Below.refl _ _) (hI) rfl
      refine Steps.cons (RStep.of rfl fun x W f hI hD K9 hK => ?_) ?_
      · have e2 : x 2 = .bool true := hD 2 (by decide)
        clear hD
        simp only [e2] at hK ⊢
        go_simp
        exact hK (undef) _ _ (by kernel_rfl) (Below.refl _ _) (hI) rfl
      refine Steps.cons (RStep.of rfl fun x W f hI hD K9 hK => ?_) ?_
      · have e6 : x 6 = undef := hD 6 (by decide)
        clear hD
        simp only [e6] at hK ⊢
        go_simp
        exact hK (undef) _ _ (by kernel_rfl) (Below.refl _ _) (hI) rfl
      refine Steps.cons (RStep.of rfl fun x W f hI hD K9 hK => ?_) ?_
      · have e6 : x 6 = undef := hD 6 (by decide)
        clear hD
        simp only [e6] at hK ⊢
        go_simp
        exact hK (undef) _ _ (by kernel_rfl) (Below.refl _ _) (hI) rfl
      refine Steps.cons (RStep.of rfl fun x W f hI hD K9 hK => ?_) ?_
      · have e6 : x 6 = undef := hD 6 (by decide)
        clear hD
        simp only [e6] at hK ⊢
        go_simp
        exact hK (undef) _ _ (by kernel_rfl) (Below.refl _ _) (hI) rfl
      refine Steps.cons (RStep.of rfl fun x W f hI hD K9 hK => ?_) ?_
      · have e2 : x 2 = .bool true := hD 2 (by decide)
        clear hD
        simp only [e2] at hK ⊢
        go_simp
        exact hK (undef) _ _ (by kernel_rfl) (Below.refl _ _) (hI) rfl
      refine Steps.cons (RStep.of rfl fun x W f hI hD K9 hK => ?_) ?_
      · have e2 : x 2 = .bool true := hD 2 (by decide)
        clear hD
        simp only [e2] at hK ⊢
        go_simp
        exact hK (undef) _ _ (by kernel_rfl) (Below.refl _ _) (hI) rfl
      refine Steps.cons (RStep.of rfl fun x W f hI hD K9 hK => ?_) ?_
      · have e11 : x 11 = undef := hD 11 (by decide)
        clear hD
        simp only [e11] at hK ⊢
        go_simp
        exact hK (undef) _ _ (by kernel_rfl) (Below.refl _ _) (hI) rfl
      refine Steps.cons (RStep.of rfl fun x W f hI hD K9 hK => ?_) ?_
      · have e11 : x 11 = undef := hD 11 (by decide)
        clear hD
        simp only [e11] at hK ⊢
        go_simp
        exact hK (undef) _ _ (by kernel_rfl) (Below.refl _ _) (hI) rfl
      refine Steps.cons (RStep.of rfl fun x W f hI hD K9 hK => ?_) ?_
      · have e11 : x 11 = undef := hD 11 (by decide)
        clear hD
        simp only [e11] at hK ⊢
        go_simp
        exact hK (undef) _ _ (by kernel_rfl) (Below.refl _ _) (hI) rfl
      refine Steps.cons (RStep.of rfl fun x W f hI hD K9 hK => ?_) ?_
      · have e11 : x 11 = undef := hD 11 (by decide)
        clear hD
        simp only [e11] at hK ⊢
        go_simp
        exact hK (undef) _ _ (by kernel_rfl) (Below.refl _ _) (hI) rfl
      refine Steps.cons (RStep.of rfl fun x W f hI hD K9 hK => ?_) ?_
      · have e2 : x 2 = .bool true := hD 2 (by decide)
        clear hD
        simp only [e2] at hK ⊢
        go_simp
        exact hK (undef) _ _ (by kernel_rfl) (Below.refl _ _) (hI) rfl
      refine Steps.cons (RStep.of rfl fun x W f hI hD K9 hK => ?_) ?_
      · have e2 : x 2 = .bool true := hD 2 (by decide)
        have e16 : x 16 = undef := hD 16 (by decide)
        clear hD
        simp only [e2, e16] at hK ⊢
        go_simp
        exact hK ((.bool true)) _ _ (by kernel_rfl) (Below.refl _ _) (hI) rfl
      refine Steps.cons (RStep.of rfl fun x W f hI hD K9 hK => ?_) ?_
      · have e17 : x 17 = (.bool true) := hD 17 (by decide)
        clear hD
        simp only [e17] at hK ⊢
        go_simp
        exact hK ((.bool true)) _ _ (by kernel_rfl) (Below.refl _ _) (hI) rfl
      refine Steps.cons (RStep.of rfl fun x W f hI hD K9 hK => ?_) ?_
      · have e18 : x 18 = (.bool true) := hD 18 (by decide)
        clear hD
        simp only [e18] at hK ⊢
        go_wp2_with fail
        (with_reducible refine (alive_any _).mono ?_)
        rintro e w6 ⟨rfl, hB⟩
        exact hK _ _ _ (by kernel_rfl) hB (hI.step hB) rfl
      refine Steps.cons (RStep.of rfl fun x W f hI hD K9 hK => ?_) ?_
      · have e18 : x 18 = (.bool true) := hD 18 (by decide)
        have e19 : x 19 = .bool true := hD 19 (by decide)
        clear hD
        simp only [e18, e19] at hK ⊢
        go_simp
        exact hK (.bool true) _ _ (by kernel_rfl) (Below.refl _ _) (hI) rfl
      refine Steps.cons (RStep.of rfl fun x W f hI hD K9 hK => ?_) ?_
      · have e20 : x 20 = .bool true := hD 20 (by decide)
        clear hD
        simp only [e20] at hK ⊢
        go_simp
        exact hK (.bool true) _ _ (by kernel_rfl) (Below.refl _ _) (hI) rfl
      exact Steps.nil
    intro x W hI hV
    have e0 : x 0 = .int .i64 (-1) := hV 0 (by decide)
    have e1 : x 1 = .bool true := hV 1 (by decide)
    have e2 : x 2 = .bool true := hV 2 (by decide)
    have e3 : x 3 = undef := hV 3 (by decide)
    have e4 : x 4 = undef := hV 4 (by decide)
    have e5 : x 5 = undef := hV 5 (by decide)
    have e6 : x 6 = undef := hV 6 (by decide)
    have e7 : x 7 = undef := hV 7 (by decide)
    have e8 : x 8 = undef := hV 8 (by decide)
    have e9 : x 9 = undef := hV 9 (by decide)
    have e10 : x 10 = undef := hV 10 (by decide)
    have e11 : x 11 = undef := hV 11 (by decide)
    have e12 : x 12 = undef := hV 12 (by decide)
    have e13 : x 13 = undef := hV 13 (by decide)
    have e14 : x 14 = undef := hV 14 (by decide)
    have e15 : x 15 = undef := hV 15 (by decide)
    have e16 : x 16 = undef := hV 16 (by decide)
    have e17 : x 17 = (.bool true) := hV 17 (by decide)
    have e18 : x 18 = (.bool true) := hV 18 (by decide)
    have e19 : x 19 = .bool true := hV 19 (by decide)
    have e20 : x 20 = .bool true := hV 20 (by decide)
    have e21 : x 21 = .bool true := hV 21 (by decide)
    clear hV
    simp only [e0, e1, e2, e3, e4, e5, e6, e7, e8, e9, e10, e11, e12, e13, e14, e15, e16, e17, e18, e19, e20, e21]
    rw [hR]
    refine wpAny_done (by kernel_rfl) ?_ _
    clear hR
    replace HI := hI
    clear hI
    have HB := HI.now.2.2.2.2.2.2.2.2.2
    have zB := HB.size
    clear HI
    go_wp2_with fail
    go_ret
    exact ⟨rfl, blw_⟩
  have HL : Hid (F = X ∧ runSnapM h [] 0 = X.1) := by rw [hF.out, hZ.out, hX.out]; exact law_SnapSweep hva
  have HX2 : Hid (¬ X.2 < 0) := by rw [hX.out, collectSweep_ok hva]; unfold Hid; simp
  have HRO : Hid (∀ W : World, RO W none []) := fun W i hi => by simp at hi
  have HEQ : Hid ((F.2 == X.2) = true) := by rw [HL.out.1]; unfold Hid; simp
  have HRS : Hid (∀ W : World, RH W (.agg #[.slice A_h h.cells.length n_h, .slice B_h h.roots.length m_h]) h → Calls Try.prog 41 #[(.agg #[.slice A_h h.cells.length n_h, .slice B_h h.roots.length m_h]), .slice none 0 0, .int .i64 0] W (fun e w' => ∃ v', e = .returned v' ∧ OH W.heap.size w' v' (runSnapM h [] 0) ∧ Below W.heap.size W w')) := fun W hv => implRunSnap_any _ h none [] 0 0 W hv (HRO.out W) (by simp)
  clear hva
  refine wp_region_R (by kernel_rfl) (fun R wd hR hwd => ?_)
  have hBd : Below W.heap.size W wd := by rw [hwd]; exact blw_
  replace HI := HI.step hBd
  clear hwd hBd
  refine rel_at (fr := ?fr_1) hR (fun f W => Stb (fun W => RH W (.agg #[.slice A_f F.1.cells.length n_f, .slice B_f F.1.roots.length m_f]) F.1 ∧ Bx W bx_f [.slice A_f F.1.cells.length n_f, .slice B_f F.1.roots.length m_f] ∧ RTw W (.agg #[.slice A_z Z.store.cells.length n_z, .slice B_z Z.store.roots.length m_z, .slice C_z Z.x.length k_z, .slice D_z Z.y.length l_z]) Z ∧ RH W (.agg #[.slice A_y X.1.cells.length n_y, .slice B_y X.1.roots.length m_y]) X.1 ∧ Bx W bx_y [.slice A_y X.1.cells.length n_y, .slice B_y X.1.roots.length m_y] ∧ RH W (.agg #[.slice A_x X.1.cells.length n_x, .slice B_x X.1.roots.length m_x]) X.1 ∧ Bx W bx_x [.slice A_x X.1.cells.length n_x, .slice B_x X.1.roots.length m_x] ∧ RH W (.agg #[.slice A_h h.cells.length n_h, .slice B_h h.roots.length m_h]) h ∧ Bx W bx_h [.slice A_h h.cells.length n_h, .slice B_h h.roots.length m_h] ∧ Below w.heap.size w W) W) [(fun v W => v = .int .i64 X.2), (fun v W => v = .bool false), (fun v W => v = .bool false), (fun v W => v = .int .i64 F.2), (fun v W => v = .int .i64 X.2), (fun v W => v = .bool true), (fun v W => v = .bool true), (fun v W => v = .agg #[.slice A_f F.1.cells.length n_f, .slice B_f F.1.roots.length m_f]), (fun v W => v = .agg #[.slice A_x X.1.cells.length n_x, .slice B_x X.1.roots.length m_x]), (fun v W => v = .bool true), (fun v W => v = .bool true), (fun v W => v = .bool true), (fun v W => v = .agg #[.slice A_h h.cells.length n_h, .slice B_h h.roots.length m_h]), (fun v W => ∃ A_r13 n_r13 B_r13 m_r13, v = (.agg #[.slice A_r13 X.1.cells.length n_r13, .slice B_r13 X.1.roots.length m_r13]) ∧ RH W (.agg #[.slice A_r13 X.1.cells.length n_r13, .slice B_r13 X.1.roots.length m_r13]) X.1), (fun v W => v = .agg #[.slice A_x X.1.cells.length n_x, .slice B_x X.1.roots.length m_x]), (fun v W => v = .bool true), (fun v W => v = .bool true), (fun v W => v = .bool true), (fun v W => v = .bool true), (fun v W => v = .bool true), (fun v W => v = .bool true), (fun v W => v = .bool true)] (fun W W' => Below W.heap.size W W') [(0, []), (1, [0]), (2, [1, 0]), (3, [2, 1, 0]), (4, [2, 1, 0]), (5, [2, 1, 0, 3, 4]), (6, [2, 1, 0, 5, 3, 4]), (7, [6, 2, 1, 0, 5, 3, 4]), (8, [6, 2, 1, 0, 5, 3, 4]), (9, [6, 2, 1, 0, 5, 3, 4, 7, 8]), (10, [2, 1, 0, 6, 5, 3, 4, 9, 7, 8]), (11, [2, 1, 0, 10, 6, 5, 3, 4, 9, 7, 8]), (12, [11, 2, 1, 0, 10, 6, 5, 3, 4, 9, 7, 8]), (13, [11, 2, 1, 0, 10, 6, 5, 3, 4, 9, 7, 8, 12]), (14, [11, 2, 1, 0, 10, 6, 5, 3, 4, 9, 7, 8]), (15, [11, 2, 1, 0, 10, 6, 5, 3, 4, 9, 7, 8, 13, 12, 14]), (16, [2, 1, 0, 11, 10, 6, 5, 3, 4, 9, 7, 8, 15, 13, 12, 14]), (17, [2, 1, 0, 16, 11, 10, 6, 5, 3, 4, 9, 7, 8, 15, 13, 12, 14]), (18, [17, 2, 1, 0, 16, 11, 10, 6, 5, 3, 4, 9, 7, 8, 15, 13, 12, 14]), (19, [18, 17, 2, 1, 0, 16, 11, 10, 6, 5, 3, 4, 9, 7, 8, 15, 13, 12, 14]), (20, [18, 17, 2, 1, 0, 16, 11, 10, 6, 5, 3, 4, 9, 7, 8, 15, 13, 12, 14, 19]), (21, [20, 18, 17, 2, 1, 0, 16, 11, 10, 6, 5, 3, 4, 9, 7, 8, 15, 13, 12, 14, 19])] [(40, 0), (41, 1), (42, 2), (43, 3), (44, 4), (45, 5), (46, 6), (47, 7), (48, 8), (49, 9), (50, 10), (51, 11), (52, 12), (53, 13), (54, 14), (55, 15), (56, 16), (57, 17), (58, 18), (59, 19), (60, 20), (2, 21)] [0, 1, 2, 3, 4, 5, 6, 7, 8, 9, 10, 11, 12, 13, 14, 15, 16, 17, 18, 19, 20, 21] #[true, true, true, true, true, true, true, true, true, true, true, true, true, true, true, true, true, true, true, true, true, true] 22 0 (by kernel_rfl) (by kernel_rfl) ?hfr_1 ?h0_1 ?mono_1 ?steps_1 ?_
  case hfr_1 => intro x; (simp [frOf, fill, Act.put, List.lookup]; with_reducible rfl)
  case h0_1 => exact HI
  case mono_1 => exact (Pm.cons (fun _ _ _ _ h => h) (Pm.cons (fun _ _ _ _ h => h) (Pm.cons (fun _ _ _ _ h => h) (Pm.cons (fun _ _ _ _ h => h) (Pm.cons (fun _ _ _ _ h => h) (Pm.cons (fun _ _ _ _ h => h) (Pm.cons (fun _ _ _ _ h => h) (Pm.cons (fun _ _ _ _ h => h) (Pm.cons (fun _ _ _ _ h => h) (Pm.cons (fun _ _ _ _ h => h) (Pm.cons (fun _ _ _ _ h => h) (Pm.cons (fun _ _ _ _ h => h) (Pm.cons (fun _ _ _ _ h => h) (Pm.cons (fun _ _ _ hG ⟨A_r13, n_r13, B_r13, m_r13, e, h⟩ => ⟨A_r13, n_r13, B_r13, m_r13, e, h.below hG⟩) (Pm.cons (fun _ _ _ _ h => h) (Pm.cons (fun _ _ _ _ h => h) (Pm.cons (fun _ _ _ _ h => h) (Pm.cons (fun _ _ _ _ h => h) (Pm.cons (fun _ _ _ _ h => h) (Pm.cons (fun _ _ _ _ h => h) (Pm.cons (fun _ _ _ _ h => h) (Pm.cons (fun _ _ _ _ h => h) Pm.nil))))))))))))))))))))))
  case steps_1 =>
    refine Steps.cons (RStep.of rfl fun x W f hI hD K9 hK => ?_) ?_
    · clear hD
      go_simp
      exact hK (.int .i64 X.2) _ _ (by kernel_rfl) (Below.refl _ _) (hI) rfl
    refine Steps.cons (RStep.of rfl fun x W f hI hD K9 hK => ?_) ?_
    · have e0 : x 0 = .int .i64 X.2 := hD 0 (by decide)
      clear hD
      have hx9 : decide (X.2 < 0) = false := decide_eq_false HX2.out
      simp only [e0] at hK ⊢
      go_simp
      exact hK (.bool false) _ _ (by kernel_rfl) (Below.refl _ _) (hI) rfl
    refine Steps.cons (RStep.of rfl fun x W f hI hD K9 hK => ?_) ?_
    · have e1 : x 1 = .bool false := hD 1 (by decide)
      clear hD
      simp only [e1] at hK ⊢
      go_simp
      exact hK (.bool false) _ _ (by kernel_rfl) (Below.refl _ _) (hI) rfl
    refine Steps.cons (RStep.of rfl fun x W f hI hD K9 hK => ?_) ?_
    · have e2 : x 2 = .bool false := hD 2 (by decide)
      clear hD
      simp only [e2] at hK ⊢
      go_simp
      exact hK (.int .i64 F.2) _ _ (by kernel_rfl) (Below.refl _ _) (hI) rfl
    refine Steps.cons (RStep.of rfl fun x W f hI hD K9 hK => ?_) ?_
    · have e2 : x 2 = .bool false := hD 2 (by decide)
      clear hD
      simp only [e2] at hK ⊢
      go_simp
      exact hK (.int .i64 X.2) _ _ (by kernel_rfl) (Below.refl _ _) (hI) rfl
    refine Steps.cons (RStep.of rfl fun x W f hI hD K9 hK => ?_) ?_
    · have e2 : x 2 = .bool false := hD 2 (by decide)
      have e3 : x 3 = .int .i64 F.2 := hD 3 (by decide)
      have e4 : x 4 = .int .i64 X.2 := hD 4 (by decide)
      clear hD
      have hx9 := HEQ.out
      simp only [e2, e3, e4] at hK ⊢
      go_simp
      exact hK (.bool true) _ _ (by kernel_rfl) (Below.refl _ _) (hI) rfl
    refine Steps.cons (RStep.of rfl fun x W f hI hD K9 hK => ?_) ?_
    · have e2 : x 2 = .bool false := hD 2 (by decide)
      have e5 : x 5 = .bool true := hD 5 (by decide)
      clear hD
      simp only [e2, e5] at hK ⊢
      go_simp
      exact hK (.bool true) _ _ (by kernel_rfl) (Below.refl _ _) (hI) rfl
    refine Steps.cons (RStep.of rfl fun x W f hI hD K9 hK => ?_) ?_
    · have e6 : x 6 = .bool true := hD 6 (by decide)
      clear hD
      have c0 := hI.now.2.1.c 0 _ rfl
      have c1 := hI.now.2.1.c 1 _ rfl
      simp only [e6] at hK ⊢
      go_simp
      exact hK (.agg #[.slice A_f F.1.cells.length n_f, .slice B_f F.1.roots.length m_f]) _ _ (by kernel_rfl) (Below.refl _ _) (hI) rfl
    refine Steps.cons (RStep.of rfl fun x W f hI hD K9 hK => ?_) ?_
    · have e6 : x 6 = .bool true := hD 6 (by decide)
      clear hD
      have c0 := hI.now.2.2.2.2.2.2.1.c 0 _ rfl
      have c1 := hI.now.2.2.2.2.2.2.1.c 1 _ rfl
      simp only [e6] at hK ⊢
      go_simp
      exact hK (.agg #[.slice A_x X.1.cells.length n_x, .slice B_x X.1.roots.length m_x]) _ _ (by kernel_rfl) (Below.refl _ _) (hI) rfl
    refine Steps.cons (RStep.of rfl fun x W f hI hD K9 hK => ?_) ?_
    · have e6 : x 6 = .bool true := hD 6 (by decide)
      have e7 : x 7 = .agg #[.slice A_f F.1.cells.length n_f, .slice B_f F.1.roots.length m_f] := hD 7 (by decide)
      have e8 : x 8 = .agg #[.slice A_x X.1.cells.length n_x, .slice B_x X.1.roots.length m_x] := hD 8 (by decide)
      clear hD
      simp only [e6, e7, e8] at hK ⊢
      go_wp2_with fail
      (with_reducible refine (sameHeap_any _ _ F.1 X.1 _ hI.now.1 hI.now.2.2.2.2.2.1).mono ?_); rw [eqB_of (congrArg Prod.fst HL.out.1)]
      rintro e w6 ⟨rfl, hB⟩
      exact hK _ _ _ (by kernel_rfl) hB (hI.step hB) rfl
    refine Steps.cons (RStep.of rfl fun x W f hI hD K9 hK => ?_) ?_
    · have e2 : x 2 = .bool false := hD 2 (by decide)
      have e6 : x 6 = .bool true := hD 6 (by decide)
      have e9 : x 9 = .bool true := hD 9 (by decide)
      clear hD
      simp only [e2, e6, e9] at hK ⊢
      go_simp
      exact hK (.bool true) _ _ (by kernel_rfl) (Below.refl _ _) (hI) rfl
    refine Steps.cons (RStep.of rfl fun x W f hI hD K9 hK => ?_) ?_
    · have e2 : x 2 = .bool false := hD 2 (by decide)
      have e10 : x 10 = .bool true := hD 10 (by decide)
      clear hD
      simp only [e2, e10] at hK ⊢
      go_simp
      exact hK (.bool true) _ _ (by kernel_rfl) (Below.refl _ _) (hI) rfl
    refine Steps.cons (RStep.of rfl fun x W f hI hD K9 hK => ?_) ?_
    · have e11 : x 11 = .bool true := hD 11 (by decide)
      clear hD
      have c0 := hI.now.2.2.2.2.2.2.2.2.1.c 0 _ rfl
      have c1 := hI.now.2.2.2.2.2.2.2.2.1.c 1 _ rfl
      simp only [e11] at hK ⊢
      go_simp
      exact hK (.agg #[.slice A_h h.cells.length n_h, .slice B_h h.roots.length m_h]) _ _ (by kernel_rfl) (Below.refl _ _) (hI) rfl
    refine Steps.cons (RStep.of rfl fun x W f hI hD K9 hK => ?_) ?_
    · have e11 : x 11 = .bool true := hD 11 (by decide)
      have e12 : x 12 = .agg #[.slice A_h h.cells.length n_h, .slice B_h h.roots.length m_h] := hD 12 (by decide)
      clear hD
      simp only [e11, e12] at hK ⊢
      go_wp2_with fail
      (with_reducible refine (HRS.out _ hI.now.2.2.2.2.2.2.2.1).mono ?_); rw [HL.out.2]
      rintro e w6 ⟨v6, rfl, oH, hB⟩
      obtain ⟨A_r13, n_r13, B_r13, m_r13, rfl⟩ := oH.rh.parts
      exact hK (.agg #[.slice A_r13 X.1.cells.length n_r13, .slice B_r13 X.1.roots.length m_r13]) _ _ (by kernel_rfl) hB (hI.step hB) ⟨A_r13, n_r13, B_r13, m_r13, rfl, oH.rh⟩
    refine Steps.cons (RStep.of rfl fun x W f hI hD K9 hK => ?_) ?_
    · have e11 : x 11 = .bool true := hD 11 (by decide)
      clear hD
      have c0 := hI.now.2.2.2.2.2.2.1.c 0 _ rfl
      have c1 := hI.now.2.2.2.2.2.2.1.c 1 _ rfl
      simp only [e11] at hK ⊢
      go_simp
      exact hK (.agg #[.slice A_x X.1.cells.length n_x, .slice B_x X.1.roots.length m_x]) _ _ (by kernel_rfl) (Below.refl _ _) (hI) rfl
    refine Steps.cons (RStep.of rfl fun x W f hI hD K9 hK => ?_) ?_
    · have e11 : x 11 = .bool true := hD 11 (by decide)
      have h13 : (fun v W => ∃ A_r13 n_r13 B_r13 m_r13, v = (.agg #[.slice A_r13 X.1.cells.length n_r13, .slice B_r13 X.1.roots.length m_r13]) ∧ RH W (.agg #[.slice A_r13 X.1.cells.length n_r13, .slice B_r13 X.1.roots.length m_r13]) X.1) (x 13) W := hD 13 (by decide)
      have e14 : x 14 = .agg #[.slice A_x X.1.cells.length n_x, .slice B_x X.1.roots.length m_x] := hD 14 (by decide)
      clear hD
      simp only [e11, e14] at hK ⊢
      obtain ⟨A_r13, n_r13, B_r13, m_r13, e13, h13⟩ := h13
      simp only [e13] at hK ⊢
      go_wp2_with fail
      (with_reducible refine (sameHeap_any _ _ X.1 X.1 _ h13 hI.now.2.2.2.2.2.1).mono ?_); rw [eqB_of (rfl : X.1 = X.1)]
      rintro e w6 ⟨rfl, hB⟩
      exact hK _ _ _ (by kernel_rfl) hB (hI.step hB) rfl
    refine Steps.cons (RStep.of rfl fun x W f hI hD K9 hK => ?_) ?_
    · have e2 : x 2 = .bool false := hD 2 (by decide)
      have e11 : x 11 = .bool true := hD 11 (by decide)
      have e15 : x 15 = .bool true := hD 15 (by decide)
      clear hD
      simp only [e2, e11, e15] at hK ⊢
      go_simp
      exact hK (.bool true) _ _ (by kernel_rfl) (Below.refl _ _) (hI) rfl
    refine Steps.cons (RStep.of rfl fun x W f hI hD K9 hK => ?_) ?_
    · have e2 : x 2 = .bool false := hD 2 (by decide)
      have e16 : x 16 = .bool true := hD 16 (by decide)
      clear hD
      simp only [e2, e16] at hK ⊢
      go_simp
      exact hK (.bool true) _ _ (by kernel_rfl) (Below.refl _ _) (hI) rfl
    refine Steps.cons (RStep.of rfl fun x W f hI hD K9 hK => ?_) ?_
    · have e17 : x 17 = .bool true := hD 17 (by decide)
      clear hD
      simp only [e17] at hK ⊢
      go_simp
      exact hK (.bool true) _ _ (by kernel_rfl) (Below.refl _ _) (hI) rfl
    refine Steps.cons (RStep.of rfl fun x W f hI hD K9 hK => ?_) ?_
    · have e18 : x 18 = .bool true := hD 18 (by decide)
      clear hD
      simp only [e18] at hK ⊢
      go_wp2_with fail
      (with_reducible refine (alive_any _).mono ?_)
      rintro e w6 ⟨rfl, hB⟩
      exact hK _ _ _ (by kernel_rfl) hB (hI.step hB) rfl
    refine Steps.cons (RStep.of rfl fun x W f hI hD K9 hK => ?_) ?_
    · have e18 : x 18 = .bool true := hD 18 (by decide)
      have e19 : x 19 = .bool true := hD 19 (by decide)
      clear hD
      simp only [e18, e19] at hK ⊢
      go_simp
      exact hK (.bool true) _ _ (by kernel_rfl) (Below.refl _ _) (hI) rfl
    refine Steps.cons (RStep.of rfl fun x W f hI hD K9 hK => ?_) ?_
    · have e20 : x 20 = .bool true := hD 20 (by decide)
      clear hD
      simp only [e20] at hK ⊢
      go_simp
      exact hK (.bool true) _ _ (by kernel_rfl) (Below.refl _ _) (hI) rfl
    exact Steps.nil
  intro x W hI hV
  have e0 : x 0 = .int .i64 X.2 := hV 0 (by decide)
  have e1 : x 1 = .bool false := hV 1 (by decide)
  have e2 : x 2 = .bool false := hV 2 (by decide)
  have e3 : x 3 = .int .i64 F.2 := hV 3 (by decide)
  have e4 : x 4 = .int .i64 X.2 := hV 4 (by decide)
  have e5 : x 5 = .bool true := hV 5 (by decide)
  have e6 : x 6 = .bool true := hV 6 (by decide)
  have e7 : x 7 = .agg #[.slice A_f F.1.cells.length n_f, .slice B_f F.1.roots.length m_f] := hV 7 (by decide)
  have e8 : x 8 = .agg #[.slice A_x X.1.cells.length n_x, .slice B_x X.1.roots.length m_x] := hV 8 (by decide)
  have e9 : x 9 = .bool true := hV 9 (by decide)
  have e10 : x 10 = .bool true := hV 10 (by decide)
  have e11 : x 11 = .bool true := hV 11 (by decide)
  have e12 : x 12 = .agg #[.slice A_h h.cells.length n_h, .slice B_h h.roots.length m_h] := hV 12 (by decide)
  have h13 : (fun v W => ∃ A_r13 n_r13 B_r13 m_r13, v = (.agg #[.slice A_r13 X.1.cells.length n_r13, .slice B_r13 X.1.roots.length m_r13]) ∧ RH W (.agg #[.slice A_r13 X.1.cells.length n_r13, .slice B_r13 X.1.roots.length m_r13]) X.1) (x 13) W := hV 13 (by decide)
  have e14 : x 14 = .agg #[.slice A_x X.1.cells.length n_x, .slice B_x X.1.roots.length m_x] := hV 14 (by decide)
  have e15 : x 15 = .bool true := hV 15 (by decide)
  have e16 : x 16 = .bool true := hV 16 (by decide)
  have e17 : x 17 = .bool true := hV 17 (by decide)
  have e18 : x 18 = .bool true := hV 18 (by decide)
  have e19 : x 19 = .bool true := hV 19 (by decide)
  have e20 : x 20 = .bool true := hV 20 (by decide)
  have e21 : x 21 = .bool true := hV 21 (by decide)
  clear hV
  simp only [e0, e1, e2, e3, e4, e5, e6, e7, e8, e9, e10, e11, e12, e14, e15, e16, e17, e18, e19, e20, e21]
  clear h13
  rw [hR]
  refine wpAny_done (by kernel_rfl) ?_ _
  clear hR
  replace HI := hI
  clear hI
  have HB := HI.now.2.2.2.2.2.2.2.2.2
  have zB := HB.size
  clear HI
  go_wp2_with fail
  go_ret
  exact ⟨rfl, blw_⟩
end Go.Proofs.Yteilaalababfpaa
