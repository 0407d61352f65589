/- FnAgedFull: the law's call returns true. -/
import Derived.Test.YtmlgndeihfpfgaaChecked
import Derived.Deep.QuietTactic
import Derived.BigQuiet
import Derived.Deep.RegionWith
import Derived.Test.YtmlgndeihfpfgaaGrCtx
import Derived.Test.YtmlgndeihfpfgaaGrDraw
import Derived.Test.YtmlgndeihfpfgaaGrSam
import Derived.Test.YtmlgndeihfpfgaaGrSame
import Derived.Test.YtmlgndeihfpfgaaRunG
import Derived.Test.YtmlgndeihfpfgaaRunGS
import Derived.Test.YtmlgndeihfpfgaaGrKeep
import Derived.Test.YtmlgndeihfpfgaaRunH
import Derived.Test.YtmlgndeihfpfgaaGrIso
namespace Go.Proofs.Ytmlgndeihfpfgaa
open Go.RowKit
set_option maxRecDepth 100000
set_option linter.unusedSimpArgs false
set_option linter.unusedVariables false
set_option maxHeartbeats 8000000 in
theorem walkAgedFull (C : Option Addr) (bs : List Int) (c : Nat) (w : World) (hr : RF fu w C bs) (hb : ∀ x ∈ bs, 0 ≤ x ∧ x < 256) (hc : bs.length ≤ c) (hc2 : c ≤ 9223372036854775807) :
    Calls Try.prog 5 #[.slice C bs.length c] w fun e w' => e = .returned (.bool true) ∧ Below w.heap.size w w' := by
  by_cases hbig : 1048576 < bs.length
  · go_enter Try.func5, Try.ntmps5
    go_wp2
    go_ret
    exact ⟨rfl, blw_⟩
  go_enter Try.func5, Try.ntmps5
  go_wp2_with fail
  (with_reducible refine (drawRunAged_any C bs c _ hr hb hc hc2).mono ?_); rintro e w1 ⟨L, S, cS, r, rfl, hr9, hS, hSB, hL, hB⟩
  have HS := hS.ro
  have hLl : L.length ≤ 9223372036854775807 := by omega
  clear hr hb hSB hS
  go_wp2_with fail
  refine Calls.gen (Stb (fun W => RO W S L ∧ Below w.heap.size w W)) (Stb.and (Stb.ro (HS.below blw_)) (Stb.here blw_)) ?_
  clear  HS hB
  rintro W HI
  obtain ⟨X, hX⟩ : ∃ X, Hid (X = runAgedM L (r : Int)) := ⟨_, rfl⟩
  (with_reducible refine (implRunAged_any S L cS (r : Int) _ HI.now.1 hLl).mono ?_); rw [← hX.out]; rintro e w2 ⟨v2, rfl, oH, hB⟩
  replace HI := HI.step hB
  clear hB
  have hV_x := oH.rt
  clear oH
  obtain ⟨A_x, n_x, B_x, m_x, C_x, k_x, D_x, l_x, rfl⟩ := hV_x.parts
  go_upto_region 5 with fail
  refine Code.gen (Stb (fun W => RTw W (.agg #[.slice A_x X.store.cells.length n_x, .slice B_x X.store.roots.length m_x, .slice C_x X.x.length k_x, .slice D_x X.y.length l_x]) X ∧ Bx W (w2.heap.size) [.slice A_x X.store.cells.length n_x, .slice B_x X.store.roots.length m_x, .slice C_x X.x.length k_x, .slice D_x X.y.length l_x] ∧ RO W S L ∧ Below w.heap.size w W)) (Stb.and (Stb.rtw (hV_x.below blw_)) (Stb.and (Stb.bx (Bx.new w2 [.slice A_x X.store.cells.length n_x, .slice B_x X.store.roots.length m_x, .slice C_x X.x.length k_x, .slice D_x X.y.length l_x] 45)) (HI.step blw_))) ?_
  generalize w2.heap.size = bx_x
  clear HI hV_x 
  rintro W HI
  refine wp_region_R (by kernel_rfl) (fun R wd hR hwd => ?_)
  have hBd : Below W.heap.size W wd := by rw [hwd]; exact blw_
  replace HI := HI.step hBd
  clear hwd hBd
  refine rel_at (fr := ?fr_0) hR (fun f W => Stb (fun W => RTw W (.agg #[.slice A_x X.store.cells.length n_x, .slice B_x X.store.roots.length m_x, .slice C_x X.x.length k_x, .slice D_x X.y.length l_x]) X ∧ Bx W bx_x [.slice A_x X.store.cells.length n_x, .slice B_x X.store.roots.length m_x, .slice C_x X.x.length k_x, .slice D_x X.y.length l_x] ∧ RO W S L ∧ Below w.heap.size w W) W) [(fun v W => v = .agg #[.slice A_x X.store.cells.length n_x, .slice B_x X.store.roots.length m_x, .slice C_x X.x.length k_x, .slice D_x X.y.length l_x]), (fun v W => v = .slice S L.length cS), (fun v W => v = .int .i64 (r : Int)), (fun v W => ∃ A_r3 n_r3 B_r3 m_r3 C_r3 k_r3 D_r3 l_r3, v = (.agg #[.slice A_r3 X.store.cells.length n_r3, .slice B_r3 X.store.roots.length m_r3, .slice C_r3 X.x.length k_r3, .slice D_r3 X.y.length l_r3]) ∧ RTw W (.agg #[.slice A_r3 X.store.cells.length n_r3, .slice B_r3 X.store.roots.length m_r3, .slice C_r3 X.x.length k_r3, .slice D_r3 X.y.length l_r3]) X), (fun v W => v = .bool true), (fun v W => v = .bool false)] (fun W W' => Below W.heap.size W W') [(0, []), (1, []), (2, []), (3, [1, 2]), (4, [0, 3, 1, 2]), (5, [4, 0, 3, 1, 2])] [(23, 0), (24, 1), (25, 2), (26, 3), (27, 4), (28, 5)] [0, 1, 2, 3, 4, 5] #[true, true, true, true, true, true] 6 0 (by kernel_rfl) (by kernel_rfl) ?hfr_0 ?h0_0 ?mono_0 ?steps_0 ?_
  case hfr_0 => intro x; (simp [frOf, fill, Act.put, List.lookup]; with_reducible rfl)
  case h0_0 => exact HI
  case mono_0 => exact (Pm.cons (fun _ _ _ _ h => h) (Pm.cons (fun _ _ _ _ h => h) (Pm.cons (fun _ _ _ _ h => h) (Pm.cons (fun _ _ _ hG ⟨A_r3, n_r3, B_r3, m_r3, C_r3, k_r3, D_r3, l_r3, e, h⟩ => ⟨A_r3, n_r3, B_r3, m_r3, C_r3, k_r3, D_r3, l_r3, e, h.below hG⟩) (Pm.cons (fun _ _ _ _ h => h) (Pm.cons (fun _ _ _ _ h => h) Pm.nil))))))
  case steps_0 =>
    refine Steps.cons (RStep.of rfl fun x W f hI hD K9 hK => ?_) ?_
    · clear hD
      have c0 := hI.now.2.1.c 0 _ rfl
      have c1 := hI.now.2.1.c 1 _ rfl
      have c2 := hI.now.2.1.c 2 _ rfl
      have c3 := hI.now.2.1.c 3 _ rfl
      go_simp
      exact hK (.agg #[.slice A_x X.store.cells.length n_x, .slice B_x X.store.roots.length m_x, .slice C_x X.x.length k_x, .slice D_x X.y.length l_x]) _ _ (by kernel_rfl) (Below.refl _ _) (hI) rfl
    refine Steps.cons (RStep.of rfl fun x W f hI hD K9 hK => ?_) ?_
    · clear hD
      go_simp
      exact hK (.slice S L.length cS) _ _ (by kernel_rfl) (Below.refl _ _) (hI) rfl
    refine Steps.cons (RStep.of rfl fun x W f hI hD K9 hK => ?_) ?_
    · clear hD
      go_simp
      exact hK (.int .i64 (r : Int)) _ _ (by kernel_rfl) (Below.refl _ _) (hI) rfl
    refine Steps.cons (RStep.of rfl fun x W f hI hD K9 hK => ?_) ?_
    · have e1 : x 1 = .slice S L.length cS := hD 1 (by decide)
      have e2 : x 2 = .int .i64 (r : Int) := hD 2 (by decide)
      clear hD
      simp only [e1, e2] at hK ⊢
      go_wp2_with fail
      (with_reducible refine (specRunAged_any S L cS (r : Int) _ hI.now.2.2.1 hLl).mono ?_); rw [← hX.out]
      rintro e w6 ⟨v6, rfl, oH, hB⟩
      obtain ⟨A_r3, n_r3, B_r3, m_r3, C_r3, k_r3, D_r3, l_r3, rfl⟩ := oH.rt.parts
      exact hK (.agg #[.slice A_r3 X.store.cells.length n_r3, .slice B_r3 X.store.roots.length m_r3, .slice C_r3 X.x.length k_r3, .slice D_r3 X.y.length l_r3]) _ _ (by kernel_rfl) hB (hI.step hB) ⟨A_r3, n_r3, B_r3, m_r3, C_r3, k_r3, D_r3, l_r3, rfl, oH.rt⟩
    refine Steps.cons (RStep.of rfl fun x W f hI hD K9 hK => ?_) ?_
    · have e0 : x 0 = .agg #[.slice A_x X.store.cells.length n_x, .slice B_x X.store.roots.length m_x, .slice C_x X.x.length k_x, .slice D_x X.y.length l_x] := hD 0 (by decide)
      have h3 : (fun v W => ∃ A_r3 n_r3 B_r3 m_r3 C_r3 k_r3 D_r3 l_r3, v = (.agg #[.slice A_r3 X.store.cells.length n_r3, .slice B_r3 X.store.roots.length m_r3, .slice C_r3 X.x.length k_r3, .slice D_r3 X.y.length l_r3]) ∧ RTw W (.agg #[.slice A_r3 X.store.cells.length n_r3, .slice B_r3 X.store.roots.length m_r3, .slice C_r3 X.x.length k_r3, .slice D_r3 X.y.length l_r3]) X) (x 3) W := hD 3 (by decide)
      clear hD
      simp only [e0] at hK ⊢
      obtain ⟨A_r3, n_r3, B_r3, m_r3, C_r3, k_r3, D_r3, l_r3, e3, h3⟩ := h3
      simp only [e3] at hK ⊢
      go_wp2_with fail
      (with_reducible refine (sameAged_eq _ _ X _ hI.now.1 h3).mono ?_)
      rintro e w6 ⟨rfl, hB⟩
      exact hK _ _ _ (by kernel_rfl) hB (hI.step hB) rfl
    refine Steps.cons (RStep.of rfl fun x W f hI hD K9 hK => ?_) ?_
    · have e4 : x 4 = .bool true := hD 4 (by decide)
      clear hD
      simp only [e4] at hK ⊢
      go_simp
      exact hK (.bool false) _ _ (by kernel_rfl) (Below.refl _ _) (hI) rfl
    exact Steps.nil
  intro x W hI hV
  have e0 : x 0 = .agg #[.slice A_x X.store.cells.length n_x, .slice B_x X.store.roots.length m_x, .slice C_x X.x.length k_x, .slice D_x X.y.length l_x] := hV 0 (by decide)
  have e1 : x 1 = .slice S L.length cS := hV 1 (by decide)
  have e2 : x 2 = .int .i64 (r : Int) := hV 2 (by decide)
  have h3 : (fun v W => ∃ A_r3 n_r3 B_r3 m_r3 C_r3 k_r3 D_r3 l_r3, v = (.agg #[.slice A_r3 X.store.cells.length n_r3, .slice B_r3 X.store.roots.length m_r3, .slice C_r3 X.x.length k_r3, .slice D_r3 X.y.length l_r3]) ∧ RTw W (.agg #[.slice A_r3 X.store.cells.length n_r3, .slice B_r3 X.store.roots.length m_r3, .slice C_r3 X.x.length k_r3, .slice D_r3 X.y.length l_r3]) X) (x 3) W := hV 3 (by decide)
  have e4 : x 4 = .bool true := hV 4 (by decide)
  have e5 : x 5 = .bool false := hV 5 (by decide)
  clear hV
  simp only [e0, e1, e2, e4, e5]
  clear h3
  rw [hR]
  refine wpAny_done (by kernel_rfl) ?_ _
  clear hR
  replace HI := hI
  clear hI
  by_cases hz : X.store.roots.length = 0
  · have c_x0 := HI.now.2.1.c 0 _ rfl
    have c_x1 := HI.now.2.1.c 1 _ rfl
    have c_x2 := HI.now.2.1.c 2 _ rfl
    have c_x3 := HI.now.2.1.c 3 _ rfl
    have z_x := HI.now.2.1.lt
    rw [hz] at c_x1
    clear hz
    go_wp2_with fail
    refine Calls.gen (Stb (fun W => RTw W (.agg #[.slice A_x X.store.cells.length n_x, .slice B_x X.store.roots.length m_x, .slice C_x X.x.length k_x, .slice D_x X.y.length l_x]) X ∧ Bx W bx_x [.slice A_x X.store.cells.length n_x, .slice B_x X.store.roots.length m_x, .slice C_x X.x.length k_x, .slice D_x X.y.length l_x] ∧ RO W S L ∧ Below w.heap.size w W)) (HI.step blw_) ?_
    clear c_x0 c_x1 c_x2 c_x3 z_x
    clear HI 
    rintro W HI
    (with_reducible refine (alive_any _).mono ?_); rintro e w2 ⟨rfl, hB⟩
    replace HI := HI.step hB
    clear hB
    have HB := HI.now.2.2.2
    have zB := HB.size
    clear HI
    go_wp2_with fail
    go_ret
    exact ⟨rfl, blw_⟩
  have HL : Hid ((usedCellsM (collectAgedM X).1.store).1 = (usedCellsM (runM L)).2) := by rw [hX.out] at hz ⊢; exact law_AgedFull hz
  have hz1 : ((X.store.roots.length : Int) == 0) = false := by rw [beq_eq_false_iff_ne]; omega
  clear hz
  obtain ⟨Y, hY⟩ : ∃ Y, Hid (Y = collectAgedM X) := ⟨_, rfl⟩
  rw [← hY.out] at HL
  have c_x0 := HI.now.2.1.c 0 _ rfl
  have c_x1 := HI.now.2.1.c 1 _ rfl
  have c_x2 := HI.now.2.1.c 2 _ rfl
  have c_x3 := HI.now.2.1.c 3 _ rfl
  have z_x := HI.now.2.1.lt
  go_wp2_with fail
  refine Calls.gen (Stb (fun W => RTw W (.agg #[.slice A_x X.store.cells.length n_x, .slice B_x X.store.roots.length m_x, .slice C_x X.x.length k_x, .slice D_x X.y.length l_x]) X ∧ Bx W bx_x [.slice A_x X.store.cells.length n_x, .slice B_x X.store.roots.length m_x, .slice C_x X.x.length k_x, .slice D_x X.y.length l_x] ∧ RO W S L ∧ Below w.heap.size w W)) (HI.step blw_) ?_
  clear c_x0 c_x1 c_x2 c_x3 z_x
  clear HI 
  rintro W HI
  (with_reducible refine (implCollectAged_any _ X _ HI.now.1).mono ?_); rw [← hY.out]; rintro e w2 ⟨v2, rfl, oH, hB⟩
  replace HI := HI.step hB
  clear hB
  have hV_y := oH.rt
  clear oH
  obtain ⟨A_y, n_y, B_y, m_y, C_y, k_y, D_y, l_y, rfl⟩ := hV_y.parts
  go_upto_region 10 with fail
  refine Code.gen (Stb (fun W => RTw W (.agg #[.slice A_y Y.1.store.cells.length n_y, .slice B_y Y.1.store.roots.length m_y, .slice C_y Y.1.x.length k_y, .slice D_y Y.1.y.length l_y]) Y.1 ∧ Bx W (w2.heap.size) [.slice A_y Y.1.store.cells.length n_y, .slice B_y Y.1.store.roots.length m_y, .slice C_y Y.1.x.length k_y, .slice D_y Y.1.y.length l_y] ∧ RTw W (.agg #[.slice A_x X.store.cells.length n_x, .slice B_x X.store.roots.length m_x, .slice C_x X.x.length k_x, .slice D_x X.y.length l_x]) X ∧ Bx W bx_x [.slice A_x X.store.cells.length n_x, .slice B_x X.store.roots.length m_x, .slice C_x X.x.length k_x, .slice D_x X.y.length l_x] ∧ RO W S L ∧ Below w.heap.size w W)) (Stb.and (Stb.rtw (hV_y.below blw_)) (Stb.and (Stb.bx (Bx.new w2 [.slice A_y Y.1.store.cells.length n_y, .slice B_y Y.1.store.roots.length m_y, .slice C_y Y.1.x.length k_y, .slice D_y Y.1.y.length l_y] 45)) (HI.step blw_))) ?_
  generalize w2.heap.size = bx_y
  clear HI hV_y 
  rintro W HI
  have c_y0 := HI.now.2.1.c 0 _ rfl
  have c_y1 := HI.now.2.1.c 1 _ rfl
  have c_y2 := HI.now.2.1.c 2 _ rfl
  have c_y3 := HI.now.2.1.c 3 _ rfl
  have z_y := HI.now.2.1.lt
  go_wp2_with fail
  refine Calls.gen (Stb (fun W => RTw W (.agg #[.slice A_y Y.1.store.cells.length n_y, .slice B_y Y.1.store.roots.length m_y, .slice C_y Y.1.x.length k_y, .slice D_y Y.1.y.length l_y]) Y.1 ∧ Bx W bx_y [.slice A_y Y.1.store.cells.length n_y, .slice B_y Y.1.store.roots.length m_y, .slice C_y Y.1.x.length k_y, .slice D_y Y.1.y.length l_y] ∧ RTw W (.agg #[.slice A_x X.store.cells.length n_x, .slice B_x X.store.roots.length m_x, .slice C_x X.x.length k_x, .slice D_x X.y.length l_x]) X ∧ Bx W bx_x [.slice A_x X.store.cells.length n_x, .slice B_x X.store.roots.length m_x, .slice C_x X.x.length k_x, .slice D_x X.y.length l_x] ∧ RO W S L ∧ Below w.heap.size w W)) (HI.step blw_) ?_
  clear c_y0 c_y1 c_y2 c_y3 z_y
  clear HI 
  rintro W HI
  (with_reducible refine (usedCells_any _ Y.1.store _ (HI.now.1).st).mono ?_); rintro e w2 ⟨rfl, hB⟩
  replace HI := HI.step hB
  clear hB
  rw [HL.out]
  go_wp2_with fail
  refine Calls.gen (Stb (fun W => RTw W (.agg #[.slice A_y Y.1.store.cells.length n_y, .slice B_y Y.1.store.roots.length m_y, .slice C_y Y.1.x.length k_y, .slice D_y Y.1.y.length l_y]) Y.1 ∧ Bx W bx_y [.slice A_y Y.1.store.cells.length n_y, .slice B_y Y.1.store.roots.length m_y, .slice C_y Y.1.x.length k_y, .slice D_y Y.1.y.length l_y] ∧ RTw W (.agg #[.slice A_x X.store.cells.length n_x, .slice B_x X.store.roots.length m_x, .slice C_x X.x.length k_x, .slice D_x X.y.length l_x]) X ∧ Bx W bx_x [.slice A_x X.store.cells.length n_x, .slice B_x X.store.roots.length m_x, .slice C_x X.x.length k_x, .slice D_x X.y.length l_x] ∧ RO W S L ∧ Below w.heap.size w W)) (HI.step blw_) ?_
  clear HI 
  rintro W HI
  (with_reducible refine (implRunHeap_any S L cS _ HI.now.2.2.2.2.1 hLl).mono ?_); rintro e w2 ⟨v2, rfl, oH, hB⟩
  have hV2 := oH.rh
  clear oH
  replace HI := HI.step hB
  clear hB
  obtain ⟨A_z, n_z, B_z, m_z, rfl⟩ := hV2.parts
  go_wp2_with fail
  refine Calls.gen (Stb (fun W => RH W (.agg #[.slice A_z (runM L).cells.length n_z, .slice B_z (runM L).roots.length m_z]) (runM L) ∧ RTw W (.agg #[.slice A_y Y.1.store.cells.length n_y, .slice B_y Y.1.store.roots.length m_y, .slice C_y Y.1.x.length k_y, .slice D_y Y.1.y.length l_y]) Y.1 ∧ Bx W bx_y [.slice A_y Y.1.store.cells.length n_y, .slice B_y Y.1.store.roots.length m_y, .slice C_y Y.1.x.length k_y, .slice D_y Y.1.y.length l_y] ∧ RTw W (.agg #[.slice A_x X.store.cells.length n_x, .slice B_x X.store.roots.length m_x, .slice C_x X.x.length k_x, .slice D_x X.y.length l_x]) X ∧ Bx W bx_x [.slice A_x X.store.cells.length n_x, .slice B_x X.store.roots.length m_x, .slice C_x X.x.length k_x, .slice D_x X.y.length l_x] ∧ RO W S L ∧ Below w.heap.size w W)) (Stb.and (Stb.rh (hV2.below blw_)) (HI.step blw_)) ?_
  clear HI hV2
  rintro W HI
  (with_reducible refine (usedCells_any _ (runM L) _ HI.now.1).mono ?_); rintro e w2 ⟨rfl, hB⟩
  replace HI := HI.step hB
  clear hB
  have HB := HI.now.2.2.2.2.2.2
  have zB := HB.size
  clear HI
  go_wp2_with fail
  go_ret
  exact ⟨rfl, blw_⟩
end Go.Proofs.Ytmlgndeihfpfgaa
