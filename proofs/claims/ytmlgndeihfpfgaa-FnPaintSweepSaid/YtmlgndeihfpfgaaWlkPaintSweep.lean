/- FnPaintSweep: the law's call returns true. -/
import Derived.Test.YtmlgndeihfpfgaaChecked
import Derived.Deep.QuietTactic
import Derived.BigQuiet
import Derived.Deep.RegionWith
import Derived.Test.YtmlgndeihfpfgaaGrCtx
import Derived.Test.YtmlgndeihfpfgaaDrawA
import Derived.Test.YtmlgndeihfpfgaaBoxT
import Derived.Test.YtmlgndeihfpfgaaRelQ
import Derived.Test.YtmlgndeihfpfgaaGrSame
import Derived.Test.YtmlgndeihfpfgaaCloD
import Derived.Test.YtmlgndeihfpfgaaPaintSt
import Derived.Test.YtmlgndeihfpfgaaPaintFin
import Derived.Test.YtmlgndeihfpfgaaGrTo
import Derived.Test.YtmlgndeihfpfgaaGrIso
namespace Go.Proofs.Ytmlgndeihfpfgaa
open Go.RowKit
set_option maxRecDepth 100000
set_option linter.unusedSimpArgs false
set_option linter.unusedVariables false
set_option maxHeartbeats 8000000 in
theorem walkPaintSweep (C : Option Addr) (bs : List Int) (c : Nat) (w : World) (hr : RF fu w C bs) (hb : ∀ x ∈ bs, 0 ≤ x ∧ x < 256) (hc : bs.length ≤ c) (hc2 : c ≤ 9223372036854775807) :
    Calls Try.prog 4 #[.slice C bs.length c] w fun e w' => e = .returned (.bool true) ∧ Below w.heap.size w w' := by
  by_cases hbig : 1048576 < bs.length
  · go_enter Try.func4, Try.ntmps4
    go_wp2
    go_ret
    exact ⟨rfl, blw_⟩
  go_enter Try.func4, Try.ntmps4
  go_wp2_with fail
  (with_reducible refine (drawCollectSweep_any C bs c _ hr hb hc hc2).mono ?_); rintro e w1 ⟨v1, h, rfl, hV, hB⟩
  have hV_h := hV
  clear hV
  obtain ⟨A_h, n_h, B_h, m_h, rfl⟩ := hV_h.parts
  clear hr hb
  have zB := hB.size
  go_upto_region 4 with fail
  refine Code.gen (Stb (fun W => RH W (.agg #[.slice A_h h.cells.length n_h, .slice B_h h.roots.length m_h]) h ∧ Bx W (w1.heap.size) [.slice A_h h.cells.length n_h, .slice B_h h.roots.length m_h] ∧ Below w.heap.size w W)) (Stb.and (Stb.rh (hV_h.below blw_)) (Stb.and (Stb.bx (Bx.new w1 [.slice A_h h.cells.length n_h, .slice B_h h.roots.length m_h] 29)) (Stb.here blw_))) ?_
  generalize w1.heap.size = bx_h
  clear hV_h hB zB
  rintro W HI
  obtain ⟨X, hX⟩ : ∃ X, Hid (X = collectSweepM h) := ⟨_, rfl⟩
  have c_h0 := HI.now.2.1.c 0 _ rfl
  have c_h1 := HI.now.2.1.c 1 _ rfl
  have z_h := HI.now.2.1.lt
  go_wp2_with fail
  refine Calls.gen (Stb (fun W => RH W (.agg #[.slice A_h h.cells.length n_h, .slice B_h h.roots.length m_h]) h ∧ Bx W bx_h [.slice A_h h.cells.length n_h, .slice B_h h.roots.length m_h] ∧ Below w.heap.size w W)) (HI.step blw_) ?_
  clear c_h0 c_h1 z_h
  clear HI 
  rintro W HI
  (with_reducible refine (implCollectSweep_any _ h _ HI.now.1).mono ?_); rw [← hX.out]; rintro e w2 ⟨v2, rfl, oH, hB⟩
  replace HI := HI.step hB
  clear hB
  have hV_x := oH.rh
  clear oH
  obtain ⟨A_x, n_x, B_x, m_x, rfl⟩ := hV_x.parts
  go_upto_region 5 with fail
  refine Code.gen (Stb (fun W => RH W (.agg #[.slice A_x X.1.cells.length n_x, .slice B_x X.1.roots.length m_x]) X.1 ∧ Bx W (w2.heap.size) [.slice A_x X.1.cells.length n_x, .slice B_x X.1.roots.length m_x] ∧ RH W (.agg #[.slice A_h h.cells.length n_h, .slice B_h h.roots.length m_h]) h ∧ Bx W bx_h [.slice A_h h.cells.length n_h, .slice B_h h.roots.length m_h] ∧ Below w.heap.size w W)) (Stb.and (Stb.rh (hV_x.below blw_)) (Stb.and (Stb.bx (Bx.new w2 [.slice A_x X.1.cells.length n_x, .slice B_x X.1.roots.length m_x] 29)) (HI.step blw_))) ?_
  generalize w2.heap.size = bx_x
  clear HI hV_x 
  rintro W HI
  have c_h0 := HI.now.2.2.2.1.c 0 _ rfl
  have c_h1 := HI.now.2.2.2.1.c 1 _ rfl
  have z_h := HI.now.2.2.2.1.lt
  go_wp2_with fail
  refine Calls.gen (Stb (fun W => RH W (.agg #[.slice A_x X.1.cells.length n_x, .slice B_x X.1.roots.length m_x]) X.1 ∧ Bx W bx_x [.slice A_x X.1.cells.length n_x, .slice B_x X.1.roots.length m_x] ∧ RH W (.agg #[.slice A_h h.cells.length n_h, .slice B_h h.roots.length m_h]) h ∧ Bx W bx_h [.slice A_h h.cells.length n_h, .slice B_h h.roots.length m_h] ∧ Below w.heap.size w W)) (HI.step blw_) ?_
  clear c_h0 c_h1 z_h
  clear HI 
  rintro W HI
  (with_reducible refine (specCollectSweep_any _ h _ HI.now.2.2.1).mono ?_); rw [← hX.out]; rintro e w2 ⟨v2, rfl, oH, hB⟩
  replace HI := HI.step hB
  clear hB
  have hV_y := oH.rh
  clear oH
  obtain ⟨A_y, n_y, B_y, m_y, rfl⟩ := hV_y.parts
  go_upto_region 6 with fail
  refine Code.gen (Stb (fun W => RH W (.agg #[.slice A_y X.1.cells.length n_y, .slice B_y X.1.roots.length m_y]) X.1 ∧ Bx W (w2.heap.size) [.slice A_y X.1.cells.length n_y, .slice B_y X.1.roots.length m_y] ∧ RH W (.agg #[.slice A_x X.1.cells.length n_x, .slice B_x X.1.roots.length m_x]) X.1 ∧ Bx W bx_x [.slice A_x X.1.cells.length n_x, .slice B_x X.1.roots.length m_x] ∧ RH W (.agg #[.slice A_h h.cells.length n_h, .slice B_h h.roots.length m_h]) h ∧ Bx W bx_h [.slice A_h h.cells.length n_h, .slice B_h h.roots.length m_h] ∧ Below w.heap.size w W)) (Stb.and (Stb.rh (hV_y.below blw_)) (Stb.and (Stb.bx (Bx.new w2 [.slice A_y X.1.cells.length n_y, .slice B_y X.1.roots.length m_y] 29)) (HI.step blw_))) ?_
  generalize w2.heap.size = bx_y
  clear HI hV_y 
  rintro W HI
  have c_x0 := HI.now.2.2.2.1.c 0 _ rfl
  have c_x1 := HI.now.2.2.2.1.c 1 _ rfl
  have z_x := HI.now.2.2.2.1.lt
  have c_y0 := HI.now.2.1.c 0 _ rfl
  have c_y1 := HI.now.2.1.c 1 _ rfl
  have z_y := HI.now.2.1.lt
  go_wp2_with fail
  refine Calls.gen (Stb (fun W => RH W (.agg #[.slice A_y X.1.cells.length n_y, .slice B_y X.1.roots.length m_y]) X.1 ∧ Bx W bx_y [.slice A_y X.1.cells.length n_y, .slice B_y X.1.roots.length m_y] ∧ RH W (.agg #[.slice A_x X.1.cells.length n_x, .slice B_x X.1.roots.length m_x]) X.1 ∧ Bx W bx_x [.slice A_x X.1.cells.length n_x, .slice B_x X.1.roots.length m_x] ∧ RH W (.agg #[.slice A_h h.cells.length n_h, .slice B_h h.roots.length m_h]) h ∧ Bx W bx_h [.slice A_h h.cells.length n_h, .slice B_h h.roots.length m_h] ∧ Below w.heap.size w W)) (HI.step blw_) ?_
  clear c_x0 c_x1 z_x c_y0 c_y1 z_y
  clear HI 
  rintro W HI
  (with_reducible refine (sameHeap_any _ _ X.1 X.1 _ HI.now.2.2.1 HI.now.1).mono ?_); rw [eqB_of (rfl : X.1 = X.1)]; rintro e w2 ⟨rfl, hB⟩
  replace HI := HI.step hB
  clear hB
  rcases bool_ft (validM h) with hva | hva
  · have hx2 : X.2 = -1 := by rw [hX.out, collectSweep_no hva]
    rw [hx2]
    clear hva hx2
    go_wp2_with fail
    refine Calls.gen (Stb (fun W => RH W (.agg #[.slice A_y X.1.cells.length n_y, .slice B_y X.1.roots.length m_y]) X.1 ∧ Bx W bx_y [.slice A_y X.1.cells.length n_y, .slice B_y X.1.roots.length m_y] ∧ RH W (.agg #[.slice A_x X.1.cells.length n_x, .slice B_x X.1.roots.length m_x]) X.1 ∧ Bx W bx_x [.slice A_x X.1.cells.length n_x, .slice B_x X.1.roots.length m_x] ∧ RH W (.agg #[.slice A_h h.cells.length n_h, .slice B_h h.roots.length m_h]) h ∧ Bx W bx_h [.slice A_h h.cells.length n_h, .slice B_h h.roots.length m_h] ∧ Below w.heap.size w W)) (HI.step blw_) ?_
    clear HI 
    rintro W HI
    (with_reducible refine (alive_any _).mono ?_); rintro e w2 ⟨rfl, hB⟩
    replace HI := HI.step hB
    clear hB
    have HB := HI.now.2.2.2.2.2.2
    have zB := HB.size
    clear HI
    go_wp2_with fail
    go_ret
    exact ⟨rfl, blw_⟩
  have hx2 : ¬ X.2 < 0 := by rw [hX.out, collectSweep_ok hva]; simp
  have hsm := (valid_small hva).1
  obtain ⟨P0, hP0⟩ : ∃ P0 : PaintM, Hid (P0 = ⟨h, List.replicate h.cells.length 0, false⟩) := ⟨_, rfl⟩
  obtain ⟨Z, hZ⟩ : ∃ Z, Hid (Z = paintStartM P0) := ⟨_, rfl⟩
  obtain ⟨Y, hY⟩ : ∃ Y, Hid (Y = paintFinishM Z) := ⟨_, rfl⟩
  have HL : Hid (Y.2 = X.2 ∧ Y.1.store = X.1) := by
    have h1 : paintM P0 = true := by rw [hP0.out]; exact paint_white hva
    have h2 : Z = startP P0 := by rw [hZ.out]; unfold paintStartM; rw [if_pos h1]
    have h3 : Y = finishP Z := by rw [hY.out]; unfold paintFinishM; rw [if_pos (by rw [h2]; exact paintM_start h1)]
    rw [h3, h2, hP0.out, hX.out]
    exact law_PaintSweep hva
  have hmk := mk_ints h.cells.length (by omega)
  clear hva
  go_upto_region 10 with fail
  refine Code.gen (Stb (fun W => RH W (.agg #[.slice A_y X.1.cells.length n_y, .slice B_y X.1.roots.length m_y]) X.1 ∧ Bx W bx_y [.slice A_y X.1.cells.length n_y, .slice B_y X.1.roots.length m_y] ∧ RH W (.agg #[.slice A_x X.1.cells.length n_x, .slice B_x X.1.roots.length m_x]) X.1 ∧ Bx W bx_x [.slice A_x X.1.cells.length n_x, .slice B_x X.1.roots.length m_x] ∧ RH W (.agg #[.slice A_h h.cells.length n_h, .slice B_h h.roots.length m_h]) h ∧ Bx W bx_h [.slice A_h h.cells.length n_h, .slice B_h h.roots.length m_h] ∧ Below w.heap.size w W)) (HI.step blw_) ?_
  clear HI 
  rintro W HI
  refine wp_region_R (by kernel_rfl) (fun R wd hR hwd => ?_)
  have hBd : Below W.heap.size W wd := by rw [hwd]; exact blw_
  replace HI := HI.step hBd
  clear hwd hBd
  refine rel_atq 10 (fr := ?fr_0) hR (fun f W => Below wd.heap.size wd W) [(fun v W => v = (.agg #[.slice A_h h.cells.length n_h, .slice B_h h.roots.length m_h])), (fun v W => v = .pointer (some ⟨bx_h, 0, none⟩)), (fun v W => v = .slice A_h h.cells.length n_h), (fun v W => v = .int .i64 (h.cells.length : Int)), (fun v W => ∃ b4 : Nat, v = .slice (some ⟨b4, 0, none⟩) h.cells.length h.cells.length ∧ RF fi W (some ⟨b4, 0, none⟩) (List.replicate h.cells.length 0)), (fun v W => ∃ b4 : Nat, v = .agg #[.slice A_h h.cells.length n_h, .slice B_h h.roots.length m_h, .slice (some ⟨b4, 0, none⟩) h.cells.length h.cells.length, .bool false] ∧ RPt W v P0), (fun v W => RPt W v Z), (fun v W => ∃ u : Value, v = .tuple #[u, .int .i64 Y.2] ∧ OPt 0 W u Y.1), (fun v W => ∃ u : Value, v = .tuple #[u, .int .i64 Y.2] ∧ OPt 0 W u Y.1), (fun v W => OPt 0 W v Y.1), (fun v W => v = .int .i64 Y.2), (fun v W => ∃ b9 : Nat, v = .pointer (some ⟨b9, 0, none⟩) ∧ Bx W b9 [.slice none 0 0, .slice none 0 0, .slice none 0 0, .bool false] ∧ BT W b9 39 ∧ wd.heap.size ≤ b9), tt, tt] (fun W W' => Below W.heap.size W W') [(0, []), (1, []), (2, [1]), (3, [2, 1]), (4, [3, 2, 1]), (5, [0, 4, 3, 2, 1]), (6, [5, 0, 4, 3, 2, 1]), (7, [6, 5, 0, 4, 3, 2, 1]), (8, [7, 6, 5, 0, 4, 3, 2, 1]), (9, [8, 7, 6, 5, 0, 4, 3, 2, 1]), (10, [8, 7, 6, 5, 0, 4, 3, 2, 1]), (11, []), (12, [0, 1, 2, 3, 4, 5, 6, 7, 8, 9, 11]), (13, [0, 1, 2, 3, 4, 5, 6, 7, 8, 9, 11])] [(38, 0), (39, 1), (40, 2), (41, 3), (42, 4), (43, 5), (44, 6), (45, 7), (37, 8), (46, 9), (47, 10), (8, 11)] [0, 1, 2, 3, 4, 5, 6, 7, 8, 9, 10, 11] #[true, true, true, true, true, true, true, true, true, true, true, true, false, false] 14 2 (by kernel_rfl) (by kernel_rfl) rfl (fun _ _ _ _ h => h) (by kernel_rfl) (fun f W hI => hI) ?hfr_0 ?h0_0 ?mono_0 ?float_0 ?steps_0 ?_
  case hfr_0 => intro x; (simp [frOf, fill, Act.put, List.lookup]; with_reducible rfl)
  case h0_0 => exact Below.refl _ _
  case mono_0 => exact (Pm.cons (fun _ _ _ _ h => h) (Pm.cons (fun _ _ _ _ h => h) (Pm.cons (fun _ _ _ _ h => h) (Pm.cons (fun _ _ _ _ h => h) (Pm.cons (fun _ _ _ hG ⟨b4, e, h9⟩ => ⟨b4, e, h9.below hG⟩) (Pm.cons (fun _ _ _ hG ⟨b4, e, h9⟩ => ⟨b4, e, h9.below hG⟩) (Pm.cons (fun _ _ _ hG h9 => h9.below hG) (Pm.cons (fun _ _ _ hG ⟨u, e, h9⟩ => ⟨u, e, h9.below hG⟩) (Pm.cons (fun _ _ _ hG ⟨u, e, h9⟩ => ⟨u, e, h9.below hG⟩) (Pm.cons (fun _ _ _ hG h9 => h9.below hG) (Pm.cons (fun _ _ _ _ h => h) (Pm.cons (fun _ _ _ hG ⟨b9, e, h1, h2, h3⟩ => ⟨b9, e, h1.below hG, h2.below hG, h3⟩) (Pm.cons (fun _ _ _ _ h => h) (Pm.cons (fun _ _ _ _ h => h) Pm.nil))))))))))))))
  case steps_0 =>
    refine Steps.cons (RStep.of rfl fun x W f hI hD K9 hK => ?_) ?_
    · clear hD
      have c0 := (HI.step hI).now.2.2.2.2.2.1.c 0 _ rfl
      have c1 := (HI.step hI).now.2.2.2.2.2.1.c 1 _ rfl
      go_simp
      exact hK ((.agg #[.slice A_h h.cells.length n_h, .slice B_h h.roots.length m_h])) _ _ (by kernel_rfl) (Below.refl _ _) (hI) rfl
    refine Steps.cons (RStep.of rfl fun x W f hI hD K9 hK => ?_) ?_
    · clear hD
      go_simp
      exact hK (.pointer (some ⟨bx_h, 0, none⟩)) _ _ (by kernel_rfl) (Below.refl _ _) (hI) rfl
    refine Steps.cons (RStep.of rfl fun x W f hI hD K9 hK => ?_) ?_
    · have e1 : x 1 = .pointer (some ⟨bx_h, 0, none⟩) := hD 1 (by decide)
      clear hD
      have c0 := (HI.step hI).now.2.2.2.2.2.1.c 0 _ rfl
      simp only [e1] at hK ⊢
      go_simp
      exact hK (.slice A_h h.cells.length n_h) _ _ (by kernel_rfl) (Below.refl _ _) (hI) rfl
    refine Steps.cons (RStep.of rfl fun x W f hI hD K9 hK => ?_) ?_
    · have e2 : x 2 = .slice A_h h.cells.length n_h := hD 2 (by decide)
      clear hD
      simp only [e2] at hK ⊢
      go_simp
      exact hK (.int .i64 (h.cells.length : Int)) _ _ (by kernel_rfl) (Below.refl _ _) (hI) rfl
    refine Steps.cons (RStep.of rfl fun x W f hI hD K9 hK => ?_) ?_
    · have e3 : x 3 = .int .i64 (h.cells.length : Int) := hD 3 (by decide)
      clear hD
      simp only [e3] at hK ⊢
      go_simp
      exact hK (.slice (some ⟨W.heap.size, 0, none⟩) h.cells.length h.cells.length) _ _ (by kernel_rfl) blw_ (hI.trans (Below.mono (show Below W.heap.size W _ from blw_) hI.size)) ⟨_, rfl, (OF.of_blkn (T := 3) (c := h.cells.length) (by simp) (heap_alloc_at _ _ _ rfl) (by simp only [maxLen]; simp; omega)).rf⟩
    refine Steps.cons (RStep.of rfl fun x W f hI hD K9 hK => ?_) ?_
    · have e0 : x 0 = (.agg #[.slice A_h h.cells.length n_h, .slice B_h h.roots.length m_h]) := hD 0 (by decide)
      have h4 : (fun v W => ∃ b4 : Nat, v = .slice (some ⟨b4, 0, none⟩) h.cells.length h.cells.length ∧ RF fi W (some ⟨b4, 0, none⟩) (List.replicate h.cells.length 0)) (x 4) W := hD 4 (by decide)
      clear hD
      simp only [e0] at hK ⊢
      obtain ⟨b4, e4, h4⟩ := h4
      simp only [e4] at hK ⊢
      go_simp
      exact hK (.agg #[.slice A_h h.cells.length n_h, .slice B_h h.roots.length m_h, .slice (some ⟨b4, 0, none⟩) h.cells.length h.cells.length, .bool false]) _ _ (by kernel_rfl) (Below.refl _ _) hI ⟨b4, rfl, by rw [hP0.out]; exact ⟨A_h, n_h, B_h, m_h, some ⟨b4, 0, none⟩, h.cells.length, by simp, ⟨(HI.step hI).now.2.2.2.2.1.inv.1, (HI.step hI).now.2.2.2.2.1.inv.2.1, (HI.step hI).now.2.2.2.2.1.inv.2.2.1, (HI.step hI).now.2.2.2.2.1.inv.2.2.2⟩, h4, by simp; omega⟩⟩
    refine Steps.cons (RStep.of rfl fun x W f hI hD K9 hK => ?_) ?_
    · have h5 : (fun v W => ∃ b4 : Nat, v = .agg #[.slice A_h h.cells.length n_h, .slice B_h h.roots.length m_h, .slice (some ⟨b4, 0, none⟩) h.cells.length h.cells.length, .bool false] ∧ RPt W v P0) (x 5) W := hD 5 (by decide)
      clear hD
      obtain ⟨b4, e5, h5⟩ := h5
      rw [e5] at h5
      simp only [e5] at hK ⊢
      go_wp2_with fail
      (with_reducible refine (implPaintStart_any _ P0 _ h5).mono ?_); rw [← hZ.out]
      rintro e w6 ⟨v6, rfl, oH, hB⟩
      exact hK v6 _ _ (by kernel_rfl) hB (hI.trans (hB.mono hI.size)) oH.rp
    refine Steps.cons (RStep.of rfl fun x W f hI hD K9 hK => ?_) ?_
    · have h6 : (fun v W => RPt W v Z) (x 6) W := hD 6 (by decide)
      clear hD
      go_wp2_with fail
      (with_reducible refine (implPaintFinish_any (x 6) Z _ h6).mono ?_); rw [← hY.out]
      rintro e w6 ⟨v6, rfl, oH, hB⟩
      exact hK (.tuple #[v6, .int .i64 Y.2]) _ _ (by kernel_rfl) hB (hI.trans (hB.mono hI.size)) ⟨v6, rfl, oH.lo_ (by omega)⟩
    refine Steps.cons (RStep.of rfl fun x W f hI hD K9 hK => ?_) ?_
    · have h7 : (fun v W => ∃ u : Value, v = .tuple #[u, .int .i64 Y.2] ∧ OPt 0 W u Y.1) (x 7) W := hD 7 (by decide)
      clear hD
      obtain ⟨u, e7, h9⟩ := h7
      simp only [e7] at hK ⊢
      go_simp
      exact hK (.tuple #[u, .int .i64 Y.2]) _ _ (by kernel_rfl) (Below.refl _ _) hI ⟨u, rfl, h9⟩
    refine Steps.cons (RStep.of rfl fun x W f hI hD K9 hK => ?_) ?_
    · have h8 : (fun v W => ∃ u : Value, v = .tuple #[u, .int .i64 Y.2] ∧ OPt 0 W u Y.1) (x 8) W := hD 8 (by decide)
      clear hD
      obtain ⟨u, e8, h9⟩ := h8
      simp only [e8] at hK ⊢
      go_simp
      exact hK u _ _ (by kernel_rfl) (Below.refl _ _) hI h9
    refine Steps.cons (RStep.of rfl fun x W f hI hD K9 hK => ?_) ?_
    · have h8 : (fun v W => ∃ u : Value, v = .tuple #[u, .int .i64 Y.2] ∧ OPt 0 W u Y.1) (x 8) W := hD 8 (by decide)
      clear hD
      obtain ⟨u, e8, h9⟩ := h8
      simp only [e8] at hK ⊢
      go_simp
      exact hK (.int .i64 Y.2) _ _ (by kernel_rfl) (Below.refl _ _) hI rfl
    refine Steps.cons (RStep.of rfl fun x W f hI hD K9 hK => ?_) ?_
    · clear hD
      have hzz := hI.size
      go_simp
      exact hK (.pointer (some ⟨W.heap.size, 0, none⟩)) _ _ (by kernel_rfl) blw_ (hI.trans (Below.mono (show Below W.heap.size W _ from blw_) hI.size)) ⟨W.heap.size, rfl, Bx.new W [.slice none 0 0, .slice none 0 0, .slice none 0 0, .bool false] 39, BT.new _ _ _, hzz⟩
    exact Steps.nil
  case float_0 =>
    intro x W hD
    have h8 : (fun v W => ∃ u : Value, v = .tuple #[u, .int .i64 Y.2] ∧ OPt 0 W u Y.1) (x 8) W := hD 8 (by decide)
    obtain ⟨u, e8, h9⟩ := h8
    simp only [e8]
    refine ⟨_, .int .i64 Y.2, rfl, .inl ⟨by kernel_rfl, fun w9 => ?_⟩, rfl⟩
    go_simp
  intro x W hI hV
  have e0 : x 0 = (.agg #[.slice A_h h.cells.length n_h, .slice B_h h.roots.length m_h]) := hV 0 (by decide)
  have e1 : x 1 = .pointer (some ⟨bx_h, 0, none⟩) := hV 1 (by decide)
  have e2 : x 2 = .slice A_h h.cells.length n_h := hV 2 (by decide)
  have e3 : x 3 = .int .i64 (h.cells.length : Int) := hV 3 (by decide)
  have h4 : (fun v W => ∃ b4 : Nat, v = .slice (some ⟨b4, 0, none⟩) h.cells.length h.cells.length ∧ RF fi W (some ⟨b4, 0, none⟩) (List.replicate h.cells.length 0)) (x 4) W := hV 4 (by decide)
  have h5 : (fun v W => ∃ b4 : Nat, v = .agg #[.slice A_h h.cells.length n_h, .slice B_h h.roots.length m_h, .slice (some ⟨b4, 0, none⟩) h.cells.length h.cells.length, .bool false] ∧ RPt W v P0) (x 5) W := hV 5 (by decide)
  have h6 : (fun v W => RPt W v Z) (x 6) W := hV 6 (by decide)
  have h7 : (fun v W => ∃ u : Value, v = .tuple #[u, .int .i64 Y.2] ∧ OPt 0 W u Y.1) (x 7) W := hV 7 (by decide)
  have h8 : (fun v W => ∃ u : Value, v = .tuple #[u, .int .i64 Y.2] ∧ OPt 0 W u Y.1) (x 8) W := hV 8 (by decide)
  have h9 : (fun v W => OPt 0 W v Y.1) (x 9) W := hV 9 (by decide)
  have e10 : x 10 = .int .i64 Y.2 := hV 10 (by decide)
  have h11 : (fun v W => ∃ b9 : Nat, v = .pointer (some ⟨b9, 0, none⟩) ∧ Bx W b9 [.slice none 0 0, .slice none 0 0, .slice none 0 0, .bool false] ∧ BT W b9 39 ∧ wd.heap.size ≤ b9) (x 11) W := hV 11 (by decide)
  clear hV
  simp only [e0, e1, e2, e3, e10]
  obtain ⟨b9, e11, hX9, hT9, hb9⟩ := h11
  obtain ⟨A7, c7, A7', c7', A8, c8, e9_, hOP⟩ := h9.parts3
  simp only [e9_, e11]
  clear h4 h5 h6 h7 h8
  have s0 := hX9.c 0 _ rfl
  have s1 := hX9.c 1 _ rfl
  have s2 := hX9.c 2 _ rfl
  have s3 := hX9.c 3 _ rfl
  have sf0 := hX9.f 0
  have sf1 := hX9.f 1
  have sf2 := hX9.f 2
  have sf3 := hX9.f 3
  have hlt9 := hX9.lt
  rw [hR]
  refine wpAny_ready (rs := [12]) (by kernel_rfl) (by simp) ?_
  refine AllReady.cons rfl (fun K9 hK9 => ?_) AllReady.nil
  go_simp
  refine hK9 _ _ ?_
  clear hK9
  refine wpAny_ready (rs := [13]) (by kernel_rfl) (by simp) ?_
  refine AllReady.cons rfl (fun K9 hK9 => ?_) AllReady.nil
  go_simp
  refine hK9 _ _ ?_
  clear hK9
  refine wpAny_done (by kernel_rfl) ?_ _
  clear hR
  have hVp : RPt ((((W.setCell ⟨b9, 0, none⟩ (.slice A7 Y.1.store.cells.length c7)).setCell ⟨b9, 1, none⟩ (.slice A7' Y.1.store.roots.length c7')).setCell ⟨b9, 2, none⟩ (.slice A8 Y.1.colours.length c8)).setCell ⟨b9, 3, none⟩ (.bool Y.1.active)) (.agg #[.slice A7 Y.1.store.cells.length c7, .slice A7' Y.1.store.roots.length c7', .slice A8 Y.1.colours.length c8, .bool Y.1.active]) Y.1 := ((((hOP.set_T hT9 (by decide) (by decide) 0 _).set_T (hT9.set _ _) (by decide) (by decide) 1 _).set_T ((hT9.set _ _).set _ _) (by decide) (by decide) 2 _).set_T (((hT9.set _ _).set _ _).set _ _) (by decide) (by decide) 3 _).rp
  have hBp : Bx ((((W.setCell ⟨b9, 0, none⟩ (.slice A7 Y.1.store.cells.length c7)).setCell ⟨b9, 1, none⟩ (.slice A7' Y.1.store.roots.length c7')).setCell ⟨b9, 2, none⟩ (.slice A8 Y.1.colours.length c8)).setCell ⟨b9, 3, none⟩ (.bool Y.1.active)) b9 [.slice A7 Y.1.store.cells.length c7, .slice A7' Y.1.store.roots.length c7', .slice A8 Y.1.colours.length c8, .bool Y.1.active] := ⟨fun j v hj => by
    match j, hj with
    | 0, hj => injection hj with hj; subst hj; simp [go_sem, s0, s1, s2, s3]
    | 1, hj => injection hj with hj; subst hj; simp [go_sem, s0, s1, s2, s3]
    | 2, hj => injection hj with hj; subst hj; simp [go_sem, s0, s1, s2, s3]
    | 3, hj => injection hj with hj; subst hj; simp [go_sem, s0, s1, s2, s3]
    | j + 4, hj => simp at hj, fun j => by have := hX9.f j; simpa [go_sem] using this, by simpa using hX9.lt⟩
  have hBW : Below wd.heap.size wd ((((W.setCell ⟨b9, 0, none⟩ (.slice A7 Y.1.store.cells.length c7)).setCell ⟨b9, 1, none⟩ (.slice A7' Y.1.store.roots.length c7')).setCell ⟨b9, 2, none⟩ (.slice A8 Y.1.colours.length c8)).setCell ⟨b9, 3, none⟩ (.bool Y.1.active)) := (((hI.setCell (by simp only; omega) _).setCell (by simp only; omega) _).setCell (by simp only; omega) _).setCell (by simp only; omega) _
  replace HI := HI.step hBW
  clear hI hBW hOP hT9 hX9 s0 s1 s2 s3 sf0 sf1 sf2 sf3 hlt9 hb9
  go_upto_region 11 with fail
  refine Code.gen (Stb (fun W => Bx W b9 [.slice A7 Y.1.store.cells.length c7, .slice A7' Y.1.store.roots.length c7', .slice A8 Y.1.colours.length c8, .bool Y.1.active] ∧ RPt W (.agg #[.slice A7 Y.1.store.cells.length c7, .slice A7' Y.1.store.roots.length c7', .slice A8 Y.1.colours.length c8, .bool Y.1.active]) Y.1 ∧ RH W (.agg #[.slice A_y X.1.cells.length n_y, .slice B_y X.1.roots.length m_y]) X.1 ∧ Bx W bx_y [.slice A_y X.1.cells.length n_y, .slice B_y X.1.roots.length m_y] ∧ RH W (.agg #[.slice A_x X.1.cells.length n_x, .slice B_x X.1.roots.length m_x]) X.1 ∧ Bx W bx_x [.slice A_x X.1.cells.length n_x, .slice B_x X.1.roots.length m_x] ∧ RH W (.agg #[.slice A_h h.cells.length n_h, .slice B_h h.roots.length m_h]) h ∧ Bx W bx_h [.slice A_h h.cells.length n_h, .slice B_h h.roots.length m_h] ∧ Below w.heap.size w W)) (Stb.and (Stb.bx (hBp.below blw_)) (Stb.and (Stb.rpt (hVp.below blw_)) (HI.step blw_))) ?_
  clear HI hBp hVp
  rintro W HI
  have hq : (Y.2 == X.2) = true := by rw [HL.out.1]; simp
  have c_p0 := HI.now.1.c 0 _ rfl
  have c_p1 := HI.now.1.c 1 _ rfl
  have c_p2 := HI.now.1.c 2 _ rfl
  have c_p3 := HI.now.1.c 3 _ rfl
  have z_p := HI.now.1.lt
  have c_x0 := HI.now.2.2.2.2.2.1.c 0 _ rfl
  have c_x1 := HI.now.2.2.2.2.2.1.c 1 _ rfl
  have z_x := HI.now.2.2.2.2.2.1.lt
  go_wp2_with fail
  refine Calls.gen (Stb (fun W => Bx W b9 [.slice A7 Y.1.store.cells.length c7, .slice A7' Y.1.store.roots.length c7', .slice A8 Y.1.colours.length c8, .bool Y.1.active] ∧ RPt W (.agg #[.slice A7 Y.1.store.cells.length c7, .slice A7' Y.1.store.roots.length c7', .slice A8 Y.1.colours.length c8, .bool Y.1.active]) Y.1 ∧ RH W (.agg #[.slice A_y X.1.cells.length n_y, .slice B_y X.1.roots.length m_y]) X.1 ∧ Bx W bx_y [.slice A_y X.1.cells.length n_y, .slice B_y X.1.roots.length m_y] ∧ RH W (.agg #[.slice A_x X.1.cells.length n_x, .slice B_x X.1.roots.length m_x]) X.1 ∧ Bx W bx_x [.slice A_x X.1.cells.length n_x, .slice B_x X.1.roots.length m_x] ∧ RH W (.agg #[.slice A_h h.cells.length n_h, .slice B_h h.roots.length m_h]) h ∧ Bx W bx_h [.slice A_h h.cells.length n_h, .slice B_h h.roots.length m_h] ∧ Below w.heap.size w W)) (HI.step blw_) ?_
  clear c_p0 c_p1 c_p2 c_p3 z_p c_x0 c_x1 z_x
  clear HI 
  rintro W HI
  (with_reducible refine (sameHeap_any _ _ Y.1.store X.1 _ (HI.now.2.1).st HI.now.2.2.2.2.1).mono ?_); rw [eqB_of HL.out.2]; rintro e w2 ⟨rfl, hB⟩
  replace HI := HI.step hB
  clear hB
  have HB := HI.now.2.2.2.2.2.2.2.2
  have zB := HB.size
  clear HI
  go_wp2_with fail
  go_ret
  exact ⟨rfl, blw_⟩
end Go.Proofs.Ytmlgndeihfpfgaa
