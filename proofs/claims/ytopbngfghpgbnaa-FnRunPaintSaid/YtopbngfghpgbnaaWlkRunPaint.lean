/- FnRunPaint: the law's call returns true. -/
import Derived.Test.YtopbngfghpgbnaaChecked
import Derived.Deep.QuietTactic
import Derived.BigQuiet
import Derived.Deep.RegionWith
import Derived.Test.YtopbngfghpgbnaaGrCtx
import Derived.Test.YtopbngfghpgbnaaDrawR
import Derived.Test.YtopbngfghpgbnaaGrSame
import Derived.Test.YtopbngfghpgbnaaRunP
import Derived.Test.YtopbngfghpgbnaaRunPS
import Derived.Test.YtopbngfghpgbnaaGrHeap
import Derived.Test.YtopbngfghpgbnaaRunH
import Derived.Test.YtopbngfghpgbnaaViewI
import Derived.Test.YtopbngfghpgbnaaGrIso
namespace Go.Proofs.Ytopbngfghpgbnaa
open Go.RowKit
set_option maxRecDepth 100000
set_option linter.unusedSimpArgs false
set_option linter.unusedVariables false
set_option maxHeartbeats 8000000 in
theorem walkRunPaint (C : Option Addr) (bs : List Int) (c : Nat) (w : World) (hr : RF fu w C bs) (hb : ∀ x ∈ bs, 0 ≤ x ∧ x < 256) (hc : bs.length ≤ c) (hc2 : c ≤ 9223372036854775807) :
    Calls Try.prog 9 #[.slice C bs.length c] w fun e w' => e = .returned (.bool true) ∧ Below w.heap.size w w' := by
  by_cases hbig : 1048576 < bs.length
  · go_enter Try.func9, Try.ntmps9
    go_wp2
    go_ret
    exact ⟨rfl, blw_⟩
  go_enter Try.func9, Try.ntmps9
  go_wp2_with fail
  (with_reducible refine (drawRunPaint_any C bs c _ hr hb hc hc2).mono ?_); rintro e w1 ⟨v1, v2, rfl, ⟨L, S, cS, s, S2, c2, rfl, rfl, HS, hL, HS2, hs100⟩, hB⟩
  have hLl : L.length ≤ 9223372036854775807 := by omega
  have hsl : s.length ≤ 9223372036854775807 := by omega
  clear hr hb
  go_wp2_with fail
  refine Calls.gen (Stb (fun W => RO W S L ∧ RF fi W S2 s ∧ Below w.heap.size w W)) (Stb.and (Stb.ro (HS.below blw_)) (Stb.and (Stb.rf (HS2.below blw_)) (Stb.here blw_))) ?_
  clear  HS HS2 hB
  rintro W HI
  obtain ⟨X, hX⟩ : ∃ X, Hid (X = runPaintM L s) := ⟨_, rfl⟩
  (with_reducible refine (implRunPaint_any S L cS S2 s c2 _ HI.now.1 hLl HI.now.2.1 hsl).mono ?_); rw [← hX.out]; rintro e w2 ⟨v2, rfl, oH, hB⟩
  replace HI := HI.step hB
  clear hB
  have hV_x := oH.rh
  clear oH
  obtain ⟨A_x, n_x, B_x, m_x, rfl⟩ := hV_x.parts
  go_upto_region 5 with fail
  refine Code.gen (Stb (fun W => RH W (.agg #[.slice A_x X.cells.length n_x, .slice B_x X.roots.length m_x]) X ∧ Bx W (w2.heap.size) [.slice A_x X.cells.length n_x, .slice B_x X.roots.length m_x] ∧ RO W S L ∧ RF fi W S2 s ∧ Below w.heap.size w W)) (Stb.and (Stb.rh (hV_x.below blw_)) (Stb.and (Stb.bx (Bx.new w2 [.slice A_x X.cells.length n_x, .slice B_x X.roots.length m_x] 26)) (HI.step blw_))) ?_
  generalize w2.heap.size = bx_x
  clear HI hV_x 
  rintro W HI
  refine wp_region_R (by kernel_rfl) (fun R wd hR hwd => ?_)
  have hBd : Below W.heap.size W wd := by rw [hwd]; exact blw_
  replace HI := HI.step hBd
  clear hwd hBd
  refine rel_at (fr := ?fr_0) hR (fun f W => Stb (fun W => RH W (.agg #[.slice A_x X.cells.length n_x, .slice B_x X.roots.length m_x]) X ∧ Bx W bx_x [.slice A_x X.cells.length n_x, .slice B_x X.roots.length m_x] ∧ RO W S L ∧ RF fi W S2 s ∧ Below w.heap.size w W) W) [(fun v W => v = .agg #[.slice A_x X.cells.length n_x, .slice B_x X.roots.length m_x]), (fun v W => v = .slice S L.length cS), (fun v W => v = .slice S2 s.length c2), (fun v W => ∃ A_r3 n_r3 B_r3 m_r3, v = (.agg #[.slice A_r3 X.cells.length n_r3, .slice B_r3 X.roots.length m_r3]) ∧ RH W (.agg #[.slice A_r3 X.cells.length n_r3, .slice B_r3 X.roots.length m_r3]) X), (fun v W => v = .bool true), (fun v W => v = .bool false)] (fun W W' => Below W.heap.size W W') [(0, []), (1, []), (2, []), (3, [1, 2]), (4, [0, 3, 1, 2]), (5, [4, 0, 3, 1, 2])] [(17, 0), (18, 1), (19, 2), (20, 3), (21, 4), (22, 5)] [0, 1, 2, 3, 4, 5] #[true, true, true, true, true, true] 6 0 (by kernel_rfl) (by kernel_rfl) ?hfr_0 ?h0_0 ?mono_0 ?steps_0 ?_
  case hfr_0 => intro x; (simp [frOf, fill, Act.put, List.lookup]; with_reducible rfl)
  case h0_0 => exact HI
  case mono_0 => exact (Pm.cons (fun _ _ _ _ h => h) (Pm.cons (fun _ _ _ _ h => h) (Pm.cons (fun _ _ _ _ h => h) (Pm.cons (fun _ _ _ hG ⟨A_r3, n_r3, B_r3, m_r3, e, h⟩ => ⟨A_r3, n_r3, B_r3, m_r3, e, h.below hG⟩) (Pm.cons (fun _ _ _ _ h => h) (Pm.cons (fun _ _ _ _ h => h) Pm.nil))))))
  case steps_0 =>
    refine Steps.cons (RStep.of rfl fun x W f hI hD K9 hK => ?_) ?_
    · clear hD
      have c0 := hI.now.2.1.c 0 _ rfl
      have c1 := hI.now.2.1.c 1 _ rfl
      go_simp
      exact hK (.agg #[.slice A_x X.cells.length n_x, .slice B_x X.roots.length m_x]) _ _ (by kernel_rfl) (Below.refl _ _) (hI) rfl
    refine Steps.cons (RStep.of rfl fun x W f hI hD K9 hK => ?_) ?_
    · clear hD
      go_simp
      exact hK (.slice S L.length cS) _ _ (by kernel_rfl) (Below.refl _ _) (hI) rfl
    refine Steps.cons (RStep.of rfl fun x W f hI hD K9 hK => ?_) ?_
    · clear hD
      go_simp
      exact hK (.slice S2 s.length c2) _ _ (by kernel_rfl) (Below.refl _ _) (hI) rfl
    refine Steps.cons (RStep.of rfl fun x W f hI hD K9 hK => ?_) ?_
    · have e1 : x 1 = .slice S L.length cS := hD 1 (by decide)
      have e2 : x 2 = .slice S2 s.length c2 := hD 2 (by decide)
      clear hD
      simp only [e1, e2] at hK ⊢
      go_wp2_with fail
      (with_reducible refine (specRunPaint_any S L cS S2 s c2 _ hI.now.2.2.1 hLl hI.now.2.2.2.1 hsl).mono ?_); rw [← hX.out]
      rintro e w6 ⟨v6, rfl, oH, hB⟩
      obtain ⟨A_r3, n_r3, B_r3, m_r3, rfl⟩ := oH.rh.parts
      exact hK (.agg #[.slice A_r3 X.cells.length n_r3, .slice B_r3 X.roots.length m_r3]) _ _ (by kernel_rfl) hB (hI.step hB) ⟨A_r3, n_r3, B_r3, m_r3, rfl, oH.rh⟩
    refine Steps.cons (RStep.of rfl fun x W f hI hD K9 hK => ?_) ?_
    · have e0 : x 0 = .agg #[.slice A_x X.cells.length n_x, .slice B_x X.roots.length m_x] := hD 0 (by decide)
      have h3 : (fun v W => ∃ A_r3 n_r3 B_r3 m_r3, v = (.agg #[.slice A_r3 X.cells.length n_r3, .slice B_r3 X.roots.length m_r3]) ∧ RH W (.agg #[.slice A_r3 X.cells.length n_r3, .slice B_r3 X.roots.length m_r3]) X) (x 3) W := hD 3 (by decide)
      clear hD
      simp only [e0] at hK ⊢
      obtain ⟨A_r3, n_r3, B_r3, m_r3, e3, h3⟩ := h3
      simp only [e3] at hK ⊢
      go_wp2_with fail
      (with_reducible refine (sameHeap_any _ _ X X _ hI.now.1 h3).mono ?_); rw [eqB_of (rfl : X = X)]
      rintro e w6 ⟨rfl, hB⟩
      exact hK _ _ _ (by kernel_rfl) hB (hI.step hB) rfl
    refine Steps.cons (RStep.of rfl fun x W f hI hD K9 hK => ?_) ?_
    · have e4 : x 4 = .bool true := hD 4 (by decide)
      clear hD
      simp only [e4] at hK ⊢
      go_simp
      exact hK (.bool false) _ _ (by kernel_rfl) (Below.refl _ _) (hI) rfl
    exact Steps.nil
  intro x W hI hV
  have e0 : x 0 = .agg #[.slice A_x X.cells.length n_x, .slice B_x X.roots.length m_x] := hV 0 (by decide)
  have e1 : x 1 = .slice S L.length cS := hV 1 (by decide)
  have e2 : x 2 = .slice S2 s.length c2 := hV 2 (by decide)
  have h3 : (fun v W => ∃ A_r3 n_r3 B_r3 m_r3, v = (.agg #[.slice A_r3 X.cells.length n_r3, .slice B_r3 X.roots.length m_r3]) ∧ RH W (.agg #[.slice A_r3 X.cells.length n_r3, .slice B_r3 X.roots.length m_r3]) X) (x 3) W := hV 3 (by decide)
  have e4 : x 4 = .bool true := hV 4 (by decide)
  have e5 : x 5 = .bool false := hV 5 (by decide)
  clear hV
  simp only [e0, e1, e2, e4, e5]
  clear h3
  rw [hR]
  refine wpAny_done (by kernel_rfl) ?_ _
  clear hR
  replace HI := hI
  clear hI
  by_cases hz : X.roots.length = 0
  · have c_x0 := HI.now.2.1.c 0 _ rfl
    have c_x1 := HI.now.2.1.c 1 _ rfl
    have z_x := HI.now.2.1.lt
    rw [hz] at c_x1
    clear hz
    go_wp2_with fail
    refine Calls.gen (Stb (fun W => RH W (.agg #[.slice A_x X.cells.length n_x, .slice B_x X.roots.length m_x]) X ∧ Bx W bx_x [.slice A_x X.cells.length n_x, .slice B_x X.roots.length m_x] ∧ RO W S L ∧ RF fi W S2 s ∧ Below w.heap.size w W)) (HI.step blw_) ?_
    clear c_x0 c_x1 z_x
    clear HI 
    rintro W HI
    (with_reducible refine (alive_any _).mono ?_); rintro e w2 ⟨rfl, hB⟩
    replace HI := HI.step hB
    clear hB
    have HB := HI.now.2.2.2.2
    have zB := HB.size
    clear HI
    go_wp2_with fail
    go_ret
    exact ⟨rfl, blw_⟩
  have HL : Hid (sameViewM X (runM L) = true) := by rw [hX.out] at hz ⊢; exact law_RunPaint hz
  have HV : Hid (validM X = true) := (sameView_iff.1 HL.out).1
  have hz1 : ((X.roots.length : Int) == 0) = false := by rw [beq_eq_false_iff_ne]; omega
  clear hz
  have c_x0 := HI.now.2.1.c 0 _ rfl
  have c_x1 := HI.now.2.1.c 1 _ rfl
  have z_x := HI.now.2.1.lt
  go_upto_region 9 with fail
  refine Code.gen (Stb (fun W => RH W (.agg #[.slice A_x X.cells.length n_x, .slice B_x X.roots.length m_x]) X ∧ Bx W bx_x [.slice A_x X.cells.length n_x, .slice B_x X.roots.length m_x] ∧ RO W S L ∧ RF fi W S2 s ∧ Below w.heap.size w W)) (HI.step blw_) ?_
  clear c_x0 c_x1 z_x
  clear HI 
  rintro W HI
  refine wp_region_R (by kernel_rfl) (fun R wd hR hwd => ?_)
  have hBd : Below W.heap.size W wd := by rw [hwd]; exact blw_
  replace HI := HI.step hBd
  clear hwd hBd
  refine rel_at (fr := ?fr_1) hR (fun f W => Stb (fun W => RH W (.agg #[.slice A_x X.cells.length n_x, .slice B_x X.roots.length m_x]) X ∧ Bx W bx_x [.slice A_x X.cells.length n_x, .slice B_x X.roots.length m_x] ∧ RO W S L ∧ RF fi W S2 s ∧ Below w.heap.size w W) W) [(fun v W => v = .agg #[.slice A_x X.cells.length n_x, .slice B_x X.roots.length m_x]), (fun v W => v = .bool true), (fun v W => v = .bool true), (fun v W => v = .agg #[.slice A_x X.cells.length n_x, .slice B_x X.roots.length m_x]), (fun v W => v = .slice S L.length cS), (fun v W => ∃ A_r5 n_r5 B_r5 m_r5, v = (.agg #[.slice A_r5 (runM L).cells.length n_r5, .slice B_r5 (runM L).roots.length m_r5]) ∧ RH W (.agg #[.slice A_r5 (runM L).cells.length n_r5, .slice B_r5 (runM L).roots.length m_r5]) (runM L)), (fun v W => v = .bool true), (fun v W => v = .bool true), (fun v W => v = .bool true)] (fun W W' => Below W.heap.size W W') [(0, []), (1, [0]), (2, [1, 0]), (3, [2, 1, 0]), (4, [2, 1, 0]), (5, [2, 1, 0, 4]), (6, [2, 1, 0, 3, 5, 4]), (7, [2, 1, 0, 6, 3, 5, 4]), (8, [7, 2, 1, 0, 6, 3, 5, 4])] [(28, 0), (29, 1), (30, 2), (31, 3), (32, 4), (33, 5), (34, 6), (35, 7), (2, 8)] [0, 1, 2, 3, 4, 5, 6, 7, 8] #[true, true, true, true, true, true, true, true, true] 9 0 (by kernel_rfl) (by kernel_rfl) ?hfr_1 ?h0_1 ?mono_1 ?steps_1 ?_
  case hfr_1 => intro x; (simp [frOf, fill, Act.put, List.lookup]; with_reducible rfl)
  case h0_1 => exact HI
  case mono_1 => exact (Pm.cons (fun _ _ _ _ h => h) (Pm.cons (fun _ _ _ _ h => h) (Pm.cons (fun _ _ _ _ h => h) (Pm.cons (fun _ _ _ _ h => h) (Pm.cons (fun _ _ _ _ h => h) (Pm.cons (fun _ _ _ hG ⟨A_r5, n_r5, B_r5, m_r5, e, h⟩ => ⟨A_r5, n_r5, B_r5, m_r5, e, h.below hG⟩) (Pm.cons (fun _ _ _ _ h => h) (Pm.cons (fun _ _ _ _ h => h) (Pm.cons (fun _ _ _ _ h => h) Pm.nil)))))))))
  case steps_1 =>
    refine Steps.cons (RStep.of rfl fun x W f hI hD K9 hK => ?_) ?_
    · clear hD
      have c0 := hI.now.2.1.c 0 _ rfl
      have c1 := hI.now.2.1.c 1 _ rfl
      go_simp
      exact hK (.agg #[.slice A_x X.cells.length n_x, .slice B_x X.roots.length m_x]) _ _ (by kernel_rfl) (Below.refl _ _) (hI) rfl
    refine Steps.cons (RStep.of rfl fun x W f hI hD K9 hK => ?_) ?_
    · have e0 : x 0 = .agg #[.slice A_x X.cells.length n_x, .slice B_x X.roots.length m_x] := hD 0 (by decide)
      clear hD
      simp only [e0] at hK ⊢
      go_wp2_with fail
      (with_reducible refine (implHeapValid_any _ X _ hI.now.1).mono ?_); rw [HV.out]
      rintro e w6 ⟨rfl, hB⟩
      exact hK _ _ _ (by kernel_rfl) hB (hI.step hB) rfl
    refine Steps.cons (RStep.of rfl fun x W f hI hD K9 hK => ?_) ?_
    · have e1 : x 1 = .bool true := hD 1 (by decide)
      clear hD
      simp only [e1] at hK ⊢
      go_simp
      exact hK (.bool true) _ _ (by kernel_rfl) (Below.refl _ _) (hI) rfl
    refine Steps.cons (RStep.of rfl fun x W f hI hD K9 hK => ?_) ?_
    · have e2 : x 2 = .bool true := hD 2 (by decide)
      clear hD
      have c0 := hI.now.2.1.c 0 _ rfl
      have c1 := hI.now.2.1.c 1 _ rfl
      simp only [e2] at hK ⊢
      go_simp
      exact hK (.agg #[.slice A_x X.cells.length n_x, .slice B_x X.roots.length m_x]) _ _ (by kernel_rfl) (Below.refl _ _) (hI) rfl
    refine Steps.cons (RStep.of rfl fun x W f hI hD K9 hK => ?_) ?_
    · have e2 : x 2 = .bool true := hD 2 (by decide)
      clear hD
      simp only [e2] at hK ⊢
      go_simp
      exact hK (.slice S L.length cS) _ _ (by kernel_rfl) (Below.refl _ _) (hI) rfl
    refine Steps.cons (RStep.of rfl fun x W f hI hD K9 hK => ?_) ?_
    · have e2 : x 2 = .bool true := hD 2 (by decide)
      have e4 : x 4 = .slice S L.length cS := hD 4 (by decide)
      clear hD
      simp only [e2, e4] at hK ⊢
      go_wp2_with fail
      (with_reducible refine (implRunHeap_any S L cS _ hI.now.2.2.1 hLl).mono ?_)
      rintro e w6 ⟨v6, rfl, oH, hB⟩
      obtain ⟨A_r5, n_r5, B_r5, m_r5, rfl⟩ := oH.rh.parts
      exact hK (.agg #[.slice A_r5 (runM L).cells.length n_r5, .slice B_r5 (runM L).roots.length m_r5]) _ _ (by kernel_rfl) hB (hI.step hB) ⟨A_r5, n_r5, B_r5, m_r5, rfl, oH.rh⟩
    refine Steps.cons (RStep.of rfl fun x W f hI hD K9 hK => ?_) ?_
    · have e2 : x 2 = .bool true := hD 2 (by decide)
      have e3 : x 3 = .agg #[.slice A_x X.cells.length n_x, .slice B_x X.roots.length m_x] := hD 3 (by decide)
      have h5 : (fun v W => ∃ A_r5 n_r5 B_r5 m_r5, v = (.agg #[.slice A_r5 (runM L).cells.length n_r5, .slice B_r5 (runM L).roots.length m_r5]) ∧ RH W (.agg #[.slice A_r5 (runM L).cells.length n_r5, .slice B_r5 (runM L).roots.length m_r5]) (runM L)) (x 5) W := hD 5 (by decide)
      clear hD
      simp only [e2, e3] at hK ⊢
      obtain ⟨A_r5, n_r5, B_r5, m_r5, e5, h5⟩ := h5
      simp only [e5] at hK ⊢
      go_wp2_with fail
      (with_reducible refine (sameView_any _ _ X (runM L) _ hI.now.1 h5).mono ?_); rw [HL.out]
      rintro e w6 ⟨rfl, hB⟩
      exact hK _ _ _ (by kernel_rfl) hB (hI.step hB) rfl
    refine Steps.cons (RStep.of rfl fun x W f hI hD K9 hK => ?_) ?_
    · have e2 : x 2 = .bool true := hD 2 (by decide)
      have e6 : x 6 = .bool true := hD 6 (by decide)
      clear hD
      simp only [e2, e6] at hK ⊢
      go_simp
      exact hK (.bool true) _ _ (by kernel_rfl) (Below.refl _ _) (hI) rfl
    refine Steps.cons (RStep.of rfl fun x W f hI hD K9 hK => ?_) ?_
    · have e7 : x 7 = .bool true := hD 7 (by decide)
      clear hD
      simp only [e7] at hK ⊢
      go_simp
      exact hK (.bool true) _ _ (by kernel_rfl) (Below.refl _ _) (hI) rfl
    exact Steps.nil
  intro x W hI hV
  have e0 : x 0 = .agg #[.slice A_x X.cells.length n_x, .slice B_x X.roots.length m_x] := hV 0 (by decide)
  have e1 : x 1 = .bool true := hV 1 (by decide)
  have e2 : x 2 = .bool true := hV 2 (by decide)
  have e3 : x 3 = .agg #[.slice A_x X.cells.length n_x, .slice B_x X.roots.length m_x] := hV 3 (by decide)
  have e4 : x 4 = .slice S L.length cS := hV 4 (by decide)
  have h5 : (fun v W => ∃ A_r5 n_r5 B_r5 m_r5, v = (.agg #[.slice A_r5 (runM L).cells.length n_r5, .slice B_r5 (runM L).roots.length m_r5]) ∧ RH W (.agg #[.slice A_r5 (runM L).cells.length n_r5, .slice B_r5 (runM L).roots.length m_r5]) (runM L)) (x 5) W := hV 5 (by decide)
  have e6 : x 6 = .bool true := hV 6 (by decide)
  have e7 : x 7 = .bool true := hV 7 (by decide)
  have e8 : x 8 = .bool true := hV 8 (by decide)
  clear hV
  simp only [e0, e1, e2, e3, e4, e6, e7, e8]
  clear h5
  rw [hR]
  refine wpAny_done (by kernel_rfl) ?_ _
  clear hR
  replace HI := hI
  clear hI
  have HB := HI.now.2.2.2.2
  have zB := HB.size
  clear HI
  go_wp2_with fail
  go_ret
  exact ⟨rfl, blw_⟩
end Go.Proofs.Ytopbngfghpgbnaa
