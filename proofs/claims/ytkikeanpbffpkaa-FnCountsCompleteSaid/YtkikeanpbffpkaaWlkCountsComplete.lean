/- FnCountsComplete: the law's call returns true. -/
import Derived.Test.YtkikeanpbffpkaaChecked
import Derived.Deep.QuietTactic
import Derived.BigQuiet
import Derived.Deep.RegionWith
import Derived.Test.YtkikeanpbffpkaaGrCtx
import Derived.Test.YtkikeanpbffpkaaGrDrC
import Derived.Test.YtkikeanpbffpkaaGrSam
import Derived.Test.YtkikeanpbffpkaaGrSame
import Derived.Test.YtkikeanpbffpkaaGrCntI
import Derived.Test.YtkikeanpbffpkaaGrCntS
import Derived.Test.YtkikeanpbffpkaaCmdsV
import Derived.Test.YtkikeanpbffpkaaGrCyc
import Derived.Test.YtkikeanpbffpkaaRunH
import Derived.Test.YtkikeanpbffpkaaGrCntD
namespace Go.Proofs.Ytkikeanpbffpkaa
open Go.RowKit
set_option maxRecDepth 100000
set_option linter.unusedSimpArgs false
set_option linter.unusedVariables false
set_option maxHeartbeats 8000000 in
theorem walkCountsComplete (C : Option Addr) (bs : List Int) (c : Nat) (w : World) (hr : RF fu w C bs) (hb : ∀ x ∈ bs, 0 ≤ x ∧ x < 256) (hc : bs.length ≤ c) (hc2 : c ≤ 9223372036854775807) :
    Calls Try.prog 5 #[.slice C bs.length c] w fun e w' => e = .returned (.bool true) ∧ Below w.heap.size w w' := by
  by_cases hbig : 1048576 < bs.length
  · go_enter Try.func5, Try.ntmps5
    go_wp2
    go_ret
    exact ⟨rfl, blw_⟩
  go_enter Try.func5, Try.ntmps5
  go_wp2_with fail
  (with_reducible refine (drawRunCounted_any C bs c _ hr hb hc hc2).mono ?_); rintro e w1 ⟨L, S, cS, rfl, hS, hSB, hL, hB⟩
  have HS := hS.ro
  have hLl : L.length ≤ 9223372036854775807 := by omega
  clear hr hb hSB hS
  go_wp2_with fail
  refine Calls.gen (Stb (fun W => RO W S L ∧ Below w.heap.size w W)) (Stb.and (Stb.ro (HS.below blw_)) (Stb.here blw_)) ?_
  clear  HS hB
  rintro W HI
  obtain ⟨X, hX⟩ : ∃ X, Hid (X = runCountM L) := ⟨_, rfl⟩
  (with_reducible refine (implRunCounted_any S L cS _ HI.now.1 hLl).mono ?_); rw [← hX.out]; rintro e w2 ⟨v2, rfl, oH, hB⟩
  replace HI := HI.step hB
  clear hB
  have hV_x := oH.rc
  clear oH
  obtain ⟨A_x, n_x, B_x, m_x, C_x, k_x, rfl⟩ := hV_x.parts
  go_upto_region 5 with fail
  refine Code.gen (Stb (fun W => RCt W (.agg #[.slice A_x X.store.cells.length n_x, .slice B_x X.store.roots.length m_x, .slice C_x X.counts.length k_x]) X ∧ Bx W (w2.heap.size) [.slice A_x X.store.cells.length n_x, .slice B_x X.store.roots.length m_x, .slice C_x X.counts.length k_x] ∧ RO W S L ∧ Below w.heap.size w W)) (Stb.and (Stb.rct (hV_x.below blw_)) (Stb.and (Stb.bx (Bx.new w2 [.slice A_x X.store.cells.length n_x, .slice B_x X.store.roots.length m_x, .slice C_x X.counts.length k_x] 28)) (HI.step blw_))) ?_
  generalize w2.heap.size = bx_x
  clear HI hV_x 
  rintro W HI
  refine wp_region_R (by kernel_rfl) (fun R wd hR hwd => ?_)
  have hBd : Below W.heap.size W wd := by rw [hwd]; exact blw_
  replace HI := HI.step hBd
  clear hwd hBd
  refine rel_at (fr := ?fr_0) hR (fun f W => Stb (fun W => RCt W (.agg #[.slice A_x X.store.cells.length n_x, .slice B_x X.store.roots.length m_x, .slice C_x X.counts.length k_x]) X ∧ Bx W bx_x [.slice A_x X.store.cells.length n_x, .slice B_x X.store.roots.length m_x, .slice C_x X.counts.length k_x] ∧ RO W S L ∧ Below w.heap.size w W) W) [(fun v W => v = .agg #[.slice A_x X.store.cells.length n_x, .slice B_x X.store.roots.length m_x, .slice C_x X.counts.length k_x]), (fun v W => v = .slice S L.length cS), (fun v W => ∃ A_r2 n_r2 B_r2 m_r2 C_r2 k_r2, v = (.agg #[.slice A_r2 X.store.cells.length n_r2, .slice B_r2 X.store.roots.length m_r2, .slice C_r2 X.counts.length k_r2]) ∧ RCt W (.agg #[.slice A_r2 X.store.cells.length n_r2, .slice B_r2 X.store.roots.length m_r2, .slice C_r2 X.counts.length k_r2]) X), (fun v W => v = .bool true), (fun v W => v = .bool false)] (fun W W' => Below W.heap.size W W') [(0, []), (1, []), (2, [1]), (3, [0, 2, 1]), (4, [3, 0, 2, 1])] [(18, 0), (19, 1), (20, 2), (21, 3), (22, 4)] [0, 1, 2, 3, 4] #[true, true, true, true, true] 5 0 (by kernel_rfl) (by kernel_rfl) ?hfr_0 ?h0_0 ?mono_0 ?steps_0 ?_
  case hfr_0 => intro x; (simp [frOf, fill, Act.put, List.lookup]; with_reducible rfl)
  case h0_0 => exact HI
  case mono_0 => exact (Pm.cons (fun _ _ _ _ h => h) (Pm.cons (fun _ _ _ _ h => h) (Pm.cons (fun _ _ _ hG ⟨A_r2, n_r2, B_r2, m_r2, C_r2, k_r2, e, h⟩ => ⟨A_r2, n_r2, B_r2, m_r2, C_r2, k_r2, e, h.below hG⟩) (Pm.cons (fun _ _ _ _ h => h) (Pm.cons (fun _ _ _ _ h => h) Pm.nil)))))
  case steps_0 =>
    refine Steps.cons (RStep.of rfl fun x W f hI hD K9 hK => ?_) ?_
    · clear hD
      have c0 := hI.now.2.1.c 0 _ rfl
      have c1 := hI.now.2.1.c 1 _ rfl
      have c2 := hI.now.2.1.c 2 _ rfl
      go_simp
      exact hK (.agg #[.slice A_x X.store.cells.length n_x, .slice B_x X.store.roots.length m_x, .slice C_x X.counts.length k_x]) _ _ (by kernel_rfl) (Below.refl _ _) (hI) rfl
    refine Steps.cons (RStep.of rfl fun x W f hI hD K9 hK => ?_) ?_
    · clear hD
      go_simp
      exact hK (.slice S L.length cS) _ _ (by kernel_rfl) (Below.refl _ _) (hI) rfl
    refine Steps.cons (RStep.of rfl fun x W f hI hD K9 hK => ?_) ?_
    · have e1 : x 1 = .slice S L.length cS := hD 1 (by decide)
      clear hD
      simp only [e1] at hK ⊢
      go_wp2_with fail
      (with_reducible refine (specRunCounted_any S L cS _ hI.now.2.2.1 hLl).mono ?_); rw [← hX.out]
      rintro e w6 ⟨v6, rfl, oH, hB⟩
      obtain ⟨A_r2, n_r2, B_r2, m_r2, C_r2, k_r2, rfl⟩ := oH.rc.parts
      exact hK (.agg #[.slice A_r2 X.store.cells.length n_r2, .slice B_r2 X.store.roots.length m_r2, .slice C_r2 X.counts.length k_r2]) _ _ (by kernel_rfl) hB (hI.step hB) ⟨A_r2, n_r2, B_r2, m_r2, C_r2, k_r2, rfl, oH.rc⟩
    refine Steps.cons (RStep.of rfl fun x W f hI hD K9 hK => ?_) ?_
    · have e0 : x 0 = .agg #[.slice A_x X.store.cells.length n_x, .slice B_x X.store.roots.length m_x, .slice C_x X.counts.length k_x] := hD 0 (by decide)
      have h2 : (fun v W => ∃ A_r2 n_r2 B_r2 m_r2 C_r2 k_r2, v = (.agg #[.slice A_r2 X.store.cells.length n_r2, .slice B_r2 X.store.roots.length m_r2, .slice C_r2 X.counts.length k_r2]) ∧ RCt W (.agg #[.slice A_r2 X.store.cells.length n_r2, .slice B_r2 X.store.roots.length m_r2, .slice C_r2 X.counts.length k_r2]) X) (x 2) W := hD 2 (by decide)
      clear hD
      simp only [e0] at hK ⊢
      obtain ⟨A_r2, n_r2, B_r2, m_r2, C_r2, k_r2, e2, h2⟩ := h2
      simp only [e2] at hK ⊢
      go_wp2_with fail
      (with_reducible refine (sameCounted_eq _ _ X _ hI.now.1 h2).mono ?_)
      rintro e w6 ⟨rfl, hB⟩
      exact hK _ _ _ (by kernel_rfl) hB (hI.step hB) rfl
    refine Steps.cons (RStep.of rfl fun x W f hI hD K9 hK => ?_) ?_
    · have e3 : x 3 = .bool true := hD 3 (by decide)
      clear hD
      simp only [e3] at hK ⊢
      go_simp
      exact hK (.bool false) _ _ (by kernel_rfl) (Below.refl _ _) (hI) rfl
    exact Steps.nil
  intro x W hI hV
  have e0 : x 0 = .agg #[.slice A_x X.store.cells.length n_x, .slice B_x X.store.roots.length m_x, .slice C_x X.counts.length k_x] := hV 0 (by decide)
  have e1 : x 1 = .slice S L.length cS := hV 1 (by decide)
  have h2 : (fun v W => ∃ A_r2 n_r2 B_r2 m_r2 C_r2 k_r2, v = (.agg #[.slice A_r2 X.store.cells.length n_r2, .slice B_r2 X.store.roots.length m_r2, .slice C_r2 X.counts.length k_r2]) ∧ RCt W (.agg #[.slice A_r2 X.store.cells.length n_r2, .slice B_r2 X.store.roots.length m_r2, .slice C_r2 X.counts.length k_r2]) X) (x 2) W := hV 2 (by decide)
  have e3 : x 3 = .bool true := hV 3 (by decide)
  have e4 : x 4 = .bool false := hV 4 (by decide)
  clear hV
  simp only [e0, e1, e3, e4]
  clear h2
  rw [hR]
  refine wpAny_done (by kernel_rfl) ?_ _
  clear hR
  replace HI := hI
  clear hI
  go_wp2_with fail
  refine Calls.gen (Stb (fun W => RCt W (.agg #[.slice A_x X.store.cells.length n_x, .slice B_x X.store.roots.length m_x, .slice C_x X.counts.length k_x]) X ∧ Bx W bx_x [.slice A_x X.store.cells.length n_x, .slice B_x X.store.roots.length m_x, .slice C_x X.counts.length k_x] ∧ RO W S L ∧ Below w.heap.size w W)) (HI.step blw_) ?_
  clear HI 
  rintro W HI
  (with_reducible refine (specCommandsValid_any S L cS _ HI.now.2.2.1 hLl).mono ?_); rintro e w2 ⟨rfl, hB⟩
  replace HI := HI.step hB
  clear hB
  rcases bool_ft (cmdsOk L) with hk | hk
  · rw [hk]
    clear hk
    go_wp2_with fail
    refine Calls.gen (Stb (fun W => RCt W (.agg #[.slice A_x X.store.cells.length n_x, .slice B_x X.store.roots.length m_x, .slice C_x X.counts.length k_x]) X ∧ Bx W bx_x [.slice A_x X.store.cells.length n_x, .slice B_x X.store.roots.length m_x, .slice C_x X.counts.length k_x] ∧ RO W S L ∧ Below w.heap.size w W)) (HI.step blw_) ?_
    clear HI 
    rintro W HI
    (with_reducible refine (alive_any _).mono ?_); rintro e w2 ⟨rfl, hB⟩
    replace HI := HI.step hB
    clear hB
    have HB := HI.now.2.2.2
    have zB := HB.size
    clear HI
    go_wp2_with fail
    go_ret
    exact ⟨rfl, blw_⟩
  have HL : Hid ((usedCellsM (cycM X.store)).1 = (usedCellsM (runM L)).2) := by rw [hX.out]; exact law_CountsComplete hk
  have HOK : Hid (countOk X = true) := by rw [hX.out]; exact (law_RunCounted hk).1
  rw [hk]
  clear hk
  obtain ⟨Y, hY⟩ : ∃ Y : CountM, Hid (Y = ⟨cycM X.store, cntsM (cycM X.store)⟩) := ⟨_, rfl⟩
  have HLY : Hid ((usedCellsM Y.store).1 = (usedCellsM (runM L)).2) := by rw [hY.out]; exact HL.out
  have c_x0 := HI.now.2.1.c 0 _ rfl
  have c_x1 := HI.now.2.1.c 1 _ rfl
  have c_x2 := HI.now.2.1.c 2 _ rfl
  have z_x := HI.now.2.1.lt
  go_wp2_with fail
  refine Calls.gen (Stb (fun W => RCt W (.agg #[.slice A_x X.store.cells.length n_x, .slice B_x X.store.roots.length m_x, .slice C_x X.counts.length k_x]) X ∧ Bx W bx_x [.slice A_x X.store.cells.length n_x, .slice B_x X.store.roots.length m_x, .slice C_x X.counts.length k_x] ∧ RO W S L ∧ Below w.heap.size w W)) (HI.step blw_) ?_
  clear c_x0 c_x1 c_x2 z_x
  clear HI 
  rintro W HI
  (with_reducible refine (collectCycles_any _ X _ HI.now.1 HOK.out).mono ?_); rw [← hY.out]; rintro e w2 ⟨v2, z, rfl, oH, hB⟩
  replace HI := HI.step hB
  clear hB
  have hV_y := oH
  skip
  obtain ⟨A_y, n_y, B_y, m_y, C_y, k_y, rfl⟩ := hV_y.parts
  clear oH
  go_upto_region 10 with fail
  refine Code.gen (Stb (fun W => RCt W (.agg #[.slice A_y Y.store.cells.length n_y, .slice B_y Y.store.roots.length m_y, .slice C_y Y.counts.length k_y]) Y ∧ Bx W (w2.heap.size) [.slice A_y Y.store.cells.length n_y, .slice B_y Y.store.roots.length m_y, .slice C_y Y.counts.length k_y] ∧ RCt W (.agg #[.slice A_x X.store.cells.length n_x, .slice B_x X.store.roots.length m_x, .slice C_x X.counts.length k_x]) X ∧ Bx W bx_x [.slice A_x X.store.cells.length n_x, .slice B_x X.store.roots.length m_x, .slice C_x X.counts.length k_x] ∧ RO W S L ∧ Below w.heap.size w W)) (Stb.and (Stb.rct (hV_y.below blw_)) (Stb.and (Stb.bx (Bx.new w2 [.slice A_y Y.store.cells.length n_y, .slice B_y Y.store.roots.length m_y, .slice C_y Y.counts.length k_y] 28)) (HI.step blw_))) ?_
  generalize w2.heap.size = bx_y
  clear HI hV_y 
  rintro W HI
  have c_y0 := HI.now.2.1.c 0 _ rfl
  have c_y1 := HI.now.2.1.c 1 _ rfl
  have c_y2 := HI.now.2.1.c 2 _ rfl
  have z_y := HI.now.2.1.lt
  go_wp2_with fail
  refine Calls.gen (Stb (fun W => RCt W (.agg #[.slice A_y Y.store.cells.length n_y, .slice B_y Y.store.roots.length m_y, .slice C_y Y.counts.length k_y]) Y ∧ Bx W bx_y [.slice A_y Y.store.cells.length n_y, .slice B_y Y.store.roots.length m_y, .slice C_y Y.counts.length k_y] ∧ RCt W (.agg #[.slice A_x X.store.cells.length n_x, .slice B_x X.store.roots.length m_x, .slice C_x X.counts.length k_x]) X ∧ Bx W bx_x [.slice A_x X.store.cells.length n_x, .slice B_x X.store.roots.length m_x, .slice C_x X.counts.length k_x] ∧ RO W S L ∧ Below w.heap.size w W)) (HI.step blw_) ?_
  clear c_y0 c_y1 c_y2 z_y
  clear HI 
  rintro W HI
  (with_reducible refine (usedCells_any _ Y.store _ (HI.now.1).st).mono ?_); rintro e w2 ⟨rfl, hB⟩
  replace HI := HI.step hB
  clear hB
  rw [HLY.out]
  go_wp2_with fail
  refine Calls.gen (Stb (fun W => RCt W (.agg #[.slice A_y Y.store.cells.length n_y, .slice B_y Y.store.roots.length m_y, .slice C_y Y.counts.length k_y]) Y ∧ Bx W bx_y [.slice A_y Y.store.cells.length n_y, .slice B_y Y.store.roots.length m_y, .slice C_y Y.counts.length k_y] ∧ RCt W (.agg #[.slice A_x X.store.cells.length n_x, .slice B_x X.store.roots.length m_x, .slice C_x X.counts.length k_x]) X ∧ Bx W bx_x [.slice A_x X.store.cells.length n_x, .slice B_x X.store.roots.length m_x, .slice C_x X.counts.length k_x] ∧ RO W S L ∧ Below w.heap.size w W)) (HI.step blw_) ?_
  clear HI 
  rintro W HI
  (with_reducible refine (implRunHeap_any S L cS _ HI.now.2.2.2.2.1 hLl).mono ?_); rintro e w2 ⟨v2, rfl, oH, hB⟩
  have hV2 := oH.rh
  clear oH
  replace HI := HI.step hB
  clear hB
  obtain ⟨A_z, n_z, B_z, m_z, rfl⟩ := hV2.parts
  go_wp2_with fail
  refine Calls.gen (Stb (fun W => RH W (.agg #[.slice A_z (runM L).cells.length n_z, .slice B_z (runM L).roots.length m_z]) (runM L) ∧ RCt W (.agg #[.slice A_y Y.store.cells.length n_y, .slice B_y Y.store.roots.length m_y, .slice C_y Y.counts.length k_y]) Y ∧ Bx W bx_y [.slice A_y Y.store.cells.length n_y, .slice B_y Y.store.roots.length m_y, .slice C_y Y.counts.length k_y] ∧ RCt W (.agg #[.slice A_x X.store.cells.length n_x, .slice B_x X.store.roots.length m_x, .slice C_x X.counts.length k_x]) X ∧ Bx W bx_x [.slice A_x X.store.cells.length n_x, .slice B_x X.store.roots.length m_x, .slice C_x X.counts.length k_x] ∧ RO W S L ∧ Below w.heap.size w W)) (Stb.and (Stb.rh (hV2.below blw_)) (HI.step blw_)) ?_
  clear HI hV2
  rintro W HI
  (with_reducible refine (usedCells_any _ (runM L) _ HI.now.1).mono ?_); rintro e w2 ⟨rfl, hB⟩
  replace HI := HI.step hB
  clear hB
  have HB := HI.now.2.2.2.2.2.2
  have zB := HB.size
  clear HI
  go_wp2_with fail
  go_ret
  exact ⟨rfl, blw_⟩
end Go.Proofs.Ytkikeanpbffpkaa
