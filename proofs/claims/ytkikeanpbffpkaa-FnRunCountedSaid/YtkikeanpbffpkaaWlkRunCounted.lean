/- FnRunCounted: the law's call returns true. -/
import Derived.Test.YtkikeanpbffpkaaChecked
import Derived.Deep.QuietTactic
import Derived.BigQuiet
import Derived.Deep.RegionWith
import Derived.Test.YtkikeanpbffpkaaGrCtx
import Derived.Test.YtkikeanpbffpkaaGrDrC
import Derived.Test.YtkikeanpbffpkaaGrSam
import Derived.Test.YtkikeanpbffpkaaGrSame
import Derived.Test.YtkikeanpbffpkaaGrCntI
import Derived.Test.YtkikeanpbffpkaaGrCntS
import Derived.Test.YtkikeanpbffpkaaCmdsV
import Derived.Test.YtkikeanpbffpkaaRunH
import Derived.Test.YtkikeanpbffpkaaViewI
import Derived.Test.YtkikeanpbffpkaaGrCntD
namespace Go.Proofs.Ytkikeanpbffpkaa
open Go.RowKit
set_option maxRecDepth 100000
set_option linter.unusedSimpArgs false
set_option linter.unusedVariables false
set_option maxHeartbeats 8000000 in
theorem walkRunCounted (C : Option Addr) (bs : List Int) (c : Nat) (w : World) (hr : RF fu w C bs) (hb : ∀ x ∈ bs, 0 ≤ x ∧ x < 256) (hc : bs.length ≤ c) (hc2 : c ≤ 9223372036854775807) :
    Calls Try.prog 4 #[.slice C bs.length c] w fun e w' => e = .returned (.bool true) ∧ Below w.heap.size w w' := by
  by_cases hbig : 1048576 < bs.length
  · go_enter Try.func4, Try.ntmps4
    go_wp2
    go_ret
    exact ⟨rfl, blw_⟩
  go_enter Try.func4, Try.ntmps4
  go_wp2_with fail
  (with_reducible refine (drawRunCounted_any C bs c _ hr hb hc hc2).mono ?_); rintro e w1 ⟨L, S, cS, rfl, hS, hSB, hL, hB⟩
  have HS := hS.ro
  have hLl : L.length ≤ 9223372036854775807 := by omega
  clear hr hb hSB hS
  go_wp2_with fail
  refine Calls.gen (Stb (fun W => RO W S L ∧ Below w.heap.size w W)) (Stb.and (Stb.ro (HS.below blw_)) (Stb.here blw_)) ?_
  clear  HS hB
  rintro W HI
  obtain ⟨X, hX⟩ : ∃ X, Hid (X = runCountM L) := ⟨_, rfl⟩
  (with_reducible refine (implRunCounted_any S L cS _ HI.now.1 hLl).mono ?_); rw [← hX.out]; rintro e w2 ⟨v2, rfl, oH, hB⟩
  replace HI := HI.step hB
  clear hB
  have hV_x := oH.rc
  clear oH
  obtain ⟨A_x, n_x, B_x, m_x, C_x, k_x, rfl⟩ := hV_x.parts
  go_upto_region 5 with fail
  refine Code.gen (Stb (fun W => RCt W (.agg #[.slice A_x X.store.cells.length n_x, .slice B_x X.store.roots.length m_x, .slice C_x X.counts.length k_x]) X ∧ Bx W (w2.heap.size) [.slice A_x X.store.cells.length n_x, .slice B_x X.store.roots.length m_x, .slice C_x X.counts.length k_x] ∧ RO W S L ∧ Below w.heap.size w W)) (Stb.and (Stb.rct (hV_x.below blw_)) (Stb.and (Stb.bx (Bx.new w2 [.slice A_x X.store.cells.length n_x, .slice B_x X.store.roots.length m_x, .slice C_x X.counts.length k_x] 28)) (HI.step blw_))) ?_
  generalize w2.heap.size = bx_x
  clear HI hV_x 
  rintro W HI
  refine wp_region_R (by kernel_rfl) (fun R wd hR hwd => ?_)
  have hBd : Below W.heap.size W wd := by rw [hwd]; exact blw_
  replace HI := HI.step hBd
  clear hwd hBd
  refine rel_at (fr := ?fr_0) hR (fun f W => Stb (fun W => RCt W (.agg #[.slice A_x X.store.cells.length n_x, .slice B_x X.store.roots.length m_x, .slice C_x X.counts.length k_x]) X ∧ Bx W bx_x [.slice A_x X.store.cells.length n_x, .slice B_x X.store.roots.length m_x, .slice C_x X.counts.length k_x] ∧ RO W S L ∧ Below w.heap.size w W) W) [(fun v W => v = .agg #[.slice A_x X.store.cells.length n_x, .slice B_x X.store.roots.length m_x, .slice C_x X.counts.length k_x]), (fun v W => v = .slice S L.length cS), (fun v W => ∃ A_r2 n_r2 B_r2 m_r2 C_r2 k_r2, v = (.agg #[.slice A_r2 X.store.cells.length n_r2, .slice B_r2 X.store.roots.length m_r2, .slice C_r2 X.counts.length k_r2]) ∧ RCt W (.agg #[.slice A_r2 X.store.cells.length n_r2, .slice B_r2 X.store.roots.length m_r2, .slice C_r2 X.counts.length k_r2]) X), (fun v W => v = .bool true), (fun v W => v = .bool false)] (fun W W' => Below W.heap.size W W') [(0, []), (1, []), (2, [1]), (3, [0, 2, 1]), (4, [3, 0, 2, 1])] [(14, 0), (15, 1), (16, 2), (17, 3), (18, 4)] [0, 1, 2, 3, 4] #[true, true, true, true, true] 5 0 (by kernel_rfl) (by kernel_rfl) ?hfr_0 ?h0_0 ?mono_0 ?steps_0 ?_
  case hfr_0 => intro x; (simp [frOf, fill, Act.put, List.lookup]; with_reducible rfl)
  case h0_0 => exact HI
  case mono_0 => exact (Pm.cons (fun _ _ _ _ h => h) (Pm.cons (fun _ _ _ _ h => h) (Pm.cons (fun _ _ _ hG ⟨A_r2, n_r2, B_r2, m_r2, C_r2, k_r2, e, h⟩ => ⟨A_r2, n_r2, B_r2, m_r2, C_r2, k_r2, e, h.below hG⟩) (Pm.cons (fun _ _ _ _ h => h) (Pm.cons (fun _ _ _ _ h => h) Pm.nil)))))
  case steps_0 =>
    refine Steps.cons (RStep.of rfl fun x W f hI hD K9 hK => ?_) ?_
    · clear hD
      have c0 := hI.now.2.1.c 0 _ rfl
      have c1 := hI.now.2.1.c 1 _ rfl
      have c2 := hI.now.2.1.c 2 _ rfl
      go_simp
      exact hK (.agg #[.slice A_x X.store.cells.length n_x, .slice B_x X.store.roots.length m_x, .slice C_x X.counts.length k_x]) _ _ (by kernel_rfl) (Below.refl _ _) (hI) rfl
    refine Steps.cons (RStep.of rfl fun x W f hI hD K9 hK => ?_) ?_
    · clear hD
      go_simp
      exact hK (.slice S L.length cS) _ _ (by kernel_rfl) (Below.refl _ _) (hI) rfl
    refine Steps.cons (RStep.of rfl fun x W f hI hD K9 hK => ?_) ?_
    · have e1 : x 1 = .slice S L.length cS := hD 1 (by decide)
      clear hD
      simp only [e1] at hK ⊢
      go_wp2_with fail
      (with_reducible refine (specRunCounted_any S L cS _ hI.now.2.2.1 hLl).mono ?_); rw [← hX.out]
      rintro e w6 ⟨v6, rfl, oH, hB⟩
      obtain ⟨A_r2, n_r2, B_r2, m_r2, C_r2, k_r2, rfl⟩ := oH.rc.parts
      exact hK (.agg #[.slice A_r2 X.store.cells.length n_r2, .slice B_r2 X.store.roots.length m_r2, .slice C_r2 X.counts.length k_r2]) _ _ (by kernel_rfl) hB (hI.step hB) ⟨A_r2, n_r2, B_r2, m_r2, C_r2, k_r2, rfl, oH.rc⟩
    refine Steps.cons (RStep.of rfl fun x W f hI hD K9 hK => ?_) ?_
    · have e0 : x 0 = .agg #[.slice A_x X.store.cells.length n_x, .slice B_x X.store.roots.length m_x, .slice C_x X.counts.length k_x] := hD 0 (by decide)
      have h2 : (fun v W => ∃ A_r2 n_r2 B_r2 m_r2 C_r2 k_r2, v = (.agg #[.slice A_r2 X.store.cells.length n_r2, .slice B_r2 X.store.roots.length m_r2, .slice C_r2 X.counts.length k_r2]) ∧ RCt W (.agg #[.slice A_r2 X.store.cells.length n_r2, .slice B_r2 X.store.roots.length m_r2, .slice C_r2 X.counts.length k_r2]) X) (x 2) W := hD 2 (by decide)
      clear hD
      simp only [e0] at hK ⊢
      obtain ⟨A_r2, n_r2, B_r2, m_r2, C_r2, k_r2, e2, h2⟩ := h2
      simp only [e2] at hK ⊢
      go_wp2_with fail
      (with_reducible refine (sameCounted_eq _ _ X _ hI.now.1 h2).mono ?_)
      rintro e w6 ⟨rfl, hB⟩
      exact hK _ _ _ (by kernel_rfl) hB (hI.step hB) rfl
    refine Steps.cons (RStep.of rfl fun x W f hI hD K9 hK => ?_) ?_
    · have e3 : x 3 = .bool true := hD 3 (by decide)
      clear hD
      simp only [e3] at hK ⊢
      go_simp
      exact hK (.bool false) _ _ (by kernel_rfl) (Below.refl _ _) (hI) rfl
    exact Steps.nil
  intro x W hI hV
  have e0 : x 0 = .agg #[.slice A_x X.store.cells.length n_x, .slice B_x X.store.roots.length m_x, .slice C_x X.counts.length k_x] := hV 0 (by decide)
  have e1 : x 1 = .slice S L.length cS := hV 1 (by decide)
  have h2 : (fun v W => ∃ A_r2 n_r2 B_r2 m_r2 C_r2 k_r2, v = (.agg #[.slice A_r2 X.store.cells.length n_r2, .slice B_r2 X.store.roots.length m_r2, .slice C_r2 X.counts.length k_r2]) ∧ RCt W (.agg #[.slice A_r2 X.store.cells.length n_r2, .slice B_r2 X.store.roots.length m_r2, .slice C_r2 X.counts.length k_r2]) X) (x 2) W := hV 2 (by decide)
  have e3 : x 3 = .bool true := hV 3 (by decide)
  have e4 : x 4 = .bool false := hV 4 (by decide)
  clear hV
  simp only [e0, e1, e3, e4]
  clear h2
  rw [hR]
  refine wpAny_done (by kernel_rfl) ?_ _
  clear hR
  replace HI := hI
  clear hI
  go_wp2_with fail
  refine Calls.gen (Stb (fun W => RCt W (.agg #[.slice A_x X.store.cells.length n_x, .slice B_x X.store.roots.length m_x, .slice C_x X.counts.length k_x]) X ∧ Bx W bx_x [.slice A_x X.store.cells.length n_x, .slice B_x X.store.roots.length m_x, .slice C_x X.counts.length k_x] ∧ RO W S L ∧ Below w.heap.size w W)) (HI.step blw_) ?_
  clear HI 
  rintro W HI
  (with_reducible refine (specCommandsValid_any S L cS _ HI.now.2.2.1 hLl).mono ?_); rintro e w2 ⟨rfl, hB⟩
  replace HI := HI.step hB
  clear hB
  rcases bool_ft (cmdsOk L) with hk | hk
  · have hx0 : X.store.roots.length = 0 := by rw [hX.out, runCountM_bad hk]; rfl
    have c_x0 := HI.now.2.1.c 0 _ rfl
    have c_x1 := HI.now.2.1.c 1 _ rfl
    have c_x2 := HI.now.2.1.c 2 _ rfl
    have z_x := HI.now.2.1.lt
    rw [hx0] at c_x1
    rw [hk]
    clear hx0 hk
    go_wp2_with fail
    refine Calls.gen (Stb (fun W => RCt W (.agg #[.slice A_x X.store.cells.length n_x, .slice B_x X.store.roots.length m_x, .slice C_x X.counts.length k_x]) X ∧ Bx W bx_x [.slice A_x X.store.cells.length n_x, .slice B_x X.store.roots.length m_x, .slice C_x X.counts.length k_x] ∧ RO W S L ∧ Below w.heap.size w W)) (HI.step blw_) ?_
    clear c_x0 c_x1 c_x2 z_x
    clear HI 
    rintro W HI
    (with_reducible refine (alive_any _).mono ?_); rintro e w2 ⟨rfl, hB⟩
    replace HI := HI.step hB
    clear hB
    have HB := HI.now.2.2.2
    have zB := HB.size
    clear HI
    go_wp2_with fail
    go_ret
    exact ⟨rfl, blw_⟩
  have HL := Lib.hid (law_RunCounted hk)
  rw [← hX.out] at HL
  rw [hk]
  clear hk
  have c_x0 := HI.now.2.1.c 0 _ rfl
  have c_x1 := HI.now.2.1.c 1 _ rfl
  have c_x2 := HI.now.2.1.c 2 _ rfl
  have z_x := HI.now.2.1.lt
  go_wp2_with fail
  refine Calls.gen (Stb (fun W => RCt W (.agg #[.slice A_x X.store.cells.length n_x, .slice B_x X.store.roots.length m_x, .slice C_x X.counts.length k_x]) X ∧ Bx W bx_x [.slice A_x X.store.cells.length n_x, .slice B_x X.store.roots.length m_x, .slice C_x X.counts.length k_x] ∧ RO W S L ∧ Below w.heap.size w W)) (HI.step blw_) ?_
  clear c_x0 c_x1 c_x2 z_x
  clear HI 
  rintro W HI
  (with_reducible refine (leakedCells_any _ X.store _ (HI.now.1).st).mono ?_); rintro e w2 ⟨v2, rfl, ⟨S2, c2, rfl, HS2⟩, hB⟩
  have HLK := Lib.hid HS2
  clear HS2
  replace HI := HI.step hB
  clear hB
  have c_x0 := HI.now.2.1.c 0 _ rfl
  have c_x1 := HI.now.2.1.c 1 _ rfl
  have c_x2 := HI.now.2.1.c 2 _ rfl
  have z_x := HI.now.2.1.lt
  have HC2 := HI.now.1.co
  have hl40 := Lib.hid (valid_small (countOk_iff.1 HL.out.1).1).1
  have hlk : Hid ((leakM X.store).length ≤ 40) := by have h9 := leakN_len X.store X.store.cells.length; rw [← leakM_is (countOk_iff.1 HL.out.1).1] at h9; have := hl40.out; unfold Hid; omega
  go_wp2_with fail
  go_loopw [6] (fun s6 wr => ∃ k : Nat, s6 = .int .i64 (k : Int) ∧ k ≤ (leakM X.store).length ∧ ∃ n, wr = w2.drewN n) (fun s6 _ => (leakM X.store).length - (intOf s6).toNat)
  case atStart => exact ⟨0, rfl, by omega, 0, rfl⟩
  case round =>
    obtain ⟨k, rfl, hk, n9, rfl⟩ := hrel
    by_cases hlt : k < (leakM X.store).length
    · obtain ⟨b1, o1, r, rfl, g1, m1, -⟩ := HLK.out.at_ hlt
      obtain ⟨q, rfl, hq1, hq2⟩ := leak_counted HL.out.1 HL.out.2.1 (List.mem_of_getElem? g1)
      obtain ⟨b2, o2, y2, rfl, g2, m2, -⟩ := HC2.at_ hq1
      have q1 : w2.cell? ⟨b1, o1 + k, none⟩ = some (.int .i64 (q : Int)) := m1
      have q2 : w2.cell? ⟨b2, o2 + q, none⟩ = some (.int .i64 y2) := m2
      have hy : ¬ y2 = 0 := by rw [List.getD_eq_getElem?_getD, g2] at hq2; exact hq2
      have hy2 : (y2 == 0) = false := by rw [beq_eq_false_iff_ne]; exact hy
      have i0 : (0 : Int) ≤ (k : Int) := by omega
      have i1 : (k : Int) < ((leakM X.store).length : Int) := by omega
      have i3 : (k : Int) + 1 < 9223372036854775807 := by have := hlk.out; omega
      have j0 : (0 : Int) ≤ (q : Int) := by omega
      have j1 : ¬ ((q : Int) < 0) := by omega
      have j2 : (q : Int) < (X.counts.length : Int) := by omega
      have j3 : ¬ (X.counts.length ≤ q) := by omega
      clear g1 g2 m1 m2 HI hq1 hq2
      go_wp2
      go_quiet (fail)
      have hd : decide ((q : Int) < 0) = false := decide_eq_false (by omega)
      simp only [hd]
      clear hd
      clear j0 j1 j2 j3 hy hy2 q1 q2
      go_wp2
      go_roundw
      case rel => exact ⟨k + 1, by go_num, by omega, _, by first | rfl | (simp; rfl)⟩
      case measure => simp [intOf]; omega
    · have i4 : ¬ (k : Int) < ((leakM X.store).length : Int) := by omega
      clear HC2 HLK
      go_upto_region 15 with fail
      refine Code.gen (Stb (fun W => RCt W (.agg #[.slice A_x X.store.cells.length n_x, .slice B_x X.store.roots.length m_x, .slice C_x X.counts.length k_x]) X ∧ Bx W bx_x [.slice A_x X.store.cells.length n_x, .slice B_x X.store.roots.length m_x, .slice C_x X.counts.length k_x] ∧ RO W S L ∧ Below w.heap.size w W)) (HI.step blw_) ?_
      clear c_x0 c_x1 c_x2 z_x
      clear HI 
      rintro W HI
      refine wp_region_R (by kernel_rfl) (fun R wd hR hwd => ?_)
      have hBd : Below W.heap.size W wd := by rw [hwd]; exact blw_
      replace HI := HI.step hBd
      clear hwd hBd
      refine rel_at (fr := ?fr_1) hR (fun f W => Stb (fun W => RCt W (.agg #[.slice A_x X.store.cells.length n_x, .slice B_x X.store.roots.length m_x, .slice C_x X.counts.length k_x]) X ∧ Bx W bx_x [.slice A_x X.store.cells.length n_x, .slice B_x X.store.roots.length m_x, .slice C_x X.counts.length k_x] ∧ RO W S L ∧ Below w.heap.size w W) W) [(fun v W => v = .agg #[.slice A_x X.store.cells.length n_x, .slice B_x X.store.roots.length m_x, .slice C_x X.counts.length k_x]), (fun v W => v = .bool true), (fun v W => v = .bool true), (fun v W => v = .pointer (some ⟨bx_x, 0, none⟩)), (fun v W => v = .agg #[.slice A_x X.store.cells.length n_x, .slice B_x X.store.roots.length m_x]), (fun v W => v = .slice S L.length cS), (fun v W => ∃ A_r6 n_r6 B_r6 m_r6, v = (.agg #[.slice A_r6 (runM L).cells.length n_r6, .slice B_r6 (runM L).roots.length m_r6]) ∧ RH W (.agg #[.slice A_r6 (runM L).cells.length n_r6, .slice B_r6 (runM L).roots.length m_r6]) (runM L)), (fun v W => v = .bool true), (fun v W => v = .bool true), (fun v W => v = .bool true)] (fun W W' => Below W.heap.size W W') [(0, []), (1, [0]), (2, [1, 0]), (3, [2, 1, 0]), (4, [2, 1, 0, 3]), (5, [2, 1, 0]), (6, [2, 1, 0, 5]), (7, [2, 1, 0, 4, 3, 6, 5]), (8, [2, 1, 0, 7, 4, 3, 6, 5]), (9, [8, 2, 1, 0, 7, 4, 3, 6, 5])] [(65, 0), (66, 1), (67, 2), (68, 3), (69, 4), (70, 5), (71, 6), (72, 7), (73, 8), (2, 9)] [0, 1, 2, 3, 4, 5, 6, 7, 8, 9] #[true, true, true, true, true, true, true, true, true, true] 10 0 (by kernel_rfl) (by kernel_rfl) ?hfr_1 ?h0_1 ?mono_1 ?steps_1 ?_
      case hfr_1 => intro x; (simp [frOf, fill, Act.put, List.lookup]; with_reducible rfl)
      case h0_1 => exact HI
      case mono_1 => exact (Pm.cons (fun _ _ _ _ h => h) (Pm.cons (fun _ _ _ _ h => h) (Pm.cons (fun _ _ _ _ h => h) (Pm.cons (fun _ _ _ _ h => h) (Pm.cons (fun _ _ _ _ h => h) (Pm.cons (fun _ _ _ _ h => h) (Pm.cons (fun _ _ _ hG ⟨A_r6, n_r6, B_r6, m_r6, e, h⟩ => ⟨A_r6, n_r6, B_r6, m_r6, e, h.below hG⟩) (Pm.cons (fun _ _ _ _ h => h) (Pm.cons (fun _ _ _ _ h => h) (Pm.cons (fun _ _ _ _ h => h) Pm.nil))))))))))
      case steps_1 =>
        refine Steps.cons (RStep.of rfl fun x W f hI hD K9 hK => ?_) ?_
        · clear hD
          have c0 := hI.now.2.1.c 0 _ rfl
          have c1 := hI.now.2.1.c 1 _ rfl
          have c2 := hI.now.2.1.c 2 _ rfl
          go_simp
          exact hK (.agg #[.slice A_x X.store.cells.length n_x, .slice B_x X.store.roots.length m_x, .slice C_x X.counts.length k_x]) _ _ (by kernel_rfl) (Below.refl _ _) (hI) rfl
        refine Steps.cons (RStep.of rfl fun x W f hI hD K9 hK => ?_) ?_
        · have e0 : x 0 = .agg #[.slice A_x X.store.cells.length n_x, .slice B_x X.store.roots.length m_x, .slice C_x X.counts.length k_x] := hD 0 (by decide)
          clear hD
          simp only [e0] at hK ⊢
          go_wp2_with fail
          (with_reducible refine (implCountedValid_any _ X _ hI.now.1).mono ?_); rw [HL.out.1]
          rintro e w6 ⟨rfl, hB⟩
          exact hK _ _ _ (by kernel_rfl) hB (hI.step hB) rfl
        refine Steps.cons (RStep.of rfl fun x W f hI hD K9 hK => ?_) ?_
        · have e1 : x 1 = .bool true := hD 1 (by decide)
          clear hD
          simp only [e1] at hK ⊢
          go_simp
          exact hK (.bool true) _ _ (by kernel_rfl) (Below.refl _ _) (hI) rfl
        refine Steps.cons (RStep.of rfl fun x W f hI hD K9 hK => ?_) ?_
        · have e2 : x 2 = .bool true := hD 2 (by decide)
          clear hD
          simp only [e2] at hK ⊢
          go_simp
          exact hK (.pointer (some ⟨bx_x, 0, none⟩)) _ _ (by kernel_rfl) (Below.refl _ _) (hI) rfl
        refine Steps.cons (RStep.of rfl fun x W f hI hD K9 hK => ?_) ?_
        · have e2 : x 2 = .bool true := hD 2 (by decide)
          have e3 : x 3 = .pointer (some ⟨bx_x, 0, none⟩) := hD 3 (by decide)
          clear hD
          have c0 := hI.now.2.1.c 0 _ rfl
          have c1 := hI.now.2.1.c 1 _ rfl
          simp only [e2, e3] at hK ⊢
          go_simp
          exact hK (.agg #[.slice A_x X.store.cells.length n_x, .slice B_x X.store.roots.length m_x]) _ _ (by kernel_rfl) (Below.refl _ _) (hI) rfl
        refine Steps.cons (RStep.of rfl fun x W f hI hD K9 hK => ?_) ?_
        · have e2 : x 2 = .bool true := hD 2 (by decide)
          clear hD
          simp only [e2] at hK ⊢
          go_simp
          exact hK (.slice S L.length cS) _ _ (by kernel_rfl) (Below.refl _ _) (hI) rfl
        refine Steps.cons (RStep.of rfl fun x W f hI hD K9 hK => ?_) ?_
        · have e2 : x 2 = .bool true := hD 2 (by decide)
          have e5 : x 5 = .slice S L.length cS := hD 5 (by decide)
          clear hD
          simp only [e2, e5] at hK ⊢
          go_wp2_with fail
          (with_reducible refine (implRunHeap_any S L cS _ hI.now.2.2.1 hLl).mono ?_)
          rintro e w6 ⟨v6, rfl, oH, hB⟩
          obtain ⟨A_r6, n_r6, B_r6, m_r6, rfl⟩ := oH.rh.parts
          exact hK (.agg #[.slice A_r6 (runM L).cells.length n_r6, .slice B_r6 (runM L).roots.length m_r6]) _ _ (by kernel_rfl) hB (hI.step hB) ⟨A_r6, n_r6, B_r6, m_r6, rfl, oH.rh⟩
        refine Steps.cons (RStep.of rfl fun x W f hI hD K9 hK => ?_) ?_
        · have e2 : x 2 = .bool true := hD 2 (by decide)
          have e4 : x 4 = .agg #[.slice A_x X.store.cells.length n_x, .slice B_x X.store.roots.length m_x] := hD 4 (by decide)
          have h6 : (fun v W => ∃ A_r6 n_r6 B_r6 m_r6, v = (.agg #[.slice A_r6 (runM L).cells.length n_r6, .slice B_r6 (runM L).roots.length m_r6]) ∧ RH W (.agg #[.slice A_r6 (runM L).cells.length n_r6, .slice B_r6 (runM L).roots.length m_r6]) (runM L)) (x 6) W := hD 6 (by decide)
          clear hD
          simp only [e2, e4] at hK ⊢
          obtain ⟨A_r6, n_r6, B_r6, m_r6, e6, h6⟩ := h6
          simp only [e6] at hK ⊢
          go_wp2_with fail
          (with_reducible refine (sameView_any _ _ X.store (runM L) _ (hI.now.1).st h6).mono ?_); rw [HL.out.2.2]
          rintro e w6 ⟨rfl, hB⟩
          exact hK _ _ _ (by kernel_rfl) hB (hI.step hB) rfl
        refine Steps.cons (RStep.of rfl fun x W f hI hD K9 hK => ?_) ?_
        · have e2 : x 2 = .bool true := hD 2 (by decide)
          have e7 : x 7 = .bool true := hD 7 (by decide)
          clear hD
          simp only [e2, e7] at hK ⊢
          go_simp
          exact hK (.bool true) _ _ (by kernel_rfl) (Below.refl _ _) (hI) rfl
        refine Steps.cons (RStep.of rfl fun x W f hI hD K9 hK => ?_) ?_
        · have e8 : x 8 = .bool true := hD 8 (by decide)
          clear hD
          simp only [e8] at hK ⊢
          go_simp
          exact hK (.bool true) _ _ (by kernel_rfl) (Below.refl _ _) (hI) rfl
        exact Steps.nil
      intro x W hI hV
      have e0 : x 0 = .agg #[.slice A_x X.store.cells.length n_x, .slice B_x X.store.roots.length m_x, .slice C_x X.counts.length k_x] := hV 0 (by decide)
      have e1 : x 1 = .bool true := hV 1 (by decide)
      have e2 : x 2 = .bool true := hV 2 (by decide)
      have e3 : x 3 = .pointer (some ⟨bx_x, 0, none⟩) := hV 3 (by decide)
      have e4 : x 4 = .agg #[.slice A_x X.store.cells.length n_x, .slice B_x X.store.roots.length m_x] := hV 4 (by decide)
      have e5 : x 5 = .slice S L.length cS := hV 5 (by decide)
      have h6 : (fun v W => ∃ A_r6 n_r6 B_r6 m_r6, v = (.agg #[.slice A_r6 (runM L).cells.length n_r6, .slice B_r6 (runM L).roots.length m_r6]) ∧ RH W (.agg #[.slice A_r6 (runM L).cells.length n_r6, .slice B_r6 (runM L).roots.length m_r6]) (runM L)) (x 6) W := hV 6 (by decide)
      have e7 : x 7 = .bool true := hV 7 (by decide)
      have e8 : x 8 = .bool true := hV 8 (by decide)
      have e9 : x 9 = .bool true := hV 9 (by decide)
      clear hV
      simp only [e0, e1, e2, e3, e4, e5, e7, e8, e9]
      clear h6
      rw [hR]
      refine wpAny_done (by kernel_rfl) ?_ _
      clear hR
      replace HI := hI
      clear hI
      have HB := HI.now.2.2.2
      have zB := HB.size
      clear HI
      go_wp2_with fail
      go_ret
      exact ⟨rfl, blw_⟩
end Go.Proofs.Ytkikeanpbffpkaa
