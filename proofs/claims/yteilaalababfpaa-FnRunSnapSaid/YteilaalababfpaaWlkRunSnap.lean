/- FnRunSnap: the law's call returns true. -/
import Derived.Test.YteilaalababfpaaChecked
import Derived.Deep.QuietTactic
import Derived.BigQuiet
import Derived.Deep.RegionWith
import Derived.Test.YteilaalababfpaaGrCtx
import Derived.Test.YteilaalababfpaaDrawSR
import Derived.Test.YteilaalababfpaaBoxT
import Derived.Test.YteilaalababfpaaRelQ
import Derived.Test.YteilaalababfpaaGrSame
import Derived.Test.YteilaalababfpaaRunS
import Derived.Test.YteilaalababfpaaGrHeap
import Derived.Test.YteilaalababfpaaCmdsV
import Derived.Test.YteilaalababfpaaStepH
import Derived.Test.YteilaalababfpaaCloD
import Derived.Test.YteilaalababfpaaViewI
import Derived.Test.YteilaalababfpaaGrIso
namespace Go.Proofs.Yteilaalababfpaa
open Go.RowKit
set_option maxRecDepth 100000
set_option linter.all false
set_option maxHeartbeats 8000000 in
theorem walkRunSnap (C : Option Addr) (bs : List Int) (c : Nat) (w : World) (hr : RF fu w C bs) (hb : ∀ x ∈ bs, 0 ≤ x ∧ x < 256) (hc : bs.length ≤ c) (hc2 : c ≤ 9223372036854775807) :
    Calls Try.prog 9 #[.slice C bs.length c] w fun e w' => e = .returned (.bool true) ∧ Below w.heap.size w w' := by
  by_cases hbig : 1048576 < bs.length
  · go_enter Try.func9, Try.ntmps9
    go_wp2
    go_ret
    exact ⟨rfl, blw_⟩
  go_enter Try.func9, Try.ntmps9
  go_wp2_with fail
  (with_reducible refine (drawRunSnap_any C bs c _ hr hb hc hc2).mono ?_); rintro e w1 ⟨v1, v2, v3, rfl, ⟨h, L, S, cS, r, rfl, rfl, hV, HS, hL, hr1, hr2⟩, hB⟩
  have hV_h := hV
  clear hV
  obtain ⟨A_h, n_h, B_h, m_h, rfl⟩ := hV_h.parts
  clear hr hb
  have zB := hB.size
  have hLl : L.length ≤ 9223372036854775807 := by omega
  go_upto_region 4 with fail
  refine Code.gen (Stb (fun W => RH W (.agg #[.slice A_h h.cells.length n_h, .slice B_h h.roots.length m_h]) h ∧ Bx W (w1.heap.size) [.slice A_h h.cells.length n_h, .slice B_h h.roots.length m_h] ∧ RO W S L ∧ Below w.heap.size w W)) (Stb.and (Stb.rh (hV_h.below blw_)) (Stb.and (Stb.bx (Bx.new w1 [.slice A_h h.cells.length n_h, .slice B_h h.roots.length m_h] 26)) (Stb.and (Stb.ro (HS.below blw_)) (Stb.here blw_)))) ?_
  generalize w1.heap.size = bx_h
  clear hV_h hB zB HS
  rintro W HI
  obtain ⟨X, hX⟩ : ∃ X, Hid (X = runSnapM h L r) := ⟨_, rfl⟩
  have c_h0 := HI.now.2.1.c 0 _ rfl
  have c_h1 := HI.now.2.1.c 1 _ rfl
  have z_h := HI.now.2.1.lt
  go_wp2_with fail
  refine Calls.gen (Stb (fun W => RH W (.agg #[.slice A_h h.cells.length n_h, .slice B_h h.roots.length m_h]) h ∧ Bx W bx_h [.slice A_h h.cells.length n_h, .slice B_h h.roots.length m_h] ∧ RO W S L ∧ Below w.heap.size w W)) (HI.step blw_) ?_
  clear c_h0 c_h1 z_h
  clear HI 
  rintro W HI
  (with_reducible refine (implRunSnap_any _ h S L cS r _ HI.now.1 HI.now.2.2.1 hLl).mono ?_); rw [← hX.out]; rintro e w2 ⟨v2, rfl, oH, hB⟩
  replace HI := HI.step hB
  clear hB
  have hV_x := oH.rh
  clear oH
  obtain ⟨A_x, n_x, B_x, m_x, rfl⟩ := hV_x.parts
  go_upto_region 5 with fail
  refine Code.gen (Stb (fun W => RH W (.agg #[.slice A_x X.cells.length n_x, .slice B_x X.roots.length m_x]) X ∧ Bx W (w2.heap.size) [.slice A_x X.cells.length n_x, .slice B_x X.roots.length m_x] ∧ RH W (.agg #[.slice A_h h.cells.length n_h, .slice B_h h.roots.length m_h]) h ∧ Bx W bx_h [.slice A_h h.cells.length n_h, .slice B_h h.roots.length m_h] ∧ RO W S L ∧ Below w.heap.size w W)) (Stb.and (Stb.rh (hV_x.below blw_)) (Stb.and (Stb.bx (Bx.new w2 [.slice A_x X.cells.length n_x, .slice B_x X.roots.length m_x] 26)) (HI.step blw_))) ?_
  generalize w2.heap.size = bx_x
  clear HI hV_x 
  rintro W HI
  refine wp_region_R (by kernel_rfl) (fun R wd hR hwd => ?_)
  have hBd : Below W.heap.size W wd := by rw [hwd]; exact blw_
  replace HI := HI.step hBd
  clear hwd hBd
  refine rel_at (fr := ?fr_0) hR (fun f W => Stb (fun W => RH W (.agg #[.slice A_x X.cells.length n_x, .slice B_x X.roots.length m_x]) X ∧ Bx W bx_x [.slice A_x X.cells.length n_x, .slice B_x X.roots.length m_x] ∧ RH W (.agg #[.slice A_h h.cells.length n_h, .slice B_h h.roots.length m_h]) h ∧ Bx W bx_h [.slice A_h h.cells.length n_h, .slice B_h h.roots.length m_h] ∧ RO W S L ∧ Below w.heap.size w W) W) [(fun v W => v = .agg #[.slice A_x X.cells.length n_x, .slice B_x X.roots.length m_x]), (fun v W => v = .agg #[.slice A_h h.cells.length n_h, .slice B_h h.roots.length m_h]), (fun v W => v = .slice S L.length cS), (fun v W => v = .int .i64 r), (fun v W => ∃ A_r4 n_r4 B_r4 m_r4, v = (.agg #[.slice A_r4 X.cells.length n_r4, .slice B_r4 X.roots.length m_r4]) ∧ RH W (.agg #[.slice A_r4 X.cells.length n_r4, .slice B_r4 X.roots.length m_r4]) X), (fun v W => v = .bool true), (fun v W => v = .bool false)] (fun W W' => Below W.heap.size W W') [(0, []), (1, []), (2, []), (3, []), (4, [1, 2, 3]), (5, [0, 4, 1, 2, 3]), (6, [5, 0, 4, 1, 2, 3])] [(26, 0), (27, 1), (28, 2), (29, 3), (30, 4), (31, 5), (32, 6)] [0, 1, 2, 3, 4, 5, 6] #[true, true, true, true, true, true, true] 7 0 (by kernel_rfl) (by kernel_rfl) ?hfr_0 ?h0_0 ?mono_0 ?steps_0 ?_
  case hfr_0 => intro x; (simp [frOf, fill, Act.put, List.lookup]; with_reducible rfl)
  case h0_0 => exact HI
  case mono_0 => exact (Pm.cons (fun _ _ _ _ h => h) (Pm.cons (fun _ _ _ _ h => h) (Pm.cons (fun _ _ _ _ h => h) (Pm.cons (fun _ _ _ _ h => h) (Pm.cons (fun _ _ _ hG ⟨A_r4, n_r4, B_r4, m_r4, e, h⟩ => ⟨A_r4, n_r4, B_r4, m_r4, e, h.below hG⟩) (Pm.cons (fun _ _ _ _ h => h) (Pm.cons (fun _ _ _ _ h => h) Pm.nil)))))))
  case steps_0 =>
    refine Steps.cons (RStep.of rfl fun x W f hI hD K9 hK => ?_) ?_
    · clear hD
      have c0 := hI.now.2.1.c 0 _ rfl
      have c1 := hI.now.2.1.c 1 _ rfl
      go_simp
      exact hK (.agg #[.slice A_x X.cells.length n_x, .slice B_x X.roots.length m_x]) _ _ (by kernel_rfl) (Below.refl _ _) (hI) rfl
    refine Steps.cons (RStep.of rfl fun x W f hI hD K9 hK => ?_) ?_
    · clear hD
      have c0 := hI.now.2.2.2.1.c 0 _ rfl
      have c1 := hI.now.2.2.2.1.c 1 _ rfl
      go_simp
      exact hK (.agg #[.slice A_h h.cells.length n_h, .slice B_h h.roots.length m_h]) _ _ (by kernel_rfl) (Below.refl _ _) (hI) rfl
    refine Steps.cons (RStep.of rfl fun x W f hI hD K9 hK => ?_) ?_
    · clear hD
      go_simp
      exact hK (.slice S L.length cS) _ _ (by kernel_rfl) (Below.refl _ _) (hI) rfl
    refine Steps.cons (RStep.of rfl fun x W f hI hD K9 hK => ?_) ?_
    · clear hD
      go_simp
      exact hK (.int .i64 r) _ _ (by kernel_rfl) (Below.refl _ _) (hI) rfl
    refine Steps.cons (RStep.of rfl fun x W f hI hD K9 hK => ?_) ?_
    · have e1 : x 1 = .agg #[.slice A_h h.cells.length n_h, .slice B_h h.roots.length m_h] := hD 1 (by decide)
      have e2 : x 2 = .slice S L.length cS := hD 2 (by decide)
      have e3 : x 3 = .int .i64 r := hD 3 (by decide)
      clear hD
      simp only [e1, e2, e3] at hK ⊢
      go_wp2_with fail
      (with_reducible refine (specRunSnap_any _ h S L cS r _ hI.now.2.2.1 hI.now.2.2.2.2.1 hLl).mono ?_); rw [← hX.out]
      rintro e w6 ⟨v6, rfl, oH, hB⟩
      obtain ⟨A_r4, n_r4, B_r4, m_r4, rfl⟩ := oH.rh.parts
      exact hK (.agg #[.slice A_r4 X.cells.length n_r4, .slice B_r4 X.roots.length m_r4]) _ _ (by kernel_rfl) hB (hI.step hB) ⟨A_r4, n_r4, B_r4, m_r4, rfl, oH.rh⟩
    refine Steps.cons (RStep.of rfl fun x W f hI hD K9 hK => ?_) ?_
    · have e0 : x 0 = .agg #[.slice A_x X.cells.length n_x, .slice B_x X.roots.length m_x] := hD 0 (by decide)
      have h4 : (fun v W => ∃ A_r4 n_r4 B_r4 m_r4, v = (.agg #[.slice A_r4 X.cells.length n_r4, .slice B_r4 X.roots.length m_r4]) ∧ RH W (.agg #[.slice A_r4 X.cells.length n_r4, .slice B_r4 X.roots.length m_r4]) X) (x 4) W := hD 4 (by decide)
      clear hD
      simp only [e0] at hK ⊢
      obtain ⟨A_r4, n_r4, B_r4, m_r4, e4, h4⟩ := h4
      simp only [e4] at hK ⊢
      go_wp2_with fail
      (with_reducible refine (sameHeap_any _ _ X X _ hI.now.1 h4).mono ?_); rw [eqB_of (rfl : X = X)]
      rintro e w6 ⟨rfl, hB⟩
      exact hK _ _ _ (by kernel_rfl) hB (hI.step hB) rfl
    refine Steps.cons (RStep.of rfl fun x W f hI hD K9 hK => ?_) ?_
    · have e5 : x 5 = .bool true := hD 5 (by decide)
      clear hD
      simp only [e5] at hK ⊢
      go_simp
      exact hK (.bool false) _ _ (by kernel_rfl) (Below.refl _ _) (hI) rfl
    exact Steps.nil
  intro x W hI hV
  have e0 : x 0 = .agg #[.slice A_x X.cells.length n_x, .slice B_x X.roots.length m_x] := hV 0 (by decide)
  have e1 : x 1 = .agg #[.slice A_h h.cells.length n_h, .slice B_h h.roots.length m_h] := hV 1 (by decide)
  have e2 : x 2 = .slice S L.length cS := hV 2 (by decide)
  have e3 : x 3 = .int .i64 r := hV 3 (by decide)
  have h4 : (fun v W => ∃ A_r4 n_r4 B_r4 m_r4, v = (.agg #[.slice A_r4 X.cells.length n_r4, .slice B_r4 X.roots.length m_r4]) ∧ RH W (.agg #[.slice A_r4 X.cells.length n_r4, .slice B_r4 X.roots.length m_r4]) X) (x 4) W := hV 4 (by decide)
  have e5 : x 5 = .bool true := hV 5 (by decide)
  have e6 : x 6 = .bool false := hV 6 (by decide)
  clear hV
  simp only [e0, e1, e2, e3, e5, e6]
  clear h4
  rw [hR]
  refine wpAny_done (by kernel_rfl) ?_ _
  clear hR
  replace HI := hI
  clear hI
  have c_h0 := HI.now.2.2.2.1.c 0 _ rfl
  have c_h1 := HI.now.2.2.2.1.c 1 _ rfl
  have z_h := HI.now.2.2.2.1.lt
  go_wp2_with fail
  refine Calls.gen (Stb (fun W => RH W (.agg #[.slice A_x X.cells.length n_x, .slice B_x X.roots.length m_x]) X ∧ Bx W bx_x [.slice A_x X.cells.length n_x, .slice B_x X.roots.length m_x] ∧ RH W (.agg #[.slice A_h h.cells.length n_h, .slice B_h h.roots.length m_h]) h ∧ Bx W bx_h [.slice A_h h.cells.length n_h, .slice B_h h.roots.length m_h] ∧ RO W S L ∧ Below w.heap.size w W)) (HI.step blw_) ?_
  clear c_h0 c_h1 z_h
  clear HI 
  rintro W HI
  (with_reducible refine (specHeapValid_any _ h _ HI.now.2.2.1).mono ?_); rintro e w2 ⟨rfl, hB⟩
  replace HI := HI.step hB
  clear hB
  rcases bool_ft (validM h) with hva | hva
  · have hx0 : X.roots.length = 0 := by rw [hX.out]; unfold runSnapM; rw [if_neg (by simp [hva])]; rfl
    rw [hva]
    have c_x0 := HI.now.2.1.c 0 _ rfl
    have c_x1 := HI.now.2.1.c 1 _ rfl
    have z_x := HI.now.2.1.lt
    rw [hx0] at c_x1
    clear hx0 hva
    go_wp2_with fail
    refine Calls.gen (Stb (fun W => RH W (.agg #[.slice A_x X.cells.length n_x, .slice B_x X.roots.length m_x]) X ∧ Bx W bx_x [.slice A_x X.cells.length n_x, .slice B_x X.roots.length m_x] ∧ RH W (.agg #[.slice A_h h.cells.length n_h, .slice B_h h.roots.length m_h]) h ∧ Bx W bx_h [.slice A_h h.cells.length n_h, .slice B_h h.roots.length m_h] ∧ RO W S L ∧ Below w.heap.size w W)) (HI.step blw_) ?_
    clear c_x0 c_x1 z_x
    clear HI 
    rintro W HI
    (with_reducible refine (alive_any _).mono ?_); rintro e w2 ⟨rfl, hB⟩
    replace HI := HI.step hB
    clear hB
    have HB := HI.now.2.2.2.2.2
    have zB := HB.size
    clear HI
    go_wp2_with fail
    go_ret
    exact ⟨rfl, blw_⟩
  rw [hva]
  go_wp2_with fail
  refine Calls.gen (Stb (fun W => RH W (.agg #[.slice A_x X.cells.length n_x, .slice B_x X.roots.length m_x]) X ∧ Bx W bx_x [.slice A_x X.cells.length n_x, .slice B_x X.roots.length m_x] ∧ RH W (.agg #[.slice A_h h.cells.length n_h, .slice B_h h.roots.length m_h]) h ∧ Bx W bx_h [.slice A_h h.cells.length n_h, .slice B_h h.roots.length m_h] ∧ RO W S L ∧ Below w.heap.size w W)) (HI.step blw_) ?_
  clear HI 
  rintro W HI
  (with_reducible refine (specCommandsValid_any S L cS _ HI.now.2.2.2.2.1 hLl).mono ?_); rintro e w2 ⟨rfl, hB⟩
  replace HI := HI.step hB
  clear hB
  rcases bool_ft (cmdsOk L) with hcm | hcm
  · have hx0 : X.roots.length = 0 := by rw [hX.out]; unfold runSnapM; rw [if_neg (by simp [hcm])]; rfl
    rw [hcm]
    have c_x0 := HI.now.2.1.c 0 _ rfl
    have c_x1 := HI.now.2.1.c 1 _ rfl
    have z_x := HI.now.2.1.lt
    rw [hx0] at c_x1
    clear hx0 hcm
    go_wp2_with fail
    refine Calls.gen (Stb (fun W => RH W (.agg #[.slice A_x X.cells.length n_x, .slice B_x X.roots.length m_x]) X ∧ Bx W bx_x [.slice A_x X.cells.length n_x, .slice B_x X.roots.length m_x] ∧ RH W (.agg #[.slice A_h h.cells.length n_h, .slice B_h h.roots.length m_h]) h ∧ Bx W bx_h [.slice A_h h.cells.length n_h, .slice B_h h.roots.length m_h] ∧ RO W S L ∧ Below w.heap.size w W)) (HI.step blw_) ?_
    clear c_x0 c_x1 z_x
    clear HI 
    rintro W HI
    (with_reducible refine (alive_any _).mono ?_); rintro e w2 ⟨rfl, hB⟩
    replace HI := HI.step hB
    clear hB
    have HB := HI.now.2.2.2.2.2
    have zB := HB.size
    clear HI
    go_wp2_with fail
    go_ret
    exact ⟨rfl, blw_⟩
  rw [hcm]
  by_cases hst : 0 ≤ r ∧ r ≤ 5
  case neg =>
    have hx0 : X.roots.length = 0 := by rw [hX.out]; unfold runSnapM; rw [if_neg (by simp [inB, show (decide (0 ≤ r) && decide (r ≤ 5)) = false from by simp; omega])]; rfl
    have c_x0 := HI.now.2.1.c 0 _ rfl
    have c_x1 := HI.now.2.1.c 1 _ rfl
    have z_x := HI.now.2.1.lt
    rw [hx0] at c_x1
    clear hx0
    rcases (by omega : r < 0 ∨ (¬ r < 0 ∧ 5 < r)) with hst1 | ⟨hst1, hst2⟩
    · clear hst
      go_wp2_with fail
      refine Calls.gen (Stb (fun W => RH W (.agg #[.slice A_x X.cells.length n_x, .slice B_x X.roots.length m_x]) X ∧ Bx W bx_x [.slice A_x X.cells.length n_x, .slice B_x X.roots.length m_x] ∧ RH W (.agg #[.slice A_h h.cells.length n_h, .slice B_h h.roots.length m_h]) h ∧ Bx W bx_h [.slice A_h h.cells.length n_h, .slice B_h h.roots.length m_h] ∧ RO W S L ∧ Below w.heap.size w W)) (HI.step blw_) ?_
      clear c_x0 c_x1 z_x
      clear HI 
      rintro W HI
      (with_reducible refine (alive_any _).mono ?_); rintro e w2 ⟨rfl, hB⟩
      replace HI := HI.step hB
      clear hB
      have HB := HI.now.2.2.2.2.2
      have zB := HB.size
      clear HI
      go_wp2_with fail
      go_ret
      exact ⟨rfl, blw_⟩
    clear hst
    go_wp2_with fail
    refine Calls.gen (Stb (fun W => RH W (.agg #[.slice A_x X.cells.length n_x, .slice B_x X.roots.length m_x]) X ∧ Bx W bx_x [.slice A_x X.cells.length n_x, .slice B_x X.roots.length m_x] ∧ RH W (.agg #[.slice A_h h.cells.length n_h, .slice B_h h.roots.length m_h]) h ∧ Bx W bx_h [.slice A_h h.cells.length n_h, .slice B_h h.roots.length m_h] ∧ RO W S L ∧ Below w.heap.size w W)) (HI.step blw_) ?_
    clear c_x0 c_x1 z_x
    clear HI 
    rintro W HI
    (with_reducible refine (alive_any _).mono ?_); rintro e w2 ⟨rfl, hB⟩
    replace HI := HI.step hB
    clear hB
    have HB := HI.now.2.2.2.2.2
    have zB := HB.size
    clear HI
    go_wp2_with fail
    go_ret
    exact ⟨rfl, blw_⟩
  have hok : (validM h && cmdsOk L && inB 0 r 5) = true := by rw [hva, hcm]; simp [inB]; exact hst
  have HL := Lib.hid (law_RunSnap hok)
  rw [← hX.out] at HL
  have hst1 : ¬ r < 0 := by omega
  have hst2 : ¬ 5 < r := by omega
  have HVA := Lib.hid hva
  clear hst hok hva hcm
  have c_h0 := HI.now.2.2.2.1.c 0 _ rfl
  have c_h1 := HI.now.2.2.2.1.c 1 _ rfl
  have z_h := HI.now.2.2.2.1.lt
  go_upto_region 10 with fail
  clear c_h0 c_h1 z_h
  refine Code.gen (fun W => Bx W w2.heap.size [.slice A_h h.cells.length n_h, .slice B_h h.roots.length m_h] ∧ SE w2.heap.size W (.agg #[.slice A_h h.cells.length n_h, .slice B_h h.roots.length m_h]) h ∧ Below w2.heap.size w2 W) ⟨Bx.new w2 _ _, SE.of_rh HI.now.2.2.1 blw_ (Nat.le_refl _), blw_⟩ ?_
  generalize hbw : w2.heap.size = bw
  have HBW := Lib.hid hbw
  clear hbw hst1 hst2
  rintro W ⟨XW, SW, YW⟩
  go_wp2
  go_loopw [8, 9, 10] (fun s8 _ _ wr => ∃ (k : Nat) (A_w : Option Addr) (n_w : Nat) (B_w : Option Addr) (m_w : Nat), s8 = .int .i64 (k : Int) ∧ k ≤ L.length ∧ Bx wr bw [.slice A_w (runFrom h (L.take k)).cells.length n_w, .slice B_w (runFrom h (L.take k)).roots.length m_w] ∧ SE bw wr (.agg #[.slice A_w (runFrom h (L.take k)).cells.length n_w, .slice B_w (runFrom h (L.take k)).roots.length m_w]) (runFrom h (L.take k)) ∧ Below bw w2 wr) (fun s8 _ _ _ => L.length - (intOf s8).toNat)
  case atStart => exact ⟨0, A_h, n_h, B_h, m_h, rfl, by omega, XW, SW, YW⟩
  case round =>
    clear XW SW YW
    obtain ⟨k, A_w, n_w, B_w, m_w, rfl, hk, XW, SW, YW⟩ := hrel
    obtain ⟨WM, hWM⟩ : ∃ WM, Hid (WM = runFrom h (L.take k)) := ⟨_, rfl⟩
    rw [← hWM.out] at XW SW
    by_cases hlt : k < L.length
    · have HIr := HI.step (by rw [HBW.out]; exact YW)
      obtain ⟨b, o, cm, rfl, gx, m0, m1, m2, m3, -⟩ := (HIr.now.2.2.2.2.1).at_ hlt
      have i0 : (0 : Int) ≤ (k : Int) := by omega
      have i1 : (k : Int) < (L.length : Int) := by omega
      have i3 : (k : Int) + 1 < 9223372036854775807 := by omega
      have HN : Hid (runFrom h (L.take (k + 1)) = (stepM WM cm).1) := by rw [hWM.out]; exact runFrom_snoc gx
      clear gx hWM HI HIr
      obtain ⟨YM, hYM⟩ : ∃ YM, Hid (YM = stepM WM cm) := ⟨_, rfl⟩
      rw [← hYM.out] at HN
      go_wp2_with fail
      refine wp_region_R (by kernel_rfl) (fun R wd hR hwd => ?_)
      have hBd : Below wr.heap.size wr wd := by rw [hwd]; exact blw_
      have XW := XW.below hBd
      have SW := SW.below hBd
      have zw := YW.size
      have YW := YW.trans (hBd.mono (by have := XW.lt; have := hBd.size; have := YW.size; have := HBW.out; omega))
      have m0 := cell_below m0 hBd
      have m1 := cell_below m1 hBd
      have m2 := cell_below m2 hBd
      have m3 := cell_below m3 hBd
      have hbwd := XW.lt
      clear hBd hwd zw
      refine rel_atq 8 (fr := ?fr_1) hR (fun f W => Below wd.heap.size wd W) [(fun v W => v = .agg #[.slice A_w WM.cells.length n_w, .slice B_w WM.roots.length m_w]), (fun v W => v = .slice (some ⟨b, o, none⟩) L.length cS), (fun v W => v = .int .i64 (k : Int)), (fun v W => v = .pointer (some ⟨b, o + k * 4, none⟩)), (fun v W => v = .agg #[.int .i64 cm.op, .int .i64 cm.a, .int .i64 cm.b, .int .i64 cm.c]), (fun v W => ∃ u : Value, v = .tuple #[u, .bool YM.2] ∧ OH (bw + 1) W u YM.1), (fun v W => ∃ u : Value, v = .tuple #[u, .bool YM.2] ∧ OH (bw + 1) W u YM.1), (fun v W => OH (bw + 1) W v YM.1), (fun v W => v = .bool YM.2), (fun v W => ∃ b9 : Nat, v = .pointer (some ⟨b9, 0, none⟩) ∧ Bx W b9 [.slice none 0 0, .slice none 0 0] ∧ BT W b9 26 ∧ wd.heap.size ≤ b9), tt, tt] (fun W W' => Below W.heap.size W W') [(0, []), (1, []), (2, []), (3, [1, 2]), (4, [3, 1, 2]), (5, [0, 4, 3, 1, 2]), (6, [5, 0, 4, 3, 1, 2]), (7, [6, 5, 0, 4, 3, 1, 2]), (8, [6, 5, 0, 4, 3, 1, 2]), (9, []), (10, [0, 1, 2, 3, 4, 5, 6, 7, 9]), (11, [0, 1, 2, 3, 4, 5, 6, 7, 9])] [(64, 0), (65, 1), (66, 2), (67, 3), (68, 4), (69, 5), (63, 6), (70, 7), (71, 8), (9, 9)] [0, 1, 2, 3, 4, 5, 6, 7, 8, 9] #[true, true, true, true, true, true, true, true, true, true, false, false] 12 2 (by kernel_rfl) (by kernel_rfl) rfl (fun _ _ _ _ h => h) (by kernel_rfl) (fun f W hI => hI) ?hfr_1 ?h0_1 ?mono_1 ?float_1 ?steps_1 ?_
      case hfr_1 => intro x; (simp [frOf, fill, Act.put, List.lookup]; with_reducible rfl)
      case h0_1 => exact Below.refl _ _
      case mono_1 => exact (Pm.cons (fun _ _ _ _ h => h) (Pm.cons (fun _ _ _ _ h => h) (Pm.cons (fun _ _ _ _ h => h) (Pm.cons (fun _ _ _ _ h => h) (Pm.cons (fun _ _ _ _ h => h) (Pm.cons (fun _ _ _ hG ⟨u, e, h9⟩ => ⟨u, e, h9.below hG⟩) (Pm.cons (fun _ _ _ hG ⟨u, e, h9⟩ => ⟨u, e, h9.below hG⟩) (Pm.cons (fun _ _ _ hG h9 => h9.below hG) (Pm.cons (fun _ _ _ _ h => h) (Pm.cons (fun _ _ _ hG ⟨b9, e, h1, h2, h3⟩ => ⟨b9, e, h1.below hG, h2.below hG, h3⟩) (Pm.cons (fun _ _ _ _ h => h) (Pm.cons (fun _ _ _ _ h => h) Pm.nil))))))))))))
      case steps_1 =>
        refine Steps.cons (RStep.of rfl fun x W f hI hD K9 hK => ?_) ?_
        · clear hD
          have c0 := (XW.below hI).c 0 _ rfl
          have c1 := (XW.below hI).c 1 _ rfl
          go_simp
          exact hK (.agg #[.slice A_w WM.cells.length n_w, .slice B_w WM.roots.length m_w]) _ _ (by kernel_rfl) (Below.refl _ _) (hI) rfl
        refine Steps.cons (RStep.of rfl fun x W f hI hD K9 hK => ?_) ?_
        · clear hD
          go_simp
          exact hK (.slice (some ⟨b, o, none⟩) L.length cS) _ _ (by kernel_rfl) (Below.refl _ _) (hI) rfl
        refine Steps.cons (RStep.of rfl fun x W f hI hD K9 hK => ?_) ?_
        · clear hD
          go_simp
          exact hK (.int .i64 (k : Int)) _ _ (by kernel_rfl) (Below.refl _ _) (hI) rfl
        refine Steps.cons (RStep.of rfl fun x W f hI hD K9 hK => ?_) ?_
        · have e1 : x 1 = .slice (some ⟨b, o, none⟩) L.length cS := hD 1 (by decide)
          have e2 : x 2 = .int .i64 (k : Int) := hD 2 (by decide)
          clear hD
          simp only [e1, e2] at hK ⊢
          go_simp
          exact hK (.pointer (some ⟨b, o + k * 4, none⟩)) _ _ (by kernel_rfl) (Below.refl _ _) (hI) rfl
        refine Steps.cons (RStep.of rfl fun x W f hI hD K9 hK => ?_) ?_
        · have e3 : x 3 = .pointer (some ⟨b, o + k * 4, none⟩) := hD 3 (by decide)
          clear hD
          have d0 := cell_below m0 hI
          have d1 := cell_below m1 hI
          have d2 := cell_below m2 hI
          have d3 := cell_below m3 hI
          simp only [e3] at hK ⊢
          go_simp
          exact hK (.agg #[.int .i64 cm.op, .int .i64 cm.a, .int .i64 cm.b, .int .i64 cm.c]) _ _ (by kernel_rfl) (Below.refl _ _) (hI) rfl
        refine Steps.cons (RStep.of rfl fun x W f hI hD K9 hK => ?_) ?_
        · have e0 : x 0 = .agg #[.slice A_w WM.cells.length n_w, .slice B_w WM.roots.length m_w] := hD 0 (by decide)
          have e4 : x 4 = .agg #[.int .i64 cm.op, .int .i64 cm.a, .int .i64 cm.b, .int .i64 cm.c] := hD 4 (by decide)
          clear hD
          simp only [e0, e4] at hK ⊢
          clear i0 i1 i3 hlt hk
          go_wp2_with fail
          (with_reducible refine (implStepHeap_any _ WM cm _ (SW.below hI).now).mono ?_); rw [← hYM.out]
          rintro e w6 ⟨v6, rfl, oH, hB⟩
          exact hK (.tuple #[v6, .bool YM.2]) _ _ (by kernel_rfl) hB (hI.trans (hB.mono hI.size)) ⟨v6, rfl, oH.lo_ (by have := hI.size; omega)⟩
        refine Steps.cons (RStep.of rfl fun x W f hI hD K9 hK => ?_) ?_
        · have h5 : (fun v W => ∃ u : Value, v = .tuple #[u, .bool YM.2] ∧ OH (bw + 1) W u YM.1) (x 5) W := hD 5 (by decide)
          clear hD
          obtain ⟨u, e5, h9⟩ := h5
          simp only [e5] at hK ⊢
          go_simp
          exact hK (.tuple #[u, .bool YM.2]) _ _ (by kernel_rfl) (Below.refl _ _) hI ⟨u, rfl, h9⟩
        refine Steps.cons (RStep.of rfl fun x W f hI hD K9 hK => ?_) ?_
        · have h6 : (fun v W => ∃ u : Value, v = .tuple #[u, .bool YM.2] ∧ OH (bw + 1) W u YM.1) (x 6) W := hD 6 (by decide)
          clear hD
          obtain ⟨u, e6, h9⟩ := h6
          simp only [e6] at hK ⊢
          go_simp
          exact hK u _ _ (by kernel_rfl) (Below.refl _ _) hI h9
        refine Steps.cons (RStep.of rfl fun x W f hI hD K9 hK => ?_) ?_
        · have h6 : (fun v W => ∃ u : Value, v = .tuple #[u, .bool YM.2] ∧ OH (bw + 1) W u YM.1) (x 6) W := hD 6 (by decide)
          clear hD
          obtain ⟨u, e6, h9⟩ := h6
          simp only [e6] at hK ⊢
          go_simp
          exact hK (.bool YM.2) _ _ (by kernel_rfl) (Below.refl _ _) hI rfl
        refine Steps.cons (RStep.of rfl fun x W f hI hD K9 hK => ?_) ?_
        · clear hD
          have hzz := hI.size
          go_simp
          exact hK (.pointer (some ⟨W.heap.size, 0, none⟩)) _ _ (by kernel_rfl) blw_ (hI.trans (Below.mono (show Below W.heap.size W _ from blw_) hzz)) ⟨W.heap.size, rfl, Bx.new W [.slice none 0 0, .slice none 0 0] 26, BT.new _ _ _, hzz⟩
        exact Steps.nil
      case float_1 =>
        intro x W hD
        have h6 : (fun v W => ∃ u : Value, v = .tuple #[u, .bool YM.2] ∧ OH (bw + 1) W u YM.1) (x 6) W := hD 6 (by decide)
        obtain ⟨u, e6, h9⟩ := h6
        simp only [e6]
        refine ⟨_, .bool YM.2, rfl, .inl ⟨by kernel_rfl, fun w9 => ?_⟩, rfl⟩
        go_simp
      intro x W hI hV
      have e0 : x 0 = .agg #[.slice A_w WM.cells.length n_w, .slice B_w WM.roots.length m_w] := hV 0 (by decide)
      have e1 : x 1 = .slice (some ⟨b, o, none⟩) L.length cS := hV 1 (by decide)
      have e2 : x 2 = .int .i64 (k : Int) := hV 2 (by decide)
      have e3 : x 3 = .pointer (some ⟨b, o + k * 4, none⟩) := hV 3 (by decide)
      have e4 : x 4 = .agg #[.int .i64 cm.op, .int .i64 cm.a, .int .i64 cm.b, .int .i64 cm.c] := hV 4 (by decide)
      have h5 : (fun v W => ∃ u : Value, v = .tuple #[u, .bool YM.2] ∧ OH (bw + 1) W u YM.1) (x 5) W := hV 5 (by decide)
      have h6 : (fun v W => ∃ u : Value, v = .tuple #[u, .bool YM.2] ∧ OH (bw + 1) W u YM.1) (x 6) W := hV 6 (by decide)
      have h7 : (fun v W => OH (bw + 1) W v YM.1) (x 7) W := hV 7 (by decide)
      have e8 : x 8 = .bool YM.2 := hV 8 (by decide)
      have h9 : (fun v W => ∃ b9 : Nat, v = .pointer (some ⟨b9, 0, none⟩) ∧ Bx W b9 [.slice none 0 0, .slice none 0 0] ∧ BT W b9 26 ∧ wd.heap.size ≤ b9) (x 9) W := hV 9 (by decide)
      clear hV
      simp only [e0, e1, e2, e3, e4, e8]
      obtain ⟨b9, e9, hX9, hT9, hb9⟩ := h9
      obtain ⟨A7, c7, A7', c7', e7_, hOH⟩ := h7.parts3
      simp only [e7_, e9]
      clear h5 h6 h7
      have XW2 := XW.below hI
      have s0 := hX9.c 0 _ rfl
      have s1 := hX9.c 1 _ rfl
      have sf0 := hX9.f 0
      have sf1 := hX9.f 1
      have hlt9 := hX9.lt
      have hne : b9 ≠ bw := by omega
      have hne2 : bw ≠ b9 := by omega
      rw [hR]
      refine wpAny_ready (rs := [10]) (by kernel_rfl) (by simp) ?_
      refine AllReady.cons rfl (fun K9 hK9 => ?_) AllReady.nil
      go_simp
      refine hK9 _ _ ?_
      clear hK9
      refine wpAny_ready (rs := [11]) (by kernel_rfl) (by simp) ?_
      refine AllReady.cons rfl (fun K9 hK9 => ?_) AllReady.nil
      go_simp
      refine hK9 _ _ ?_
      clear hK9
      refine wpAny_done (by kernel_rfl) ?_ _
      clear hR
      have q0 := XW2.c 0 _ rfl
      have q1 := XW2.c 1 _ rfl
      have qf0 := XW2.f 0
      have qf1 := XW2.f 1
      have hW2 := hI.size
      have X3 := (((XW2.other hne2 0 (.slice A7 YM.1.cells.length c7)).other hne2 1 (.slice A7' YM.1.roots.length c7')).store2 (.slice A7 YM.1.cells.length c7) (.slice A7' YM.1.roots.length c7'))
      have S3 := ((((hOH.set_T hT9 (by decide) (by decide) 0 (.slice A7 YM.1.cells.length c7)).set_T (hT9.set _ _) (by decide) (by decide) 1 (.slice A7' YM.1.roots.length c7')).se (b := bw) (by omega)).store (i := 0) (u := .slice A7 YM.1.cells.length c7)).store (i := 1) (u := .slice A7' YM.1.roots.length c7')
      have Y3 : Below bw w2 W := YW.trans (hI.mono (by omega))
      have zb := YW.size
      clear XW SW XW2 hI hX9 hT9 hOH m0 m1 m2 m3
      go_wp2_with fail
      go_roundw
      case rel =>
        exact ⟨k + 1, A7, c7, A7', c7', by go_num, by omega, by rw [HN.out]; exact X3, by rw [HN.out]; exact S3, (((Y3.setCell (by simp only; omega) _).setCell (by simp only; omega) _).setCell (by simp only; omega) _).setCell (by simp only; omega) _⟩
      case measure => simp [intOf]; omega
    · have i4 : ¬ (k : Int) < (L.length : Int) := by omega
      have HWM : Hid (WM = runFrom h L) := by rw [hWM.out, show k = L.length by omega, List.take_length]; rfl
      clear hWM
      have HIr := HI.step (show Below w2.heap.size w2 wr by rw [HBW.out]; exact YW)
      have SWn := SW.now
      clear HI SW
      have z_h := HIr.now.2.2.2.1.lt
      have c_h0 := HIr.now.2.2.2.1.c 0 _ rfl
      have c_h1 := HIr.now.2.2.2.1.c 1 _ rfl
      go_wp2_with fail
      have HI := HIr
      clear HIr
      refine Calls.gen (Stb (fun W => Bx W bw [.slice A_w WM.cells.length n_w, .slice B_w WM.roots.length m_w] ∧ RH W (.agg #[.slice A_w WM.cells.length n_w, .slice B_w WM.roots.length m_w]) WM ∧ RH W (.agg #[.slice A_x X.cells.length n_x, .slice B_x X.roots.length m_x]) X ∧ Bx W bx_x [.slice A_x X.cells.length n_x, .slice B_x X.roots.length m_x] ∧ RH W (.agg #[.slice A_h h.cells.length n_h, .slice B_h h.roots.length m_h]) h ∧ Bx W bx_h [.slice A_h h.cells.length n_h, .slice B_h h.roots.length m_h] ∧ RO W S L ∧ Below w.heap.size w W)) (Stb.and (Stb.bx (XW.below blw_)) (Stb.and (Stb.rh (SWn.below blw_)) (HI.step blw_))) ?_
      clear z_h c_h0 c_h1
      clear HI XW SWn YW
      rintro W HI
      (with_reducible refine (implReachable_any _ h _ HI.now.2.2.2.2.1).mono ?_); rw [show reachableM h = reachM h from by unfold reachableM; rw [if_pos HVA.out]]; rintro e w2 ⟨S9, c9, rfl, hO9, -, hB⟩
      have HO9 := hO9.rf
      clear hO9
      replace HI := HI.step hB
      clear hB
      have c_x0 := HI.now.2.2.2.1.c 0 _ rfl
      have c_x1 := HI.now.2.2.2.1.c 1 _ rfl
      have z_x := HI.now.2.2.2.1.lt
      have HX2 := HI.now.2.2.1.inv.1
      have HX40 : Hid ((reachM h).length ≤ 40 ∧ (reachM h).length = h.cells.length) := by unfold Hid; rw [reachM_len]; exact ⟨(validM_len HVA.out).1, rfl⟩
      go_wp2_with fail
      go_loopw [12] (fun s12 wr => ∃ j : Nat, s12 = .int .i64 (j : Int) ∧ j ≤ (reachM h).length ∧ ∃ n, wr = w2.drewN n) (fun s12 _ => (reachM h).length - (intOf s12).toNat)
      case atStart => exact ⟨0, rfl, by omega, 0, rfl⟩
      case round =>
        obtain ⟨j, rfl, hj, n8, rfl⟩ := hrel
        by_cases hltj : j < (reachM h).length
        · obtain ⟨b1, o1, y1, rfl, g1, m1, -⟩ := HO9.at_ hltj
          obtain ⟨cc, hcc, huc⟩ := HL.out.2.2 j (by have := HX40.out; omega)
          obtain ⟨b3, o3, y3, Ar, cr, rfl, g3, m3, -⟩ := HX2.at_ (List.getElem?_eq_some_iff.1 hcc).1
          have he : y3.used = y1 := by rw [g3] at hcc; injection hcc with hcc; rw [hcc, huc, List.getD, g1]; rfl
          have q1 : w2.cell? ⟨b1, o1 + j, none⟩ = some (.bool y1) := m1
          have q3 : w2.cell? ⟨b3, o3 + j * 3, none⟩ = some (.bool y1) := by rw [← he]; exact m3
          have hne : (y1 != y1) = false := by simp
          have i0 : (0 : Int) ≤ (j : Int) := by omega
          have i1 : (j : Int) < ((reachM h).length : Int) := by omega
          have i2 : (j : Int) < (X.cells.length : Int) := by have := (List.getElem?_eq_some_iff.1 hcc).1; omega
          have i5 : ¬ (X.cells.length ≤ j) := by have := (List.getElem?_eq_some_iff.1 hcc).1; omega
          have i3 : (j : Int) + 1 < 9223372036854775807 := by have := HX40.out; omega
          clear g1 g3 m1 m3 he hcc huc HI HX2 HO9
          go_wp2
          go_quiet (fail)
          go_wp2
          go_roundw
          case rel => exact ⟨j + 1, by go_num, by omega, _, by first | rfl | (simp; rfl)⟩
          case measure => simp [intOf]; omega
        · have i9 : ¬ (j : Int) < ((reachM h).length : Int) := by omega
          clear HX2 HO9
          have c_w0 := HI.now.1.c 0 _ rfl
          have c_w1 := HI.now.1.c 1 _ rfl
          have z_w := HI.now.1.lt
          go_wp2_with fail
          refine Calls.gen (Stb (fun W => Bx W bw [.slice A_w WM.cells.length n_w, .slice B_w WM.roots.length m_w] ∧ RH W (.agg #[.slice A_w WM.cells.length n_w, .slice B_w WM.roots.length m_w]) WM ∧ RH W (.agg #[.slice A_x X.cells.length n_x, .slice B_x X.roots.length m_x]) X ∧ Bx W bx_x [.slice A_x X.cells.length n_x, .slice B_x X.roots.length m_x] ∧ RH W (.agg #[.slice A_h h.cells.length n_h, .slice B_h h.roots.length m_h]) h ∧ Bx W bx_h [.slice A_h h.cells.length n_h, .slice B_h h.roots.length m_h] ∧ RO W S L ∧ Below w.heap.size w W)) (HI.step blw_) ?_
          clear c_x0 c_x1 z_x c_w0 c_w1 z_w
          clear HI 
          rintro W HI
          (with_reducible refine (sameView_any _ _ X WM _ HI.now.2.2.1 HI.now.2.1).mono ?_); rw [show sameViewM X WM = true from by rw [HWM.out]; exact HL.out.1]; rintro e w2 ⟨rfl, hB⟩
          replace HI := HI.step hB
          clear hB
          have hle : ((X.cells.length : Int) == (WM.cells.length : Int)) = true := by rw [HWM.out, HL.out.2.1]; simp
          have c_x0 := HI.now.2.2.2.1.c 0 _ rfl
          have c_x1 := HI.now.2.2.2.1.c 1 _ rfl
          have z_x := HI.now.2.2.2.1.lt
          have c_w0 := HI.now.1.c 0 _ rfl
          have c_w1 := HI.now.1.c 1 _ rfl
          have z_w := HI.now.1.lt
          have HB := HI.now.2.2.2.2.2.2.2
          have zB := HB.size
          clear HI
          go_wp2_with fail
          go_ret
          exact ⟨rfl, blw_⟩
end Go.Proofs.Yteilaalababfpaa