/- FnPaintStart: the law's call returns true. -/
import Derived.Test.YtopbngfghpgbnaaChecked
import Derived.Deep.QuietTactic
import Derived.BigQuiet
import Derived.Deep.RegionWith
import Derived.Test.YtopbngfghpgbnaaGrCtx
import Derived.Test.YtopbngfghpgbnaaGrDrawP
import Derived.Test.YtopbngfghpgbnaaGrSam
import Derived.Test.YtopbngfghpgbnaaGrSame
import Derived.Test.YtopbngfghpgbnaaPaintSt
import Derived.Test.YtopbngfghpgbnaaPaintV
import Derived.Test.YtopbngfghpgbnaaPaintVS
import Derived.Test.YtopbngfghpgbnaaGrIso
namespace Go.Proofs.Ytopbngfghpgbnaa
open Go.RowKit
set_option maxRecDepth 100000
set_option linter.unusedSimpArgs false
set_option linter.unusedVariables false
set_option maxHeartbeats 8000000 in
theorem walkPaintStart (C : Option Addr) (bs : List Int) (c : Nat) (w : World) (hr : RF fu w C bs) (hb : ∀ x ∈ bs, 0 ≤ x ∧ x < 256) (hc : bs.length ≤ c) (hc2 : c ≤ 9223372036854775807) :
    Calls Try.prog 4 #[.slice C bs.length c] w fun e w' => e = .returned (.bool true) ∧ Below w.heap.size w w' := by
  by_cases hbig : 1048576 < bs.length
  · go_enter Try.func4, Try.ntmps4
    go_wp2
    go_ret
    exact ⟨rfl, blw_⟩
  go_enter Try.func4, Try.ntmps4
  go_wp2_with fail
  (with_reducible refine (drawPaintStart_any C bs c _ hr hb hc hc2).mono ?_); rintro e w1 ⟨v1, p, rfl, hV, hB⟩
  have hV_p := hV
  clear hV
  obtain ⟨A_p, n_p, B_p, m_p, C_p, k_p, rfl⟩ := hV_p.parts
  clear hr hb
  have zB := hB.size
  go_upto_region 4 with fail
  refine Code.gen (Stb (fun W => RPt W (.agg #[.slice A_p p.store.cells.length n_p, .slice B_p p.store.roots.length m_p, .slice C_p p.colours.length k_p, .bool p.active]) p ∧ Bx W (w1.heap.size) [.slice A_p p.store.cells.length n_p, .slice B_p p.store.roots.length m_p, .slice C_p p.colours.length k_p, .bool p.active] ∧ Below w.heap.size w W)) (Stb.and (Stb.rpt (hV_p.below blw_)) (Stb.and (Stb.bx (Bx.new w1 [.slice A_p p.store.cells.length n_p, .slice B_p p.store.roots.length m_p, .slice C_p p.colours.length k_p, .bool p.active] 28)) (Stb.here blw_))) ?_
  generalize w1.heap.size = bx_p
  clear hV_p hB zB
  rintro W HI
  obtain ⟨X, hX⟩ : ∃ X, Hid (X = paintStartM p) := ⟨_, rfl⟩
  have c_p0 := HI.now.2.1.c 0 _ rfl
  have c_p1 := HI.now.2.1.c 1 _ rfl
  have c_p2 := HI.now.2.1.c 2 _ rfl
  have c_p3 := HI.now.2.1.c 3 _ rfl
  have z_p := HI.now.2.1.lt
  go_wp2_with fail
  refine Calls.gen (Stb (fun W => RPt W (.agg #[.slice A_p p.store.cells.length n_p, .slice B_p p.store.roots.length m_p, .slice C_p p.colours.length k_p, .bool p.active]) p ∧ Bx W bx_p [.slice A_p p.store.cells.length n_p, .slice B_p p.store.roots.length m_p, .slice C_p p.colours.length k_p, .bool p.active] ∧ Below w.heap.size w W)) (HI.step blw_) ?_
  clear c_p0 c_p1 c_p2 c_p3 z_p
  clear HI 
  rintro W HI
  (with_reducible refine (implPaintStart_any _ p _ HI.now.1).mono ?_); rw [← hX.out]; rintro e w2 ⟨v2, rfl, oH, hB⟩
  replace HI := HI.step hB
  clear hB
  have hV_x := oH.rp
  clear oH
  obtain ⟨A_x, n_x, B_x, m_x, C_x, k_x, rfl⟩ := hV_x.parts
  go_upto_region 5 with fail
  refine Code.gen (Stb (fun W => RPt W (.agg #[.slice A_x X.store.cells.length n_x, .slice B_x X.store.roots.length m_x, .slice C_x X.colours.length k_x, .bool X.active]) X ∧ Bx W (w2.heap.size) [.slice A_x X.store.cells.length n_x, .slice B_x X.store.roots.length m_x, .slice C_x X.colours.length k_x, .bool X.active] ∧ RPt W (.agg #[.slice A_p p.store.cells.length n_p, .slice B_p p.store.roots.length m_p, .slice C_p p.colours.length k_p, .bool p.active]) p ∧ Bx W bx_p [.slice A_p p.store.cells.length n_p, .slice B_p p.store.roots.length m_p, .slice C_p p.colours.length k_p, .bool p.active] ∧ Below w.heap.size w W)) (Stb.and (Stb.rpt (hV_x.below blw_)) (Stb.and (Stb.bx (Bx.new w2 [.slice A_x X.store.cells.length n_x, .slice B_x X.store.roots.length m_x, .slice C_x X.colours.length k_x, .bool X.active] 28)) (HI.step blw_))) ?_
  generalize w2.heap.size = bx_x
  clear HI hV_x 
  rintro W HI
  refine wp_region_R (by kernel_rfl) (fun R wd hR hwd => ?_)
  have hBd : Below W.heap.size W wd := by rw [hwd]; exact blw_
  replace HI := HI.step hBd
  clear hwd hBd
  refine rel_at (fr := ?fr_0) hR (fun f W => Stb (fun W => RPt W (.agg #[.slice A_x X.store.cells.length n_x, .slice B_x X.store.roots.length m_x, .slice C_x X.colours.length k_x, .bool X.active]) X ∧ Bx W bx_x [.slice A_x X.store.cells.length n_x, .slice B_x X.store.roots.length m_x, .slice C_x X.colours.length k_x, .bool X.active] ∧ RPt W (.agg #[.slice A_p p.store.cells.length n_p, .slice B_p p.store.roots.length m_p, .slice C_p p.colours.length k_p, .bool p.active]) p ∧ Bx W bx_p [.slice A_p p.store.cells.length n_p, .slice B_p p.store.roots.length m_p, .slice C_p p.colours.length k_p, .bool p.active] ∧ Below w.heap.size w W) W) [(fun v W => v = .agg #[.slice A_x X.store.cells.length n_x, .slice B_x X.store.roots.length m_x, .slice C_x X.colours.length k_x, .bool X.active]), (fun v W => v = .agg #[.slice A_p p.store.cells.length n_p, .slice B_p p.store.roots.length m_p, .slice C_p p.colours.length k_p, .bool p.active]), (fun v W => ∃ A_r2 n_r2 B_r2 m_r2 C_r2 k_r2, v = (.agg #[.slice A_r2 X.store.cells.length n_r2, .slice B_r2 X.store.roots.length m_r2, .slice C_r2 X.colours.length k_r2, .bool X.active]) ∧ RPt W (.agg #[.slice A_r2 X.store.cells.length n_r2, .slice B_r2 X.store.roots.length m_r2, .slice C_r2 X.colours.length k_r2, .bool X.active]) X), (fun v W => v = .bool true), (fun v W => v = .bool false)] (fun W W' => Below W.heap.size W W') [(0, []), (1, []), (2, [1]), (3, [0, 2, 1]), (4, [3, 0, 2, 1])] [(12, 0), (13, 1), (14, 2), (15, 3), (16, 4)] [0, 1, 2, 3, 4] #[true, true, true, true, true] 5 0 (by kernel_rfl) (by kernel_rfl) ?hfr_0 ?h0_0 ?mono_0 ?steps_0 ?_
  case hfr_0 => intro x; (simp [frOf, fill, Act.put, List.lookup]; with_reducible rfl)
  case h0_0 => exact HI
  case mono_0 => exact (Pm.cons (fun _ _ _ _ h => h) (Pm.cons (fun _ _ _ _ h => h) (Pm.cons (fun _ _ _ hG ⟨A_r2, n_r2, B_r2, m_r2, C_r2, k_r2, e, h⟩ => ⟨A_r2, n_r2, B_r2, m_r2, C_r2, k_r2, e, h.below hG⟩) (Pm.cons (fun _ _ _ _ h => h) (Pm.cons (fun _ _ _ _ h => h) Pm.nil)))))
  case steps_0 =>
    refine Steps.cons (RStep.of rfl fun x W f hI hD K9 hK => ?_) ?_
    · clear hD
      have c0 := hI.now.2.1.c 0 _ rfl
      have c1 := hI.now.2.1.c 1 _ rfl
      have c2 := hI.now.2.1.c 2 _ rfl
      have c3 := hI.now.2.1.c 3 _ rfl
      go_simp
      exact hK (.agg #[.slice A_x X.store.cells.length n_x, .slice B_x X.store.roots.length m_x, .slice C_x X.colours.length k_x, .bool X.active]) _ _ (by kernel_rfl) (Below.refl _ _) (hI) rfl
    refine Steps.cons (RStep.of rfl fun x W f hI hD K9 hK => ?_) ?_
    · clear hD
      have c0 := hI.now.2.2.2.1.c 0 _ rfl
      have c1 := hI.now.2.2.2.1.c 1 _ rfl
      have c2 := hI.now.2.2.2.1.c 2 _ rfl
      have c3 := hI.now.2.2.2.1.c 3 _ rfl
      go_simp
      exact hK (.agg #[.slice A_p p.store.cells.length n_p, .slice B_p p.store.roots.length m_p, .slice C_p p.colours.length k_p, .bool p.active]) _ _ (by kernel_rfl) (Below.refl _ _) (hI) rfl
    refine Steps.cons (RStep.of rfl fun x W f hI hD K9 hK => ?_) ?_
    · have e1 : x 1 = .agg #[.slice A_p p.store.cells.length n_p, .slice B_p p.store.roots.length m_p, .slice C_p p.colours.length k_p, .bool p.active] := hD 1 (by decide)
      clear hD
      simp only [e1] at hK ⊢
      go_wp2_with fail
      (with_reducible refine (specPaintStart_any _ p _ hI.now.2.2.1).mono ?_); rw [← hX.out]
      rintro e w6 ⟨v6, rfl, oH, hB⟩
      obtain ⟨A_r2, n_r2, B_r2, m_r2, C_r2, k_r2, rfl⟩ := oH.rp.parts
      exact hK (.agg #[.slice A_r2 X.store.cells.length n_r2, .slice B_r2 X.store.roots.length m_r2, .slice C_r2 X.colours.length k_r2, .bool X.active]) _ _ (by kernel_rfl) hB (hI.step hB) ⟨A_r2, n_r2, B_r2, m_r2, C_r2, k_r2, rfl, oH.rp⟩
    refine Steps.cons (RStep.of rfl fun x W f hI hD K9 hK => ?_) ?_
    · have e0 : x 0 = .agg #[.slice A_x X.store.cells.length n_x, .slice B_x X.store.roots.length m_x, .slice C_x X.colours.length k_x, .bool X.active] := hD 0 (by decide)
      have h2 : (fun v W => ∃ A_r2 n_r2 B_r2 m_r2 C_r2 k_r2, v = (.agg #[.slice A_r2 X.store.cells.length n_r2, .slice B_r2 X.store.roots.length m_r2, .slice C_r2 X.colours.length k_r2, .bool X.active]) ∧ RPt W (.agg #[.slice A_r2 X.store.cells.length n_r2, .slice B_r2 X.store.roots.length m_r2, .slice C_r2 X.colours.length k_r2, .bool X.active]) X) (x 2) W := hD 2 (by decide)
      clear hD
      simp only [e0] at hK ⊢
      obtain ⟨A_r2, n_r2, B_r2, m_r2, C_r2, k_r2, e2, h2⟩ := h2
      simp only [e2] at hK ⊢
      go_wp2_with fail
      (with_reducible refine (samePaint_eq _ _ X _ hI.now.1 h2).mono ?_)
      rintro e w6 ⟨rfl, hB⟩
      exact hK _ _ _ (by kernel_rfl) hB (hI.step hB) rfl
    refine Steps.cons (RStep.of rfl fun x W f hI hD K9 hK => ?_) ?_
    · have e3 : x 3 = .bool true := hD 3 (by decide)
      clear hD
      simp only [e3] at hK ⊢
      go_simp
      exact hK (.bool false) _ _ (by kernel_rfl) (Below.refl _ _) (hI) rfl
    exact Steps.nil
  intro x W hI hV
  have e0 : x 0 = .agg #[.slice A_x X.store.cells.length n_x, .slice B_x X.store.roots.length m_x, .slice C_x X.colours.length k_x, .bool X.active] := hV 0 (by decide)
  have e1 : x 1 = .agg #[.slice A_p p.store.cells.length n_p, .slice B_p p.store.roots.length m_p, .slice C_p p.colours.length k_p, .bool p.active] := hV 1 (by decide)
  have h2 : (fun v W => ∃ A_r2 n_r2 B_r2 m_r2 C_r2 k_r2, v = (.agg #[.slice A_r2 X.store.cells.length n_r2, .slice B_r2 X.store.roots.length m_r2, .slice C_r2 X.colours.length k_r2, .bool X.active]) ∧ RPt W (.agg #[.slice A_r2 X.store.cells.length n_r2, .slice B_r2 X.store.roots.length m_r2, .slice C_r2 X.colours.length k_r2, .bool X.active]) X) (x 2) W := hV 2 (by decide)
  have e3 : x 3 = .bool true := hV 3 (by decide)
  have e4 : x 4 = .bool false := hV 4 (by decide)
  clear hV
  simp only [e0, e1, e3, e4]
  clear h2
  rw [hR]
  refine wpAny_done (by kernel_rfl) ?_ _
  clear hR
  replace HI := hI
  clear hI
  have c_p0 := HI.now.2.2.2.1.c 0 _ rfl
  have c_p1 := HI.now.2.2.2.1.c 1 _ rfl
  have c_p2 := HI.now.2.2.2.1.c 2 _ rfl
  have c_p3 := HI.now.2.2.2.1.c 3 _ rfl
  have z_p := HI.now.2.2.2.1.lt
  go_wp2_with fail
  refine Calls.gen (Stb (fun W => RPt W (.agg #[.slice A_x X.store.cells.length n_x, .slice B_x X.store.roots.length m_x, .slice C_x X.colours.length k_x, .bool X.active]) X ∧ Bx W bx_x [.slice A_x X.store.cells.length n_x, .slice B_x X.store.roots.length m_x, .slice C_x X.colours.length k_x, .bool X.active] ∧ RPt W (.agg #[.slice A_p p.store.cells.length n_p, .slice B_p p.store.roots.length m_p, .slice C_p p.colours.length k_p, .bool p.active]) p ∧ Bx W bx_p [.slice A_p p.store.cells.length n_p, .slice B_p p.store.roots.length m_p, .slice C_p p.colours.length k_p, .bool p.active] ∧ Below w.heap.size w W)) (HI.step blw_) ?_
  clear c_p0 c_p1 c_p2 c_p3 z_p
  clear HI 
  rintro W HI
  (with_reducible refine (specPaintValid_any _ p _ HI.now.2.2.1).mono ?_); rintro e w2 ⟨rfl, hB⟩
  replace HI := HI.step hB
  clear hB
  rcases bool_ft (paintM p) with hva | hva
  · have hz : X.store.roots.length = 0 := by rw [hX.out]; exact paint_start_no hva
    rw [hva]
    have c_x0 := HI.now.2.1.c 0 _ rfl
    have c_x1 := HI.now.2.1.c 1 _ rfl
    have c_x2 := HI.now.2.1.c 2 _ rfl
    have c_x3 := HI.now.2.1.c 3 _ rfl
    have z_x := HI.now.2.1.lt
    rw [hz] at c_x1
    clear hz hva
    go_wp2_with fail
    refine Calls.gen (Stb (fun W => RPt W (.agg #[.slice A_x X.store.cells.length n_x, .slice B_x X.store.roots.length m_x, .slice C_x X.colours.length k_x, .bool X.active]) X ∧ Bx W bx_x [.slice A_x X.store.cells.length n_x, .slice B_x X.store.roots.length m_x, .slice C_x X.colours.length k_x, .bool X.active] ∧ RPt W (.agg #[.slice A_p p.store.cells.length n_p, .slice B_p p.store.roots.length m_p, .slice C_p p.colours.length k_p, .bool p.active]) p ∧ Bx W bx_p [.slice A_p p.store.cells.length n_p, .slice B_p p.store.roots.length m_p, .slice C_p p.colours.length k_p, .bool p.active] ∧ Below w.heap.size w W)) (HI.step blw_) ?_
    clear c_x0 c_x1 c_x2 c_x3 z_x
    clear HI 
    rintro W HI
    (with_reducible refine (alive_any _).mono ?_); rintro e w2 ⟨rfl, hB⟩
    replace HI := HI.step hB
    clear hB
    have HB := HI.now.2.2.2.2
    have zB := HB.size
    clear HI
    go_wp2_with fail
    go_ret
    exact ⟨rfl, blw_⟩
  have HL := Lib.hid (paint_start_yes hva)
  rw [← hX.out] at HL
  rw [hva]
  clear hva
  rcases bool_ft p.active with ha | ha
  · have HA := Lib.hid ha
    clear ha
    go_upto_region 9 with fail
    refine Code.gen (Stb (fun W => RPt W (.agg #[.slice A_x X.store.cells.length n_x, .slice B_x X.store.roots.length m_x, .slice C_x X.colours.length k_x, .bool X.active]) X ∧ Bx W bx_x [.slice A_x X.store.cells.length n_x, .slice B_x X.store.roots.length m_x, .slice C_x X.colours.length k_x, .bool X.active] ∧ RPt W (.agg #[.slice A_p p.store.cells.length n_p, .slice B_p p.store.roots.length m_p, .slice C_p p.colours.length k_p, .bool p.active]) p ∧ Bx W bx_p [.slice A_p p.store.cells.length n_p, .slice B_p p.store.roots.length m_p, .slice C_p p.colours.length k_p, .bool p.active] ∧ Below w.heap.size w W)) (HI.step blw_) ?_
    clear HI 
    rintro W HI
    refine wp_region_R (by kernel_rfl) (fun R wd hR hwd => ?_)
    have hBd : Below W.heap.size W wd := by rw [hwd]; exact blw_
    replace HI := HI.step hBd
    clear hwd hBd
    refine rel_at (fr := ?fr_1) hR (fun f W => Stb (fun W => RPt W (.agg #[.slice A_x X.store.cells.length n_x, .slice B_x X.store.roots.length m_x, .slice C_x X.colours.length k_x, .bool X.active]) X ∧ Bx W bx_x [.slice A_x X.store.cells.length n_x, .slice B_x X.store.roots.length m_x, .slice C_x X.colours.length k_x, .bool X.active] ∧ RPt W (.agg #[.slice A_p p.store.cells.length n_p, .slice B_p p.store.roots.length m_p, .slice C_p p.colours.length k_p, .bool p.active]) p ∧ Bx W bx_p [.slice A_p p.store.cells.length n_p, .slice B_p p.store.roots.length m_p, .slice C_p p.colours.length k_p, .bool p.active] ∧ Below w.heap.size w W) W) [(fun v W => v = .agg #[.slice A_x X.store.cells.length n_x, .slice B_x X.store.roots.length m_x, .slice C_x X.colours.length k_x, .bool X.active]), (fun v W => v = .bool true), (fun v W => v = .bool true), (fun v W => v = .pointer (some ⟨bx_x, 3, none⟩)), (fun v W => v = .bool true), (fun v W => v = .bool true), (fun v W => v = .bool true), (fun v W => v = .pointer (some ⟨bx_x, 0, none⟩)), (fun v W => v = .agg #[.slice A_x X.store.cells.length n_x, .slice B_x X.store.roots.length m_x]), (fun v W => v = .pointer (some ⟨bx_p, 0, none⟩)), (fun v W => v = .agg #[.slice A_p p.store.cells.length n_p, .slice B_p p.store.roots.length m_p]), (fun v W => v = .bool true), (fun v W => v = .bool true), (fun v W => v = .bool true), (fun v W => v = .agg #[.slice A_x X.store.cells.length n_x, .slice B_x X.store.roots.length m_x, .slice C_x X.colours.length k_x, .bool X.active]), (fun v W => ∃ A_r15 n_r15 B_r15 m_r15 C_r15 k_r15, v = (.agg #[.slice A_r15 X.store.cells.length n_r15, .slice B_r15 X.store.roots.length m_r15, .slice C_r15 X.colours.length k_r15, .bool X.active]) ∧ RPt W (.agg #[.slice A_r15 X.store.cells.length n_r15, .slice B_r15 X.store.roots.length m_r15, .slice C_r15 X.colours.length k_r15, .bool X.active]) X), (fun v W => v = .agg #[.slice A_x X.store.cells.length n_x, .slice B_x X.store.roots.length m_x, .slice C_x X.colours.length k_x, .bool X.active]), (fun v W => v = .bool true), (fun v W => v = .bool true), (fun v W => v = .bool true), (fun v W => v = .pointer (some ⟨bx_p, 3, none⟩)), (fun v W => v = .bool false), (fun v W => v = .bool true), (fun v W => v = .bool true), (fun v W => v = undef), (fun v W => v = undef), (fun v W => v = undef), (fun v W => v = (.bool true)), (fun v W => v = (.bool true)), (fun v W => v = (.bool true))] (fun W W' => Below W.heap.size W W') [(0, []), (1, [0]), (2, [1, 0]), (3, [2, 1, 0]), (4, [2, 1, 0, 3]), (5, [2, 1, 0, 4, 3]), (6, [5, 2, 1, 0, 4, 3]), (7, [6, 5, 2, 1, 0, 4, 3]), (8, [6, 5, 2, 1, 0, 4, 3, 7]), (9, [6, 5, 2, 1, 0, 4, 3]), (10, [6, 5, 2, 1, 0, 4, 3, 9]), (11, [6, 5, 2, 1, 0, 4, 3, 8, 7, 10, 9]), (12, [6, 5, 2, 1, 0, 4, 3, 11, 8, 7, 10, 9]), (13, [12, 6, 5, 2, 1, 0, 4, 3, 11, 8, 7, 10, 9]), (14, [13, 12, 6, 5, 2, 1, 0, 4, 3, 11, 8, 7, 10, 9]), (15, [13, 12, 6, 5, 2, 1, 0, 4, 3, 11, 8, 7, 10, 9, 14]), (16, [13, 12, 6, 5, 2, 1, 0, 4, 3, 11, 8, 7, 10, 9]), (17, [13, 12, 6, 5, 2, 1, 0, 4, 3, 11, 8, 7, 10, 9, 15, 14, 16]), (18, [13, 12, 6, 5, 2, 1, 0, 4, 3, 11, 8, 7, 10, 9, 17, 15, 14, 16]), (19, [18, 13, 12, 6, 5, 2, 1, 0, 4, 3, 11, 8, 7, 10, 9, 17, 15, 14, 16]), (20, [19, 18, 13, 12, 6, 5, 2, 1, 0, 4, 3, 11, 8, 7, 10, 9, 17, 15, 14, 16]), (21, [19, 18, 13, 12, 6, 5, 2, 1, 0, 4, 3, 11, 8, 7, 10, 9, 17, 15, 14, 16, 20]), (22, [19, 18, 13, 12, 6, 5, 2, 1, 0, 4, 3, 11, 8, 7, 10, 9, 17, 15, 14, 16, 21, 20]), (23, [19, 18, 13, 12, 6, 5, 2, 1, 0, 4, 3, 11, 8, 7, 10, 9, 17, 15, 14, 16, 22, 21, 20]), (24, [23, 19, 18, 13, 12, 6, 5, 2, 1, 0, 4, 3, 11, 8, 7, 10, 9, 17, 15, 14, 16, 22, 21, 20]), (25, [23, 19, 18, 13, 12, 6, 5, 2, 1, 0, 4, 3, 11, 8, 7, 10, 9, 17, 15, 14, 16, 22, 21, 20]), (26, [23, 19, 18, 13, 12, 6, 5, 2, 1, 0, 4, 3, 11, 8, 7, 10, 9, 17, 15, 14, 16, 22, 21, 20]), (27, [19, 18, 13, 12, 6, 5, 2, 1, 0, 4, 3, 11, 8, 7, 10, 9, 17, 15, 14, 16, 23, 22, 21, 20, 26]), (28, [19, 18, 13, 12, 6, 5, 2, 1, 0, 4, 3, 11, 8, 7, 10, 9, 17, 15, 14, 16, 27, 23, 22, 21, 20, 26]), (29, [28, 19, 18, 13, 12, 6, 5, 2, 1, 0, 4, 3, 11, 8, 7, 10, 9, 17, 15, 14, 16, 27, 23, 22, 21, 20, 26])] [(28, 0), (29, 1), (30, 2), (31, 3), (32, 4), (33, 5), (34, 6), (35, 7), (36, 8), (37, 9), (38, 10), (39, 11), (40, 12), (41, 13), (42, 14), (43, 15), (44, 16), (45, 17), (46, 18), (47, 19), (48, 20), (49, 21), (50, 22), (51, 23), (52, 24), (53, 25), (54, 26), (55, 27), (56, 28), (2, 29)] [0, 1, 2, 3, 4, 5, 6, 7, 8, 9, 10, 11, 12, 13, 14, 15, 16, 17, 18, 19, 20, 21, 22, 23, 24, 25, 26, 27, 28, 29] #[true, true, true, true, true, true, true, true, true, true, true, true, true, true, true, true, true, true, true, true, true, true, true, true, true, true, true, true, true, true] 30 0 (by kernel_rfl) (by kernel_rfl) ?hfr_1 ?h0_1 ?mono_1 ?steps_1 ?_
    case hfr_1 => intro x; (simp [frOf, fill, Act.put, List.lookup]; with_reducible rfl)
    case h0_1 => exact HI
    case mono_1 => exact (Pm.cons (fun _ _ _ _ h => h) (Pm.cons (fun _ _ _ _ h => h) (Pm.cons (fun _ _ _ _ h => h) (Pm.cons (fun _ _ _ _ h => h) (Pm.cons (fun _ _ _ _ h => h) (Pm.cons (fun _ _ _ _ h => h) (Pm.cons (fun _ _ _ _ h => h) (Pm.cons (fun _ _ _ _ h => h) (Pm.cons (fun _ _ _ _ h => h) (Pm.cons (fun _ _ _ _ h => h) (Pm.cons (fun _ _ _ _ h => h) (Pm.cons (fun _ _ _ _ h => h) (Pm.cons (fun _ _ _ _ h => h) (Pm.cons (fun _ _ _ _ h => h) (Pm.cons (fun _ _ _ _ h => h) (Pm.cons (fun _ _ _ hG ⟨A_r15, n_r15, B_r15, m_r15, C_r15, k_r15, e, h⟩ => ⟨A_r15, n_r15, B_r15, m_r15, C_r15, k_r15, e, h.below hG⟩) (Pm.cons (fun _ _ _ _ h => h) (Pm.cons (fun _ _ _ _ h => h) (Pm.cons (fun _ _ _ _ h => h) (Pm.cons (fun _ _ _ _ h => h) (Pm.cons (fun _ _ _ _ h => h) (Pm.cons (fun _ _ _ _ h => h) (Pm.cons (fun _ _ _ _ h => h) (Pm.cons (fun _ _ _ _ h => h) (Pm.cons (fun _ _ _ _ h => h) (Pm.cons (fun _ _ _ _ h => h) (Pm.cons (fun _ _ _ _ h => h) (Pm.cons (fun _ _ _ _ h => h) (Pm.cons (fun _ _ _ _ h => h) (Pm.cons (fun _ _ _ _ h => h) Pm.nil))))))))))))))))))))))))))))))
    case steps_1 =>
      refine Steps.cons (RStep.of rfl fun x W f hI hD K9 hK => ?_) ?_
      · clear hD
        have c0 := hI.now.2.1.c 0 _ rfl
        have c1 := hI.now.2.1.c 1 _ rfl
        have c2 := hI.now.2.1.c 2 _ rfl
        have c3 := hI.now.2.1.c 3 _ rfl
        go_simp
        exact hK (.agg #[.slice A_x X.store.cells.length n_x, .slice B_x X.store.roots.length m_x, .slice C_x X.colours.length k_x, .bool X.active]) _ _ (by kernel_rfl) (Below.refl _ _) (hI) rfl
      refine Steps.cons (RStep.of rfl fun x W f hI hD K9 hK => ?_) ?_
      · have e0 : x 0 = .agg #[.slice A_x X.store.cells.length n_x, .slice B_x X.store.roots.length m_x, .slice C_x X.colours.length k_x, .bool X.active] := hD 0 (by decide)
        clear hD
        simp only [e0] at hK ⊢
        go_wp2_with fail
        (with_reducible refine (implPaintValid_any _ X _ hI.now.1).mono ?_); rw [HL.out.1]
        rintro e w6 ⟨rfl, hB⟩
        exact hK _ _ _ (by kernel_rfl) hB (hI.step hB) rfl
      refine Steps.cons (RStep.of rfl fun x W f hI hD K9 hK => ?_) ?_
      · have e1 : x 1 = .bool true := hD 1 (by decide)
        clear hD
        simp only [e1] at hK ⊢
        go_simp
        exact hK (.bool true) _ _ (by kernel_rfl) (Below.refl _ _) (hI) rfl
      refine Steps.cons (RStep.of rfl fun x W f hI hD K9 hK => ?_) ?_
      · have e2 : x 2 = .bool true := hD 2 (by decide)
        clear hD
        simp only [e2] at hK ⊢
        go_simp
        exact hK (.pointer (some ⟨bx_x, 3, none⟩)) _ _ (by kernel_rfl) (Below.refl _ _) (hI) rfl
      refine Steps.cons (RStep.of rfl fun x W f hI hD K9 hK => ?_) ?_
      · have e2 : x 2 = .bool true := hD 2 (by decide)
        have e3 : x 3 = .pointer (some ⟨bx_x, 3, none⟩) := hD 3 (by decide)
        clear hD
        have c0 := hI.now.2.1.c 3 _ rfl
        rw [HL.out.2.1] at c0
        simp only [e2, e3] at hK ⊢
        go_simp
        exact hK (.bool true) _ _ (by kernel_rfl) (Below.refl _ _) (hI) rfl
      refine Steps.cons (RStep.of rfl fun x W f hI hD K9 hK => ?_) ?_
      · have e2 : x 2 = .bool true := hD 2 (by decide)
        have e4 : x 4 = .bool true := hD 4 (by decide)
        clear hD
        simp only [e2, e4] at hK ⊢
        go_simp
        exact hK (.bool true) _ _ (by kernel_rfl) (Below.refl _ _) (hI) rfl
      refine Steps.cons (RStep.of rfl fun x W f hI hD K9 hK => ?_) ?_
      · have e5 : x 5 = .bool true := hD 5 (by decide)
        clear hD
        simp only [e5] at hK ⊢
        go_simp
        exact hK (.bool true) _ _ (by kernel_rfl) (Below.refl _ _) (hI) rfl
      refine Steps.cons (RStep.of rfl fun x W f hI hD K9 hK => ?_) ?_
      · have e6 : x 6 = .bool true := hD 6 (by decide)
        clear hD
        simp only [e6] at hK ⊢
        go_simp
        exact hK (.pointer (some ⟨bx_x, 0, none⟩)) _ _ (by kernel_rfl) (Below.refl _ _) (hI) rfl
      refine Steps.cons (RStep.of rfl fun x W f hI hD K9 hK => ?_) ?_
      · have e6 : x 6 = .bool true := hD 6 (by decide)
        have e7 : x 7 = .pointer (some ⟨bx_x, 0, none⟩) := hD 7 (by decide)
        clear hD
        have c0 := hI.now.2.1.c 0 _ rfl
        have c1 := hI.now.2.1.c 1 _ rfl
        simp only [e6, e7] at hK ⊢
        go_simp
        exact hK (.agg #[.slice A_x X.store.cells.length n_x, .slice B_x X.store.roots.length m_x]) _ _ (by kernel_rfl) (Below.refl _ _) (hI) rfl
      refine Steps.cons (RStep.of rfl fun x W f hI hD K9 hK => ?_) ?_
      · have e6 : x 6 = .bool true := hD 6 (by decide)
        clear hD
        simp only [e6] at hK ⊢
        go_simp
        exact hK (.pointer (some ⟨bx_p, 0, none⟩)) _ _ (by kernel_rfl) (Below.refl _ _) (hI) rfl
      refine Steps.cons (RStep.of rfl fun x W f hI hD K9 hK => ?_) ?_
      · have e6 : x 6 = .bool true := hD 6 (by decide)
        have e9 : x 9 = .pointer (some ⟨bx_p, 0, none⟩) := hD 9 (by decide)
        clear hD
        have c0 := hI.now.2.2.2.1.c 0 _ rfl
        have c1 := hI.now.2.2.2.1.c 1 _ rfl
        simp only [e6, e9] at hK ⊢
        go_simp
        exact hK (.agg #[.slice A_p p.store.cells.length n_p, .slice B_p p.store.roots.length m_p]) _ _ (by kernel_rfl) (Below.refl _ _) (hI) rfl
      refine Steps.cons (RStep.of rfl fun x W f hI hD K9 hK => ?_) ?_
      · have e6 : x 6 = .bool true := hD 6 (by decide)
        have e8 : x 8 = .agg #[.slice A_x X.store.cells.length n_x, .slice B_x X.store.roots.length m_x] := hD 8 (by decide)
        have e10 : x 10 = .agg #[.slice A_p p.store.cells.length n_p, .slice B_p p.store.roots.length m_p] := hD 10 (by decide)
        clear hD
        simp only [e6, e8, e10] at hK ⊢
        go_wp2_with fail
        (with_reducible refine (sameHeap_any _ _ X.store p.store _ (hI.now.1).st (hI.now.2.2.1).st).mono ?_); rw [eqB_of HL.out.2.2.1]
        rintro e w6 ⟨rfl, hB⟩
        exact hK _ _ _ (by kernel_rfl) hB (hI.step hB) rfl
      refine Steps.cons (RStep.of rfl fun x W f hI hD K9 hK => ?_) ?_
      · have e6 : x 6 = .bool true := hD 6 (by decide)
        have e11 : x 11 = .bool true := hD 11 (by decide)
        clear hD
        simp only [e6, e11] at hK ⊢
        go_simp
        exact hK (.bool true) _ _ (by kernel_rfl) (Below.refl _ _) (hI) rfl
      refine Steps.cons (RStep.of rfl fun x W f hI hD K9 hK => ?_) ?_
      · have e12 : x 12 = .bool true := hD 12 (by decide)
        clear hD
        simp only [e12] at hK ⊢
        go_simp
        exact hK (.bool true) _ _ (by kernel_rfl) (Below.refl _ _) (hI) rfl
      refine Steps.cons (RStep.of rfl fun x W f hI hD K9 hK => ?_) ?_
      · have e13 : x 13 = .bool true := hD 13 (by decide)
        clear hD
        have c0 := hI.now.2.1.c 0 _ rfl
        have c1 := hI.now.2.1.c 1 _ rfl
        have c2 := hI.now.2.1.c 2 _ rfl
        have c3 := hI.now.2.1.c 3 _ rfl
        simp only [e13] at hK ⊢
        go_simp
        exact hK (.agg #[.slice A_x X.store.cells.length n_x, .slice B_x X.store.roots.length m_x, .slice C_x X.colours.length k_x, .bool X.active]) _ _ (by kernel_rfl) (Below.refl _ _) (hI) rfl
      refine Steps.cons (RStep.of rfl fun x W f hI hD K9 hK => ?_) ?_
      · have e13 : x 13 = .bool true := hD 13 (by decide)
        have e14 : x 14 = .agg #[.slice A_x X.store.cells.length n_x, .slice B_x X.store.roots.length m_x, .slice C_x X.colours.length k_x, .bool X.active] := hD 14 (by decide)
        clear hD
        simp only [e13, e14] at hK ⊢
        go_wp2_with fail
        (with_reducible refine (implPaintStart_any _ X _ hI.now.1).mono ?_); rw [HL.out.2.2.2.1]
        rintro e w6 ⟨v6, rfl, oH, hB⟩
        obtain ⟨A_r15, n_r15, B_r15, m_r15, C_r15, k_r15, rfl⟩ := oH.rp.parts
        exact hK (.agg #[.slice A_r15 X.store.cells.length n_r15, .slice B_r15 X.store.roots.length m_r15, .slice C_r15 X.colours.length k_r15, .bool X.active]) _ _ (by kernel_rfl) hB (hI.step hB) ⟨A_r15, n_r15, B_r15, m_r15, C_r15, k_r15, rfl, oH.rp⟩
      refine Steps.cons (RStep.of rfl fun x W f hI hD K9 hK => ?_) ?_
      · have e13 : x 13 = .bool true := hD 13 (by decide)
        clear hD
        have c0 := hI.now.2.1.c 0 _ rfl
        have c1 := hI.now.2.1.c 1 _ rfl
        have c2 := hI.now.2.1.c 2 _ rfl
        have c3 := hI.now.2.1.c 3 _ rfl
        simp only [e13] at hK ⊢
        go_simp
        exact hK (.agg #[.slice A_x X.store.cells.length n_x, .slice B_x X.store.roots.length m_x, .slice C_x X.colours.length k_x, .bool X.active]) _ _ (by kernel_rfl) (Below.refl _ _) (hI) rfl
      refine Steps.cons (RStep.of rfl fun x W f hI hD K9 hK => ?_) ?_
      · have e13 : x 13 = .bool true := hD 13 (by decide)
        have h15 : (fun v W => ∃ A_r15 n_r15 B_r15 m_r15 C_r15 k_r15, v = (.agg #[.slice A_r15 X.store.cells.length n_r15, .slice B_r15 X.store.roots.length m_r15, .slice C_r15 X.colours.length k_r15, .bool X.active]) ∧ RPt W (.agg #[.slice A_r15 X.store.cells.length n_r15, .slice B_r15 X.store.roots.length m_r15, .slice C_r15 X.colours.length k_r15, .bool X.active]) X) (x 15) W := hD 15 (by decide)
        have e16 : x 16 = .agg #[.slice A_x X.store.cells.length n_x, .slice B_x X.store.roots.length m_x, .slice C_x X.colours.length k_x, .bool X.active] := hD 16 (by decide)
        clear hD
        simp only [e13, e16] at hK ⊢
        obtain ⟨A_r15, n_r15, B_r15, m_r15, C_r15, k_r15, e15, h15⟩ := h15
        simp only [e15] at hK ⊢
        go_wp2_with fail
        (with_reducible refine (samePaint_eq _ _ X _ h15 hI.now.1).mono ?_)
        rintro e w6 ⟨rfl, hB⟩
        exact hK _ _ _ (by kernel_rfl) hB (hI.step hB) rfl
      refine Steps.cons (RStep.of rfl fun x W f hI hD K9 hK => ?_) ?_
      · have e13 : x 13 = .bool true := hD 13 (by decide)
        have e17 : x 17 = .bool true := hD 17 (by decide)
        clear hD
        simp only [e13, e17] at hK ⊢
        go_simp
        exact hK (.bool true) _ _ (by kernel_rfl) (Below.refl _ _) (hI) rfl
      refine Steps.cons (RStep.of rfl fun x W f hI hD K9 hK => ?_) ?_
      · have e18 : x 18 = .bool true := hD 18 (by decide)
        clear hD
        simp only [e18] at hK ⊢
        go_simp
        exact hK (.bool true) _ _ (by kernel_rfl) (Below.refl _ _) (hI) rfl
      refine Steps.cons (RStep.of rfl fun x W f hI hD K9 hK => ?_) ?_
      · have e19 : x 19 = .bool true := hD 19 (by decide)
        clear hD
        simp only [e19] at hK ⊢
        go_simp
        exact hK (.pointer (some ⟨bx_p, 3, none⟩)) _ _ (by kernel_rfl) (Below.refl _ _) (hI) rfl
      refine Steps.cons (RStep.of rfl fun x W f hI hD K9 hK => ?_) ?_
      · have e19 : x 19 = .bool true := hD 19 (by decide)
        have e20 : x 20 = .pointer (some ⟨bx_p, 3, none⟩) := hD 20 (by decide)
        clear hD
        have c0 := hI.now.2.2.2.1.c 3 _ rfl
        rw [HA.out] at c0
        simp only [e19, e20] at hK ⊢
        go_simp
        exact hK (.bool false) _ _ (by kernel_rfl) (Below.refl _ _) (hI) rfl
      refine Steps.cons (RStep.of rfl fun x W f hI hD K9 hK => ?_) ?_
      · have e19 : x 19 = .bool true := hD 19 (by decide)
        have e21 : x 21 = .bool false := hD 21 (by decide)
        clear hD
        simp only [e19, e21] at hK ⊢
        go_simp
        exact hK (.bool true) _ _ (by kernel_rfl) (Below.refl _ _) (hI) rfl
      refine Steps.cons (RStep.of rfl fun x W f hI hD K9 hK => ?_) ?_
      · have e19 : x 19 = .bool true := hD 19 (by decide)
        have e22 : x 22 = .bool true := hD 22 (by decide)
        clear hD
        simp only [e19, e22] at hK ⊢
        go_simp
        exact hK (.bool true) _ _ (by kernel_rfl) (Below.refl _ _) (hI) rfl
      refine Steps.cons (RStep.of rfl fun x W f hI hD K9 hK => ?_) ?_
      · have e23 : x 23 = .bool true := hD 23 (by decide)
        clear hD
        simp only [e23] at hK ⊢
        go_simp
        exact hK (undef) _ _ (by kernel_rfl) (Below.refl _ _) (hI) rfl
      refine Steps.cons (RStep.of rfl fun x W f hI hD K9 hK => ?_) ?_
      · have e23 : x 23 = .bool true := hD 23 (by decide)
        clear hD
        simp only [e23] at hK ⊢
        go_simp
        exact hK (undef) _ _ (by kernel_rfl) (Below.refl _ _) (hI) rfl
      refine Steps.cons (RStep.of rfl fun x W f hI hD K9 hK => ?_) ?_
      · have e23 : x 23 = .bool true := hD 23 (by decide)
        clear hD
        simp only [e23] at hK ⊢
        go_simp
        exact hK (undef) _ _ (by kernel_rfl) (Below.refl _ _) (hI) rfl
      refine Steps.cons (RStep.of rfl fun x W f hI hD K9 hK => ?_) ?_
      · have e19 : x 19 = .bool true := hD 19 (by decide)
        have e23 : x 23 = .bool true := hD 23 (by decide)
        have e26 : x 26 = undef := hD 26 (by decide)
        clear hD
        simp only [e19, e23, e26] at hK ⊢
        go_simp
        exact hK ((.bool true)) _ _ (by kernel_rfl) (Below.refl _ _) (hI) rfl
      refine Steps.cons (RStep.of rfl fun x W f hI hD K9 hK => ?_) ?_
      · have e19 : x 19 = .bool true := hD 19 (by decide)
        have e27 : x 27 = (.bool true) := hD 27 (by decide)
        clear hD
        simp only [e19, e27] at hK ⊢
        go_simp
        exact hK ((.bool true)) _ _ (by kernel_rfl) (Below.refl _ _) (hI) rfl
      refine Steps.cons (RStep.of rfl fun x W f hI hD K9 hK => ?_) ?_
      · have e28 : x 28 = (.bool true) := hD 28 (by decide)
        clear hD
        simp only [e28] at hK ⊢
        go_simp
        exact hK ((.bool true)) _ _ (by kernel_rfl) (Below.refl _ _) (hI) rfl
      exact Steps.nil
    intro x W hI hV
    have e0 : x 0 = .agg #[.slice A_x X.store.cells.length n_x, .slice B_x X.store.roots.length m_x, .slice C_x X.colours.length k_x, .bool X.active] := hV 0 (by decide)
    have e1 : x 1 = .bool true := hV 1 (by decide)
    have e2 : x 2 = .bool true := hV 2 (by decide)
    have e3 : x 3 = .pointer (some ⟨bx_x, 3, none⟩) := hV 3 (by decide)
    have e4 : x 4 = .bool true := hV 4 (by decide)
    have e5 : x 5 = .bool true := hV 5 (by decide)
    have e6 : x 6 = .bool true := hV 6 (by decide)
    have e7 : x 7 = .pointer (some ⟨bx_x, 0, none⟩) := hV 7 (by decide)
    have e8 : x 8 = .agg #[.slice A_x X.store.cells.length n_x, .slice B_x X.store.roots.length m_x] := hV 8 (by decide)
    have e9 : x 9 = .pointer (some ⟨bx_p, 0, none⟩) := hV 9 (by decide)
    have e10 : x 10 = .agg #[.slice A_p p.store.cells.length n_p, .slice B_p p.store.roots.length m_p] := hV 10 (by decide)
    have e11 : x 11 = .bool true := hV 11 (by decide)
    have e12 : x 12 = .bool true := hV 12 (by decide)
    have e13 : x 13 = .bool true := hV 13 (by decide)
    have e14 : x 14 = .agg #[.slice A_x X.store.cells.length n_x, .slice B_x X.store.roots.length m_x, .slice C_x X.colours.length k_x, .bool X.active] := hV 14 (by decide)
    have h15 : (fun v W => ∃ A_r15 n_r15 B_r15 m_r15 C_r15 k_r15, v = (.agg #[.slice A_r15 X.store.cells.length n_r15, .slice B_r15 X.store.roots.length m_r15, .slice C_r15 X.colours.length k_r15, .bool X.active]) ∧ RPt W (.agg #[.slice A_r15 X.store.cells.length n_r15, .slice B_r15 X.store.roots.length m_r15, .slice C_r15 X.colours.length k_r15, .bool X.active]) X) (x 15) W := hV 15 (by decide)
    have e16 : x 16 = .agg #[.slice A_x X.store.cells.length n_x, .slice B_x X.store.roots.length m_x, .slice C_x X.colours.length k_x, .bool X.active] := hV 16 (by decide)
    have e17 : x 17 = .bool true := hV 17 (by decide)
    have e18 : x 18 = .bool true := hV 18 (by decide)
    have e19 : x 19 = .bool true := hV 19 (by decide)
    have e20 : x 20 = .pointer (some ⟨bx_p, 3, none⟩) := hV 20 (by decide)
    have e21 : x 21 = .bool false := hV 21 (by decide)
    have e22 : x 22 = .bool true := hV 22 (by decide)
    have e23 : x 23 = .bool true := hV 23 (by decide)
    have e24 : x 24 = undef := hV 24 (by decide)
    have e25 : x 25 = undef := hV 25 (by decide)
    have e26 : x 26 = undef := hV 26 (by decide)
    have e27 : x 27 = (.bool true) := hV 27 (by decide)
    have e28 : x 28 = (.bool true) := hV 28 (by decide)
    have e29 : x 29 = (.bool true) := hV 29 (by decide)
    clear hV
    simp only [e0, e1, e2, e3, e4, e5, e6, e7, e8, e9, e10, e11, e12, e13, e14, e16, e17, e18, e19, e20, e21, e22, e23, e24, e25, e26, e27, e28, e29]
    clear h15
    rw [hR]
    refine wpAny_done (by kernel_rfl) ?_ _
    clear hR
    replace HI := hI
    clear hI
    have HB := HI.now.2.2.2.2
    have zB := HB.size
    clear HI
    go_wp2_with fail
    go_ret
    exact ⟨rfl, blw_⟩
  have HA := Lib.hid ha
  clear ha
  go_upto_region 9 with fail
  refine Code.gen (Stb (fun W => RPt W (.agg #[.slice A_x X.store.cells.length n_x, .slice B_x X.store.roots.length m_x, .slice C_x X.colours.length k_x, .bool X.active]) X ∧ Bx W bx_x [.slice A_x X.store.cells.length n_x, .slice B_x X.store.roots.length m_x, .slice C_x X.colours.length k_x, .bool X.active] ∧ RPt W (.agg #[.slice A_p p.store.cells.length n_p, .slice B_p p.store.roots.length m_p, .slice C_p p.colours.length k_p, .bool p.active]) p ∧ Bx W bx_p [.slice A_p p.store.cells.length n_p, .slice B_p p.store.roots.length m_p, .slice C_p p.colours.length k_p, .bool p.active] ∧ Below w.heap.size w W)) (HI.step blw_) ?_
  clear HI 
  rintro W HI
  refine wp_region_R (by kernel_rfl) (fun R wd hR hwd => ?_)
  have hBd : Below W.heap.size W wd := by rw [hwd]; exact blw_
  replace HI := HI.step hBd
  clear hwd hBd
  refine rel_at (fr := ?fr_2) hR (fun f W => Stb (fun W => RPt W (.agg #[.slice A_x X.store.cells.length n_x, .slice B_x X.store.roots.length m_x, .slice C_x X.colours.length k_x, .bool X.active]) X ∧ Bx W bx_x [.slice A_x X.store.cells.length n_x, .slice B_x X.store.roots.length m_x, .slice C_x X.colours.length k_x, .bool X.active] ∧ RPt W (.agg #[.slice A_p p.store.cells.length n_p, .slice B_p p.store.roots.length m_p, .slice C_p p.colours.length k_p, .bool p.active]) p ∧ Bx W bx_p [.slice A_p p.store.cells.length n_p, .slice B_p p.store.roots.length m_p, .slice C_p p.colours.length k_p, .bool p.active] ∧ Below w.heap.size w W) W) [(fun v W => v = .agg #[.slice A_x X.store.cells.length n_x, .slice B_x X.store.roots.length m_x, .slice C_x X.colours.length k_x, .bool X.active]), (fun v W => v = .bool true), (fun v W => v = .bool true), (fun v W => v = .pointer (some ⟨bx_x, 3, none⟩)), (fun v W => v = .bool true), (fun v W => v = .bool true), (fun v W => v = .bool true), (fun v W => v = .pointer (some ⟨bx_x, 0, none⟩)), (fun v W => v = .agg #[.slice A_x X.store.cells.length n_x, .slice B_x X.store.roots.length m_x]), (fun v W => v = .pointer (some ⟨bx_p, 0, none⟩)), (fun v W => v = .agg #[.slice A_p p.store.cells.length n_p, .slice B_p p.store.roots.length m_p]), (fun v W => v = .bool true), (fun v W => v = .bool true), (fun v W => v = .bool true), (fun v W => v = .agg #[.slice A_x X.store.cells.length n_x, .slice B_x X.store.roots.length m_x, .slice C_x X.colours.length k_x, .bool X.active]), (fun v W => ∃ A_r15 n_r15 B_r15 m_r15 C_r15 k_r15, v = (.agg #[.slice A_r15 X.store.cells.length n_r15, .slice B_r15 X.store.roots.length m_r15, .slice C_r15 X.colours.length k_r15, .bool X.active]) ∧ RPt W (.agg #[.slice A_r15 X.store.cells.length n_r15, .slice B_r15 X.store.roots.length m_r15, .slice C_r15 X.colours.length k_r15, .bool X.active]) X), (fun v W => v = .agg #[.slice A_x X.store.cells.length n_x, .slice B_x X.store.roots.length m_x, .slice C_x X.colours.length k_x, .bool X.active]), (fun v W => v = .bool true), (fun v W => v = .bool true), (fun v W => v = .bool true), (fun v W => v = .pointer (some ⟨bx_p, 3, none⟩)), (fun v W => v = .bool true), (fun v W => v = .bool false), (fun v W => v = .bool false), (fun v W => v = .agg #[.slice A_x X.store.cells.length n_x, .slice B_x X.store.roots.length m_x, .slice C_x X.colours.length k_x, .bool X.active]), (fun v W => v = .agg #[.slice A_p p.store.cells.length n_p, .slice B_p p.store.roots.length m_p, .slice C_p p.colours.length k_p, .bool p.active]), (fun v W => v = .bool true), (fun v W => v = .bool true), (fun v W => v = .bool true), (fun v W => v = .bool true)] (fun W W' => Below W.heap.size W W') [(0, []), (1, [0]), (2, [1, 0]), (3, [2, 1, 0]), (4, [2, 1, 0, 3]), (5, [2, 1, 0, 4, 3]), (6, [5, 2, 1, 0, 4, 3]), (7, [6, 5, 2, 1, 0, 4, 3]), (8, [6, 5, 2, 1, 0, 4, 3, 7]), (9, [6, 5, 2, 1, 0, 4, 3]), (10, [6, 5, 2, 1, 0, 4, 3, 9]), (11, [6, 5, 2, 1, 0, 4, 3, 8, 7, 10, 9]), (12, [6, 5, 2, 1, 0, 4, 3, 11, 8, 7, 10, 9]), (13, [12, 6, 5, 2, 1, 0, 4, 3, 11, 8, 7, 10, 9]), (14, [13, 12, 6, 5, 2, 1, 0, 4, 3, 11, 8, 7, 10, 9]), (15, [13, 12, 6, 5, 2, 1, 0, 4, 3, 11, 8, 7, 10, 9, 14]), (16, [13, 12, 6, 5, 2, 1, 0, 4, 3, 11, 8, 7, 10, 9]), (17, [13, 12, 6, 5, 2, 1, 0, 4, 3, 11, 8, 7, 10, 9, 15, 14, 16]), (18, [13, 12, 6, 5, 2, 1, 0, 4, 3, 11, 8, 7, 10, 9, 17, 15, 14, 16]), (19, [18, 13, 12, 6, 5, 2, 1, 0, 4, 3, 11, 8, 7, 10, 9, 17, 15, 14, 16]), (20, [19, 18, 13, 12, 6, 5, 2, 1, 0, 4, 3, 11, 8, 7, 10, 9, 17, 15, 14, 16]), (21, [19, 18, 13, 12, 6, 5, 2, 1, 0, 4, 3, 11, 8, 7, 10, 9, 17, 15, 14, 16, 20]), (22, [19, 18, 13, 12, 6, 5, 2, 1, 0, 4, 3, 11, 8, 7, 10, 9, 17, 15, 14, 16, 21, 20]), (23, [19, 18, 13, 12, 6, 5, 2, 1, 0, 4, 3, 11, 8, 7, 10, 9, 17, 15, 14, 16, 22, 21, 20]), (24, [23, 19, 18, 13, 12, 6, 5, 2, 1, 0, 4, 3, 11, 8, 7, 10, 9, 17, 15, 14, 16, 22, 21, 20]), (25, [23, 19, 18, 13, 12, 6, 5, 2, 1, 0, 4, 3, 11, 8, 7, 10, 9, 17, 15, 14, 16, 22, 21, 20]), (26, [23, 19, 18, 13, 12, 6, 5, 2, 1, 0, 4, 3, 11, 8, 7, 10, 9, 17, 15, 14, 16, 22, 21, 20, 24, 25]), (27, [19, 18, 13, 12, 6, 5, 2, 1, 0, 4, 3, 11, 8, 7, 10, 9, 17, 15, 14, 16, 23, 22, 21, 20, 26, 24, 25]), (28, [19, 18, 13, 12, 6, 5, 2, 1, 0, 4, 3, 11, 8, 7, 10, 9, 17, 15, 14, 16, 27, 23, 22, 21, 20, 26, 24, 25]), (29, [28, 19, 18, 13, 12, 6, 5, 2, 1, 0, 4, 3, 11, 8, 7, 10, 9, 17, 15, 14, 16, 27, 23, 22, 21, 20, 26, 24, 25])] [(28, 0), (29, 1), (30, 2), (31, 3), (32, 4), (33, 5), (34, 6), (35, 7), (36, 8), (37, 9), (38, 10), (39, 11), (40, 12), (41, 13), (42, 14), (43, 15), (44, 16), (45, 17), (46, 18), (47, 19), (48, 20), (49, 21), (50, 22), (51, 23), (52, 24), (53, 25), (54, 26), (55, 27), (56, 28), (2, 29)] [0, 1, 2, 3, 4, 5, 6, 7, 8, 9, 10, 11, 12, 13, 14, 15, 16, 17, 18, 19, 20, 21, 22, 23, 24, 25, 26, 27, 28, 29] #[true, true, true, true, true, true, true, true, true, true, true, true, true, true, true, true, true, true, true, true, true, true, true, true, true, true, true, true, true, true] 30 0 (by kernel_rfl) (by kernel_rfl) ?hfr_2 ?h0_2 ?mono_2 ?steps_2 ?_
  case hfr_2 => intro x; (simp [frOf, fill, Act.put, List.lookup]; with_reducible rfl)
  case h0_2 => exact HI
  case mono_2 => exact (Pm.cons (fun _ _ _ _ h => h) (Pm.cons (fun _ _ _ _ h => h) (Pm.cons (fun _ _ _ _ h => h) (Pm.cons (fun _ _ _ _ h => h) (Pm.cons (fun _ _ _ _ h => h) (Pm.cons (fun _ _ _ _ h => h) (Pm.cons (fun _ _ _ _ h => h) (Pm.cons (fun _ _ _ _ h => h) (Pm.cons (fun _ _ _ _ h => h) (Pm.cons (fun _ _ _ _ h => h) (Pm.cons (fun _ _ _ _ h => h) (Pm.cons (fun _ _ _ _ h => h) (Pm.cons (fun _ _ _ _ h => h) (Pm.cons (fun _ _ _ _ h => h) (Pm.cons (fun _ _ _ _ h => h) (Pm.cons (fun _ _ _ hG ⟨A_r15, n_r15, B_r15, m_r15, C_r15, k_r15, e, h⟩ => ⟨A_r15, n_r15, B_r15, m_r15, C_r15, k_r15, e, h.below hG⟩) (Pm.cons (fun _ _ _ _ h => h) (Pm.cons (fun _ _ _ _ h => h) (Pm.cons (fun _ _ _ _ h => h) (Pm.cons (fun _ _ _ _ h => h) (Pm.cons (fun _ _ _ _ h => h) (Pm.cons (fun _ _ _ _ h => h) (Pm.cons (fun _ _ _ _ h => h) (Pm.cons (fun _ _ _ _ h => h) (Pm.cons (fun _ _ _ _ h => h) (Pm.cons (fun _ _ _ _ h => h) (Pm.cons (fun _ _ _ _ h => h) (Pm.cons (fun _ _ _ _ h => h) (Pm.cons (fun _ _ _ _ h => h) (Pm.cons (fun _ _ _ _ h => h) Pm.nil))))))))))))))))))))))))))))))
  case steps_2 =>
    refine Steps.cons (RStep.of rfl fun x W f hI hD K9 hK => ?_) ?_
    · clear hD
      have c0 := hI.now.2.1.c 0 _ rfl
      have c1 := hI.now.2.1.c 1 _ rfl
      have c2 := hI.now.2.1.c 2 _ rfl
      have c3 := hI.now.2.1.c 3 _ rfl
      go_simp
      exact hK (.agg #[.slice A_x X.store.cells.length n_x, .slice B_x X.store.roots.length m_x, .slice C_x X.colours.length k_x, .bool X.active]) _ _ (by kernel_rfl) (Below.refl _ _) (hI) rfl
    refine Steps.cons (RStep.of rfl fun x W f hI hD K9 hK => ?_) ?_
    · have e0 : x 0 = .agg #[.slice A_x X.store.cells.length n_x, .slice B_x X.store.roots.length m_x, .slice C_x X.colours.length k_x, .bool X.active] := hD 0 (by decide)
      clear hD
      simp only [e0] at hK ⊢
      go_wp2_with fail
      (with_reducible refine (implPaintValid_any _ X _ hI.now.1).mono ?_); rw [HL.out.1]
      rintro e w6 ⟨rfl, hB⟩
      exact hK _ _ _ (by kernel_rfl) hB (hI.step hB) rfl
    refine Steps.cons (RStep.of rfl fun x W f hI hD K9 hK => ?_) ?_
    · have e1 : x 1 = .bool true := hD 1 (by decide)
      clear hD
      simp only [e1] at hK ⊢
      go_simp
      exact hK (.bool true) _ _ (by kernel_rfl) (Below.refl _ _) (hI) rfl
    refine Steps.cons (RStep.of rfl fun x W f hI hD K9 hK => ?_) ?_
    · have e2 : x 2 = .bool true := hD 2 (by decide)
      clear hD
      simp only [e2] at hK ⊢
      go_simp
      exact hK (.pointer (some ⟨bx_x, 3, none⟩)) _ _ (by kernel_rfl) (Below.refl _ _) (hI) rfl
    refine Steps.cons (RStep.of rfl fun x W f hI hD K9 hK => ?_) ?_
    · have e2 : x 2 = .bool true := hD 2 (by decide)
      have e3 : x 3 = .pointer (some ⟨bx_x, 3, none⟩) := hD 3 (by decide)
      clear hD
      have c0 := hI.now.2.1.c 3 _ rfl
      rw [HL.out.2.1] at c0
      simp only [e2, e3] at hK ⊢
      go_simp
      exact hK (.bool true) _ _ (by kernel_rfl) (Below.refl _ _) (hI) rfl
    refine Steps.cons (RStep.of rfl fun x W f hI hD K9 hK => ?_) ?_
    · have e2 : x 2 = .bool true := hD 2 (by decide)
      have e4 : x 4 = .bool true := hD 4 (by decide)
      clear hD
      simp only [e2, e4] at hK ⊢
      go_simp
      exact hK (.bool true) _ _ (by kernel_rfl) (Below.refl _ _) (hI) rfl
    refine Steps.cons (RStep.of rfl fun x W f hI hD K9 hK => ?_) ?_
    · have e5 : x 5 = .bool true := hD 5 (by decide)
      clear hD
      simp only [e5] at hK ⊢
      go_simp
      exact hK (.bool true) _ _ (by kernel_rfl) (Below.refl _ _) (hI) rfl
    refine Steps.cons (RStep.of rfl fun x W f hI hD K9 hK => ?_) ?_
    · have e6 : x 6 = .bool true := hD 6 (by decide)
      clear hD
      simp only [e6] at hK ⊢
      go_simp
      exact hK (.pointer (some ⟨bx_x, 0, none⟩)) _ _ (by kernel_rfl) (Below.refl _ _) (hI) rfl
    refine Steps.cons (RStep.of rfl fun x W f hI hD K9 hK => ?_) ?_
    · have e6 : x 6 = .bool true := hD 6 (by decide)
      have e7 : x 7 = .pointer (some ⟨bx_x, 0, none⟩) := hD 7 (by decide)
      clear hD
      have c0 := hI.now.2.1.c 0 _ rfl
      have c1 := hI.now.2.1.c 1 _ rfl
      simp only [e6, e7] at hK ⊢
      go_simp
      exact hK (.agg #[.slice A_x X.store.cells.length n_x, .slice B_x X.store.roots.length m_x]) _ _ (by kernel_rfl) (Below.refl _ _) (hI) rfl
    refine Steps.cons (RStep.of rfl fun x W f hI hD K9 hK => ?_) ?_
    · have e6 : x 6 = .bool true := hD 6 (by decide)
      clear hD
      simp only [e6] at hK ⊢
      go_simp
      exact hK (.pointer (some ⟨bx_p, 0, none⟩)) _ _ (by kernel_rfl) (Below.refl _ _) (hI) rfl
    refine Steps.cons (RStep.of rfl fun x W f hI hD K9 hK => ?_) ?_
    · have e6 : x 6 = .bool true := hD 6 (by decide)
      have e9 : x 9 = .pointer (some ⟨bx_p, 0, none⟩) := hD 9 (by decide)
      clear hD
      have c0 := hI.now.2.2.2.1.c 0 _ rfl
      have c1 := hI.now.2.2.2.1.c 1 _ rfl
      simp only [e6, e9] at hK ⊢
      go_simp
      exact hK (.agg #[.slice A_p p.store.cells.length n_p, .slice B_p p.store.roots.length m_p]) _ _ (by kernel_rfl) (Below.refl _ _) (hI) rfl
    refine Steps.cons (RStep.of rfl fun x W f hI hD K9 hK => ?_) ?_
    · have e6 : x 6 = .bool true := hD 6 (by decide)
      have e8 : x 8 = .agg #[.slice A_x X.store.cells.length n_x, .slice B_x X.store.roots.length m_x] := hD 8 (by decide)
      have e10 : x 10 = .agg #[.slice A_p p.store.cells.length n_p, .slice B_p p.store.roots.length m_p] := hD 10 (by decide)
      clear hD
      simp only [e6, e8, e10] at hK ⊢
      go_wp2_with fail
      (with_reducible refine (sameHeap_any _ _ X.store p.store _ (hI.now.1).st (hI.now.2.2.1).st).mono ?_); rw [eqB_of HL.out.2.2.1]
      rintro e w6 ⟨rfl, hB⟩
      exact hK _ _ _ (by kernel_rfl) hB (hI.step hB) rfl
    refine Steps.cons (RStep.of rfl fun x W f hI hD K9 hK => ?_) ?_
    · have e6 : x 6 = .bool true := hD 6 (by decide)
      have e11 : x 11 = .bool true := hD 11 (by decide)
      clear hD
      simp only [e6, e11] at hK ⊢
      go_simp
      exact hK (.bool true) _ _ (by kernel_rfl) (Below.refl _ _) (hI) rfl
    refine Steps.cons (RStep.of rfl fun x W f hI hD K9 hK => ?_) ?_
    · have e12 : x 12 = .bool true := hD 12 (by decide)
      clear hD
      simp only [e12] at hK ⊢
      go_simp
      exact hK (.bool true) _ _ (by kernel_rfl) (Below.refl _ _) (hI) rfl
    refine Steps.cons (RStep.of rfl fun x W f hI hD K9 hK => ?_) ?_
    · have e13 : x 13 = .bool true := hD 13 (by decide)
      clear hD
      have c0 := hI.now.2.1.c 0 _ rfl
      have c1 := hI.now.2.1.c 1 _ rfl
      have c2 := hI.now.2.1.c 2 _ rfl
      have c3 := hI.now.2.1.c 3 _ rfl
      simp only [e13] at hK ⊢
      go_simp
      exact hK (.agg #[.slice A_x X.store.cells.length n_x, .slice B_x X.store.roots.length m_x, .slice C_x X.colours.length k_x, .bool X.active]) _ _ (by kernel_rfl) (Below.refl _ _) (hI) rfl
    refine Steps.cons (RStep.of rfl fun x W f hI hD K9 hK => ?_) ?_
    · have e13 : x 13 = .bool true := hD 13 (by decide)
      have e14 : x 14 = .agg #[.slice A_x X.store.cells.length n_x, .slice B_x X.store.roots.length m_x, .slice C_x X.colours.length k_x, .bool X.active] := hD 14 (by decide)
      clear hD
      simp only [e13, e14] at hK ⊢
      go_wp2_with fail
      (with_reducible refine (implPaintStart_any _ X _ hI.now.1).mono ?_); rw [HL.out.2.2.2.1]
      rintro e w6 ⟨v6, rfl, oH, hB⟩
      obtain ⟨A_r15, n_r15, B_r15, m_r15, C_r15, k_r15, rfl⟩ := oH.rp.parts
      exact hK (.agg #[.slice A_r15 X.store.cells.length n_r15, .slice B_r15 X.store.roots.length m_r15, .slice C_r15 X.colours.length k_r15, .bool X.active]) _ _ (by kernel_rfl) hB (hI.step hB) ⟨A_r15, n_r15, B_r15, m_r15, C_r15, k_r15, rfl, oH.rp⟩
    refine Steps.cons (RStep.of rfl fun x W f hI hD K9 hK => ?_) ?_
    · have e13 : x 13 = .bool true := hD 13 (by decide)
      clear hD
      have c0 := hI.now.2.1.c 0 _ rfl
      have c1 := hI.now.2.1.c 1 _ rfl
      have c2 := hI.now.2.1.c 2 _ rfl
      have c3 := hI.now.2.1.c 3 _ rfl
      simp only [e13] at hK ⊢
      go_simp
      exact hK (.agg #[.slice A_x X.store.cells.length n_x, .slice B_x X.store.roots.length m_x, .slice C_x X.colours.length k_x, .bool X.active]) _ _ (by kernel_rfl) (Below.refl _ _) (hI) rfl
    refine Steps.cons (RStep.of rfl fun x W f hI hD K9 hK => ?_) ?_
    · have e13 : x 13 = .bool true := hD 13 (by decide)
      have h15 : (fun v W => ∃ A_r15 n_r15 B_r15 m_r15 C_r15 k_r15, v = (.agg #[.slice A_r15 X.store.cells.length n_r15, .slice B_r15 X.store.roots.length m_r15, .slice C_r15 X.colours.length k_r15, .bool X.active]) ∧ RPt W (.agg #[.slice A_r15 X.store.cells.length n_r15, .slice B_r15 X.store.roots.length m_r15, .slice C_r15 X.colours.length k_r15, .bool X.active]) X) (x 15) W := hD 15 (by decide)
      have e16 : x 16 = .agg #[.slice A_x X.store.cells.length n_x, .slice B_x X.store.roots.length m_x, .slice C_x X.colours.length k_x, .bool X.active] := hD 16 (by decide)
      clear hD
      simp only [e13, e16] at hK ⊢
      obtain ⟨A_r15, n_r15, B_r15, m_r15, C_r15, k_r15, e15, h15⟩ := h15
      simp only [e15] at hK ⊢
      go_wp2_with fail
      (with_reducible refine (samePaint_eq _ _ X _ h15 hI.now.1).mono ?_)
      rintro e w6 ⟨rfl, hB⟩
      exact hK _ _ _ (by kernel_rfl) hB (hI.step hB) rfl
    refine Steps.cons (RStep.of rfl fun x W f hI hD K9 hK => ?_) ?_
    · have e13 : x 13 = .bool true := hD 13 (by decide)
      have e17 : x 17 = .bool true := hD 17 (by decide)
      clear hD
      simp only [e13, e17] at hK ⊢
      go_simp
      exact hK (.bool true) _ _ (by kernel_rfl) (Below.refl _ _) (hI) rfl
    refine Steps.cons (RStep.of rfl fun x W f hI hD K9 hK => ?_) ?_
    · have e18 : x 18 = .bool true := hD 18 (by decide)
      clear hD
      simp only [e18] at hK ⊢
      go_simp
      exact hK (.bool true) _ _ (by kernel_rfl) (Below.refl _ _) (hI) rfl
    refine Steps.cons (RStep.of rfl fun x W f hI hD K9 hK => ?_) ?_
    · have e19 : x 19 = .bool true := hD 19 (by decide)
      clear hD
      simp only [e19] at hK ⊢
      go_simp
      exact hK (.pointer (some ⟨bx_p, 3, none⟩)) _ _ (by kernel_rfl) (Below.refl _ _) (hI) rfl
    refine Steps.cons (RStep.of rfl fun x W f hI hD K9 hK => ?_) ?_
    · have e19 : x 19 = .bool true := hD 19 (by decide)
      have e20 : x 20 = .pointer (some ⟨bx_p, 3, none⟩) := hD 20 (by decide)
      clear hD
      have c0 := hI.now.2.2.2.1.c 3 _ rfl
      rw [HA.out] at c0
      simp only [e19, e20] at hK ⊢
      go_simp
      exact hK (.bool true) _ _ (by kernel_rfl) (Below.refl _ _) (hI) rfl
    refine Steps.cons (RStep.of rfl fun x W f hI hD K9 hK => ?_) ?_
    · have e19 : x 19 = .bool true := hD 19 (by decide)
      have e21 : x 21 = .bool true := hD 21 (by decide)
      clear hD
      simp only [e19, e21] at hK ⊢
      go_simp
      exact hK (.bool false) _ _ (by kernel_rfl) (Below.refl _ _) (hI) rfl
    refine Steps.cons (RStep.of rfl fun x W f hI hD K9 hK => ?_) ?_
    · have e19 : x 19 = .bool true := hD 19 (by decide)
      have e22 : x 22 = .bool false := hD 22 (by decide)
      clear hD
      simp only [e19, e22] at hK ⊢
      go_simp
      exact hK (.bool false) _ _ (by kernel_rfl) (Below.refl _ _) (hI) rfl
    refine Steps.cons (RStep.of rfl fun x W f hI hD K9 hK => ?_) ?_
    · have e23 : x 23 = .bool false := hD 23 (by decide)
      clear hD
      have c0 := hI.now.2.1.c 0 _ rfl
      have c1 := hI.now.2.1.c 1 _ rfl
      have c2 := hI.now.2.1.c 2 _ rfl
      have c3 := hI.now.2.1.c 3 _ rfl
      simp only [e23] at hK ⊢
      go_simp
      exact hK (.agg #[.slice A_x X.store.cells.length n_x, .slice B_x X.store.roots.length m_x, .slice C_x X.colours.length k_x, .bool X.active]) _ _ (by kernel_rfl) (Below.refl _ _) (hI) rfl
    refine Steps.cons (RStep.of rfl fun x W f hI hD K9 hK => ?_) ?_
    · have e23 : x 23 = .bool false := hD 23 (by decide)
      clear hD
      have c0 := hI.now.2.2.2.1.c 0 _ rfl
      have c1 := hI.now.2.2.2.1.c 1 _ rfl
      have c2 := hI.now.2.2.2.1.c 2 _ rfl
      have c3 := hI.now.2.2.2.1.c 3 _ rfl
      simp only [e23] at hK ⊢
      go_simp
      exact hK (.agg #[.slice A_p p.store.cells.length n_p, .slice B_p p.store.roots.length m_p, .slice C_p p.colours.length k_p, .bool p.active]) _ _ (by kernel_rfl) (Below.refl _ _) (hI) rfl
    refine Steps.cons (RStep.of rfl fun x W f hI hD K9 hK => ?_) ?_
    · have e23 : x 23 = .bool false := hD 23 (by decide)
      have e24 : x 24 = .agg #[.slice A_x X.store.cells.length n_x, .slice B_x X.store.roots.length m_x, .slice C_x X.colours.length k_x, .bool X.active] := hD 24 (by decide)
      have e25 : x 25 = .agg #[.slice A_p p.store.cells.length n_p, .slice B_p p.store.roots.length m_p, .slice C_p p.colours.length k_p, .bool p.active] := hD 25 (by decide)
      clear hD
      simp only [e23, e24, e25] at hK ⊢
      go_wp2_with fail
      (with_reducible refine (samePaint_eq _ _ p _ (Eq.mp (congrArg (RPt W _) (HL.out.2.2.2.2 HA.out)) hI.now.1) hI.now.2.2.1).mono ?_)
      rintro e w6 ⟨rfl, hB⟩
      exact hK _ _ _ (by kernel_rfl) hB (hI.step hB) rfl
    refine Steps.cons (RStep.of rfl fun x W f hI hD K9 hK => ?_) ?_
    · have e19 : x 19 = .bool true := hD 19 (by decide)
      have e23 : x 23 = .bool false := hD 23 (by decide)
      have e26 : x 26 = .bool true := hD 26 (by decide)
      clear hD
      simp only [e19, e23, e26] at hK ⊢
      go_simp
      exact hK (.bool true) _ _ (by kernel_rfl) (Below.refl _ _) (hI) rfl
    refine Steps.cons (RStep.of rfl fun x W f hI hD K9 hK => ?_) ?_
    · have e19 : x 19 = .bool true := hD 19 (by decide)
      have e27 : x 27 = .bool true := hD 27 (by decide)
      clear hD
      simp only [e19, e27] at hK ⊢
      go_simp
      exact hK (.bool true) _ _ (by kernel_rfl) (Below.refl _ _) (hI) rfl
    refine Steps.cons (RStep.of rfl fun x W f hI hD K9 hK => ?_) ?_
    · have e28 : x 28 = .bool true := hD 28 (by decide)
      clear hD
      simp only [e28] at hK ⊢
      go_simp
      exact hK (.bool true) _ _ (by kernel_rfl) (Below.refl _ _) (hI) rfl
    exact Steps.nil
  intro x W hI hV
  have e0 : x 0 = .agg #[.slice A_x X.store.cells.length n_x, .slice B_x X.store.roots.length m_x, .slice C_x X.colours.length k_x, .bool X.active] := hV 0 (by decide)
  have e1 : x 1 = .bool true := hV 1 (by decide)
  have e2 : x 2 = .bool true := hV 2 (by decide)
  have e3 : x 3 = .pointer (some ⟨bx_x, 3, none⟩) := hV 3 (by decide)
  have e4 : x 4 = .bool true := hV 4 (by decide)
  have e5 : x 5 = .bool true := hV 5 (by decide)
  have e6 : x 6 = .bool true := hV 6 (by decide)
  have e7 : x 7 = .pointer (some ⟨bx_x, 0, none⟩) := hV 7 (by decide)
  have e8 : x 8 = .agg #[.slice A_x X.store.cells.length n_x, .slice B_x X.store.roots.length m_x] := hV 8 (by decide)
  have e9 : x 9 = .pointer (some ⟨bx_p, 0, none⟩) := hV 9 (by decide)
  have e10 : x 10 = .agg #[.slice A_p p.store.cells.length n_p, .slice B_p p.store.roots.length m_p] := hV 10 (by decide)
  have e11 : x 11 = .bool true := hV 11 (by decide)
  have e12 : x 12 = .bool true := hV 12 (by decide)
  have e13 : x 13 = .bool true := hV 13 (by decide)
  have e14 : x 14 = .agg #[.slice A_x X.store.cells.length n_x, .slice B_x X.store.roots.length m_x, .slice C_x X.colours.length k_x, .bool X.active] := hV 14 (by decide)
  have h15 : (fun v W => ∃ A_r15 n_r15 B_r15 m_r15 C_r15 k_r15, v = (.agg #[.slice A_r15 X.store.cells.length n_r15, .slice B_r15 X.store.roots.length m_r15, .slice C_r15 X.colours.length k_r15, .bool X.active]) ∧ RPt W (.agg #[.slice A_r15 X.store.cells.length n_r15, .slice B_r15 X.store.roots.length m_r15, .slice C_r15 X.colours.length k_r15, .bool X.active]) X) (x 15) W := hV 15 (by decide)
  have e16 : x 16 = .agg #[.slice A_x X.store.cells.length n_x, .slice B_x X.store.roots.length m_x, .slice C_x X.colours.length k_x, .bool X.active] := hV 16 (by decide)
  have e17 : x 17 = .bool true := hV 17 (by decide)
  have e18 : x 18 = .bool true := hV 18 (by decide)
  have e19 : x 19 = .bool true := hV 19 (by decide)
  have e20 : x 20 = .pointer (some ⟨bx_p, 3, none⟩) := hV 20 (by decide)
  have e21 : x 21 = .bool true := hV 21 (by decide)
  have e22 : x 22 = .bool false := hV 22 (by decide)
  have e23 : x 23 = .bool false := hV 23 (by decide)
  have e24 : x 24 = .agg #[.slice A_x X.store.cells.length n_x, .slice B_x X.store.roots.length m_x, .slice C_x X.colours.length k_x, .bool X.active] := hV 24 (by decide)
  have e25 : x 25 = .agg #[.slice A_p p.store.cells.length n_p, .slice B_p p.store.roots.length m_p, .slice C_p p.colours.length k_p, .bool p.active] := hV 25 (by decide)
  have e26 : x 26 = .bool true := hV 26 (by decide)
  have e27 : x 27 = .bool true := hV 27 (by decide)
  have e28 : x 28 = .bool true := hV 28 (by decide)
  have e29 : x 29 = .bool true := hV 29 (by decide)
  clear hV
  simp only [e0, e1, e2, e3, e4, e5, e6, e7, e8, e9, e10, e11, e12, e13, e14, e16, e17, e18, e19, e20, e21, e22, e23, e24, e25, e26, e27, e28, e29]
  clear h15
  rw [hR]
  refine wpAny_done (by kernel_rfl) ?_ _
  clear hR
  replace HI := hI
  clear hI
  have HB := HI.now.2.2.2.2
  have zB := HB.size
  clear HI
  go_wp2_with fail
  go_ret
  exact ⟨rfl, blw_⟩
end Go.Proofs.Ytopbngfghpgbnaa
