/- FnSnapValid: the law's call returns true. -/
import Derived.Test.YteilaalababfpaaChecked
import Derived.Deep.QuietTactic
import Derived.BigQuiet
import Derived.Deep.RegionWith
import Derived.Test.YteilaalababfpaaGrCtx
import Derived.Test.YteilaalababfpaaGrDrawN
import Derived.Test.YteilaalababfpaaGrSam
import Derived.Test.YteilaalababfpaaGrSame
import Derived.Test.YteilaalababfpaaSnapV
import Derived.Test.YteilaalababfpaaGrIso
namespace Go.Proofs.Yteilaalababfpaa
open Go.RowKit
set_option maxRecDepth 100000
set_option linter.unusedSimpArgs false
set_option linter.unusedVariables false
set_option maxHeartbeats 8000000 in
theorem walkSnapValid (C : Option Addr) (bs : List Int) (c : Nat) (w : World) (hr : RF fu w C bs) (hb : ∀ x ∈ bs, 0 ≤ x ∧ x < 256) (hc : bs.length ≤ c) (hc2 : c ≤ 9223372036854775807) :
    Calls Try.prog 3 #[.slice C bs.length c] w fun e w' => e = .returned (.bool true) ∧ Below w.heap.size w w' := by
  by_cases hbig : 1048576 < bs.length
  · go_enter Try.func3, Try.ntmps3
    go_wp2
    go_ret
    exact ⟨rfl, blw_⟩
  go_enter Try.func3, Try.ntmps3
  go_wp2_with fail
  (with_reducible refine (drawSnapValid_any C bs c _ hr hb hc hc2).mono ?_); rintro e w1 ⟨v1, p, rfl, hV, hB⟩
  have hV_p := hV
  clear hV
  obtain ⟨A_p, n_p, B_p, m_p, C_p, k_p, D_p, l_p, rfl⟩ := hV_p.parts
  clear hr hb
  have zB := hB.size
  go_upto_region 4 with fail
  refine Code.gen (Stb (fun W => RTw W (.agg #[.slice A_p p.store.cells.length n_p, .slice B_p p.store.roots.length m_p, .slice C_p p.x.length k_p, .slice D_p p.y.length l_p]) p ∧ Bx W (w1.heap.size) [.slice A_p p.store.cells.length n_p, .slice B_p p.store.roots.length m_p, .slice C_p p.x.length k_p, .slice D_p p.y.length l_p] ∧ Below w.heap.size w W)) (Stb.and (Stb.rtw (hV_p.below blw_)) (Stb.and (Stb.bx (Bx.new w1 [.slice A_p p.store.cells.length n_p, .slice B_p p.store.roots.length m_p, .slice C_p p.x.length k_p, .slice D_p p.y.length l_p] 29)) (Stb.here blw_))) ?_
  generalize w1.heap.size = bx_p
  clear hV_p hB zB
  rintro W HI
  have c_p0 := HI.now.2.1.c 0 _ rfl
  have c_p1 := HI.now.2.1.c 1 _ rfl
  have c_p2 := HI.now.2.1.c 2 _ rfl
  have c_p3 := HI.now.2.1.c 3 _ rfl
  have z_p := HI.now.2.1.lt
  go_wp2_with fail
  refine Calls.gen (Stb (fun W => RTw W (.agg #[.slice A_p p.store.cells.length n_p, .slice B_p p.store.roots.length m_p, .slice C_p p.x.length k_p, .slice D_p p.y.length l_p]) p ∧ Bx W bx_p [.slice A_p p.store.cells.length n_p, .slice B_p p.store.roots.length m_p, .slice C_p p.x.length k_p, .slice D_p p.y.length l_p] ∧ Below w.heap.size w W)) (HI.step blw_) ?_
  clear c_p0 c_p1 c_p2 c_p3 z_p
  clear HI 
  rintro W HI
  (with_reducible refine (implSnapValid_any _ p _ HI.now.1).mono ?_); rintro e w2 ⟨rfl, hB⟩
  replace HI := HI.step hB
  clear hB
  have c_p0 := HI.now.2.1.c 0 _ rfl
  have c_p1 := HI.now.2.1.c 1 _ rfl
  have c_p2 := HI.now.2.1.c 2 _ rfl
  have c_p3 := HI.now.2.1.c 3 _ rfl
  have z_p := HI.now.2.1.lt
  go_wp2_with fail
  refine Calls.gen (Stb (fun W => RTw W (.agg #[.slice A_p p.store.cells.length n_p, .slice B_p p.store.roots.length m_p, .slice C_p p.x.length k_p, .slice D_p p.y.length l_p]) p ∧ Bx W bx_p [.slice A_p p.store.cells.length n_p, .slice B_p p.store.roots.length m_p, .slice C_p p.x.length k_p, .slice D_p p.y.length l_p] ∧ Below w.heap.size w W)) (HI.step blw_) ?_
  clear c_p0 c_p1 c_p2 c_p3 z_p
  clear HI 
  rintro W HI
  (with_reducible refine (specSnapValid_any _ p _ HI.now.1).mono ?_); rintro e w2 ⟨rfl, hB⟩
  replace HI := HI.step hB
  clear hB
  rcases bool_ft (snapM p) with hva | hva
  · rw [hva]
    go_wp2_with fail
    refine Calls.gen (Stb (fun W => RTw W (.agg #[.slice A_p p.store.cells.length n_p, .slice B_p p.store.roots.length m_p, .slice C_p p.x.length k_p, .slice D_p p.y.length l_p]) p ∧ Bx W bx_p [.slice A_p p.store.cells.length n_p, .slice B_p p.store.roots.length m_p, .slice C_p p.x.length k_p, .slice D_p p.y.length l_p] ∧ Below w.heap.size w W)) (HI.step blw_) ?_
    clear HI 
    rintro W HI
    (with_reducible refine (alive_any _).mono ?_); rintro e w2 ⟨rfl, hB⟩
    replace HI := HI.step hB
    clear hB
    have HB := HI.now.2.2
    have zB := HB.size
    clear HI
    go_wp2_with fail
    go_ret
    exact ⟨rfl, blw_⟩
  by_cases hz : p.x.length = 0
  · have c_p0 := HI.now.2.1.c 0 _ rfl
    have c_p1 := HI.now.2.1.c 1 _ rfl
    have c_p2 := HI.now.2.1.c 2 _ rfl
    have c_p3 := HI.now.2.1.c 3 _ rfl
    have z_p := HI.now.2.1.lt
    rw [hva]
    rw [hz] at c_p2
    go_wp2_with fail
    refine Calls.gen (Stb (fun W => RTw W (.agg #[.slice A_p p.store.cells.length n_p, .slice B_p p.store.roots.length m_p, .slice C_p p.x.length k_p, .slice D_p p.y.length l_p]) p ∧ Bx W bx_p [.slice A_p p.store.cells.length n_p, .slice B_p p.store.roots.length m_p, .slice C_p p.x.length k_p, .slice D_p p.y.length l_p] ∧ Below w.heap.size w W)) (HI.step blw_) ?_
    clear c_p0 c_p1 c_p2 c_p3 z_p
    clear HI 
    rintro W HI
    (with_reducible refine (alive_any _).mono ?_); rintro e w2 ⟨rfl, hB⟩
    replace HI := HI.step hB
    clear hB
    have HB := HI.now.2.2
    have zB := HB.size
    clear HI
    go_wp2_with fail
    go_ret
    exact ⟨rfl, blw_⟩
  have hz1 : ((p.x.length : Int) == 0) = false := by rw [beq_eq_false_iff_ne]; omega
  have HL := Lib.hid (law_SnapValid hva hz)
  have HS := Lib.hid (snap_smallM hva)
  rw [hva]
  have hmk := mk_bools p.x.length (by have := HS.out; omega)
  have c_p0 := HI.now.2.1.c 0 _ rfl
  have c_p1 := HI.now.2.1.c 1 _ rfl
  have c_p2 := HI.now.2.1.c 2 _ rfl
  have c_p3 := HI.now.2.1.c 3 _ rfl
  have z_p := HI.now.2.1.lt
  go_upto_region 11 with fail
  have hlen : p.x.length ≤ 40 ∧ 0 < p.x.length := by have := HS.out; omega
  clear hz
  have HO9 : OF 4 fb (w2.alloc (.cells (rowF fb (List.replicate p.x.length false)) 4 (0, 0))) (some ⟨w2.heap.size, 0, none⟩) p.x.length (List.replicate p.x.length false) := OF.of_blkn (by simp) (heap_alloc_at _ _ _ rfl) (by simp only [maxLen]; simp; omega)
  have m0 : (w2.alloc (.cells (rowF fb (List.replicate p.x.length false)) 4 (0, 0))).cell? ⟨w2.heap.size, 0, none⟩ = some (.bool false) := HO9.cell (List.getElem?_replicate_of_lt hlen.2)
  have f0 := HO9.frozen 0
  have i1 : (0 : Int) < (p.x.length : Int) := by omega
  have HO10 : OF 4 fb (w2.alloc (.cells ((rowF fb (List.replicate p.x.length false)).setIfInBounds 0 (.bool true)) 4 (0, 0))) (some ⟨w2.heap.size, 0, none⟩) p.x.length ((List.replicate p.x.length false).set 0 true) := OF.of_blkn (by simp) (by rw [show (rowF fb (List.replicate p.x.length false)).setIfInBounds 0 (.bool true) = rowF fb ((List.replicate p.x.length false).set 0 true) from rowF_set fb _ 0 true]; exact heap_alloc_at _ _ _ rfl) (by simp only [maxLen]; simp; omega)
  clear HO9
  go_upto_region 12 with fail
  refine Code.gen (Stb (fun W => OF 4 fb W (some ⟨(w2.heap.size), 0, none⟩) p.x.length ((List.replicate p.x.length false).set 0 true) ∧ RTw W (.agg #[.slice A_p p.store.cells.length n_p, .slice B_p p.store.roots.length m_p, .slice C_p p.x.length k_p, .slice D_p p.y.length l_p]) p ∧ Bx W bx_p [.slice A_p p.store.cells.length n_p, .slice B_p p.store.roots.length m_p, .slice C_p p.x.length k_p, .slice D_p p.y.length l_p] ∧ Below w.heap.size w W)) (Stb.and (fun _ hW => OF.below HO10 hW) (HI.step blw_)) ?_
  generalize w2.heap.size = bw
  clear c_p0 c_p1 c_p2 c_p3 z_p
  clear HI HO10 m0 f0 i1
  rintro W HI
  refine wp_region_R (by kernel_rfl) (fun R wd hR hwd => ?_)
  have hBd : Below W.heap.size W wd := by rw [hwd]; exact blw_
  replace HI := HI.step hBd
  clear hwd hBd
  refine rel_at (fr := ?fr_0) hR (fun f W => Stb (fun W => OF 4 fb W (some ⟨bw, 0, none⟩) p.x.length ((List.replicate p.x.length false).set 0 true) ∧ RTw W (.agg #[.slice A_p p.store.cells.length n_p, .slice B_p p.store.roots.length m_p, .slice C_p p.x.length k_p, .slice D_p p.y.length l_p]) p ∧ Bx W bx_p [.slice A_p p.store.cells.length n_p, .slice B_p p.store.roots.length m_p, .slice C_p p.x.length k_p, .slice D_p p.y.length l_p] ∧ Below w.heap.size w W) W) [(fun v W => v = .pointer (some ⟨bx_p, 0, none⟩)), (fun v W => v = .agg #[.slice A_p p.store.cells.length n_p, .slice B_p p.store.roots.length m_p]), (fun v W => v = .int .i64 (p.x.length : Int)), (fun v W => ∃ b : Nat, v = .slice (some ⟨b, 0, none⟩) p.x.length p.x.length ∧ RF fb W (some ⟨b, 0, none⟩) (List.replicate p.x.length false)), (fun v W => v = .int .i64 (p.x.length : Int)), (fun v W => ∃ b : Nat, v = .slice (some ⟨b, 0, none⟩) p.x.length p.x.length ∧ RF fb W (some ⟨b, 0, none⟩) (List.replicate p.x.length false)), (fun v W => ∃ b c : Nat, v = .agg #[.slice A_p p.store.cells.length n_p, .slice B_p p.store.roots.length m_p, .slice (some ⟨b, 0, none⟩) p.x.length p.x.length, .slice (some ⟨c, 0, none⟩) p.x.length p.x.length] ∧ RTw W v ⟨p.store, (List.replicate p.x.length false), (List.replicate p.x.length false)⟩), (fun v W => v = .bool true), (fun v W => v = .bool true), (fun v W => v = .pointer (some ⟨bx_p, 0, none⟩)), (fun v W => v = .agg #[.slice A_p p.store.cells.length n_p, .slice B_p p.store.roots.length m_p]), (fun v W => v = .int .i64 (p.x.length : Int)), (fun v W => ∃ b : Nat, v = .slice (some ⟨b, 0, none⟩) p.x.length p.x.length ∧ RF fb W (some ⟨b, 0, none⟩) (List.replicate p.x.length false)), (fun v W => v = .slice (some ⟨bw, 0, none⟩) p.x.length p.x.length), (fun v W => ∃ b : Nat, v = .agg #[.slice A_p p.store.cells.length n_p, .slice B_p p.store.roots.length m_p, .slice (some ⟨b, 0, none⟩) p.x.length p.x.length, .slice (some ⟨bw, 0, none⟩) p.x.length p.x.length] ∧ RTw W v ⟨p.store, (List.replicate p.x.length false), (List.replicate p.x.length false).set 0 true⟩), (fun v W => v = .bool false), (fun v W => v = .bool true), (fun v W => v = .bool true), (fun v W => v = .bool true)] (fun W W' => Below W.heap.size W W') [(0, []), (1, [0]), (2, []), (3, [2]), (4, []), (5, [4]), (6, [1, 0, 3, 2, 5, 4]), (7, [6, 1, 0, 3, 2, 5, 4]), (8, [7, 6, 1, 0, 3, 2, 5, 4]), (9, [8, 7, 6, 1, 0, 3, 2, 5, 4]), (10, [8, 7, 6, 1, 0, 3, 2, 5, 4, 9]), (11, [8, 7, 6, 1, 0, 3, 2, 5, 4]), (12, [8, 7, 6, 1, 0, 3, 2, 5, 4, 11]), (13, [8, 7, 6, 1, 0, 3, 2, 5, 4]), (14, [8, 7, 6, 1, 0, 3, 2, 5, 4, 10, 9, 12, 11, 13]), (15, [8, 7, 6, 1, 0, 3, 2, 5, 4, 14, 10, 9, 12, 11, 13]), (16, [8, 7, 6, 1, 0, 3, 2, 5, 4, 15, 14, 10, 9, 12, 11, 13]), (17, [8, 7, 6, 1, 0, 3, 2, 5, 4, 16, 15, 14, 10, 9, 12, 11, 13]), (18, [17, 8, 7, 6, 1, 0, 3, 2, 5, 4, 16, 15, 14, 10, 9, 12, 11, 13])] [(34, 0), (35, 1), (36, 2), (37, 3), (38, 4), (39, 5), (40, 6), (41, 7), (42, 8), (43, 9), (44, 10), (45, 11), (46, 12), (47, 13), (48, 14), (49, 15), (50, 16), (51, 17), (2, 18)] [0, 1, 2, 3, 4, 5, 6, 7, 8, 9, 10, 11, 12, 13, 14, 15, 16, 17, 18] #[true, true, true, true, true, true, true, true, true, true, true, true, true, true, true, true, true, true, true] 19 0 (by kernel_rfl) (by kernel_rfl) ?hfr_0 ?h0_0 ?mono_0 ?steps_0 ?_
  case hfr_0 => intro x; (simp [frOf, fill, Act.put, List.lookup]; with_reducible rfl)
  case h0_0 => exact HI
  case mono_0 => exact (Pm.cons (fun _ _ _ _ h => h) (Pm.cons (fun _ _ _ _ h => h) (Pm.cons (fun _ _ _ _ h => h) (Pm.cons (fun _ _ _ hG ⟨b, e, h⟩ => ⟨b, e, h.below hG⟩) (Pm.cons (fun _ _ _ _ h => h) (Pm.cons (fun _ _ _ hG ⟨b, e, h⟩ => ⟨b, e, h.below hG⟩) (Pm.cons (fun _ _ _ hG ⟨b, c, e, h⟩ => ⟨b, c, e, h.below hG⟩) (Pm.cons (fun _ _ _ _ h => h) (Pm.cons (fun _ _ _ _ h => h) (Pm.cons (fun _ _ _ _ h => h) (Pm.cons (fun _ _ _ _ h => h) (Pm.cons (fun _ _ _ _ h => h) (Pm.cons (fun _ _ _ hG ⟨b, e, h⟩ => ⟨b, e, h.below hG⟩) (Pm.cons (fun _ _ _ _ h => h) (Pm.cons (fun _ _ _ hG ⟨b, e, h⟩ => ⟨b, e, h.below hG⟩) (Pm.cons (fun _ _ _ _ h => h) (Pm.cons (fun _ _ _ _ h => h) (Pm.cons (fun _ _ _ _ h => h) (Pm.cons (fun _ _ _ _ h => h) Pm.nil)))))))))))))))))))
  case steps_0 =>
    refine Steps.cons (RStep.of rfl fun x W f hI hD K9 hK => ?_) ?_
    · clear hD
      go_simp
      exact hK (.pointer (some ⟨bx_p, 0, none⟩)) _ _ (by kernel_rfl) (Below.refl _ _) (hI) rfl
    refine Steps.cons (RStep.of rfl fun x W f hI hD K9 hK => ?_) ?_
    · have e0 : x 0 = .pointer (some ⟨bx_p, 0, none⟩) := hD 0 (by decide)
      clear hD
      have c0 := hI.now.2.2.1.c 0 _ rfl
      have c1 := hI.now.2.2.1.c 1 _ rfl
      simp only [e0] at hK ⊢
      go_simp
      exact hK (.agg #[.slice A_p p.store.cells.length n_p, .slice B_p p.store.roots.length m_p]) _ _ (by kernel_rfl) (Below.refl _ _) (hI) rfl
    refine Steps.cons (RStep.of rfl fun x W f hI hD K9 hK => ?_) ?_
    · clear hD
      go_simp
      exact hK (.int .i64 (p.x.length : Int)) _ _ (by kernel_rfl) (Below.refl _ _) (hI) rfl
    refine Steps.cons (RStep.of rfl fun x W f hI hD K9 hK => ?_) ?_
    · have e2 : x 2 = .int .i64 (p.x.length : Int) := hD 2 (by decide)
      clear hD
      simp only [e2] at hK ⊢
      go_simp
      exact hK (.slice (some ⟨W.heap.size, 0, none⟩) p.x.length p.x.length) _ _ (by kernel_rfl) blw_ (hI.step blw_) ⟨_, rfl, (OF.of_blkn (T := 4) (c := p.x.length) (by simp) (heap_alloc_at _ _ _ rfl) (by simp only [maxLen]; simp; omega)).rf⟩
    refine Steps.cons (RStep.of rfl fun x W f hI hD K9 hK => ?_) ?_
    · clear hD
      go_simp
      exact hK (.int .i64 (p.x.length : Int)) _ _ (by kernel_rfl) (Below.refl _ _) (hI) rfl
    refine Steps.cons (RStep.of rfl fun x W f hI hD K9 hK => ?_) ?_
    · have e4 : x 4 = .int .i64 (p.x.length : Int) := hD 4 (by decide)
      clear hD
      simp only [e4] at hK ⊢
      go_simp
      exact hK (.slice (some ⟨W.heap.size, 0, none⟩) p.x.length p.x.length) _ _ (by kernel_rfl) blw_ (hI.step blw_) ⟨_, rfl, (OF.of_blkn (T := 4) (c := p.x.length) (by simp) (heap_alloc_at _ _ _ rfl) (by simp only [maxLen]; simp; omega)).rf⟩
    refine Steps.cons (RStep.of rfl fun x W f hI hD K9 hK => ?_) ?_
    · have e1 : x 1 = .agg #[.slice A_p p.store.cells.length n_p, .slice B_p p.store.roots.length m_p] := hD 1 (by decide)
      have h3 : (fun v W => ∃ b : Nat, v = .slice (some ⟨b, 0, none⟩) p.x.length p.x.length ∧ RF fb W (some ⟨b, 0, none⟩) (List.replicate p.x.length false)) (x 3) W := hD 3 (by decide)
      have h5 : (fun v W => ∃ b : Nat, v = .slice (some ⟨b, 0, none⟩) p.x.length p.x.length ∧ RF fb W (some ⟨b, 0, none⟩) (List.replicate p.x.length false)) (x 5) W := hD 5 (by decide)
      clear hD
      simp only [e1] at hK ⊢
      obtain ⟨b3, e3, h3⟩ := h3
      obtain ⟨b5, e5, h5⟩ := h5
      simp only [e3, e5] at hK ⊢
      go_simp
      exact hK (.agg #[.slice A_p p.store.cells.length n_p, .slice B_p p.store.roots.length m_p, .slice (some ⟨b3, 0, none⟩) p.x.length p.x.length, .slice (some ⟨b5, 0, none⟩) p.x.length p.x.length]) _ _ (by kernel_rfl) (Below.refl _ _) hI ⟨b3, b5, rfl, ⟨A_p, n_p, B_p, m_p, _, _, _, _, by simp; exact ⟨rfl, rfl⟩, hI.now.2.1.inv.1, h3, by simp; omega, h5, by simp; omega⟩⟩
    refine Steps.cons (RStep.of rfl fun x W f hI hD K9 hK => ?_) ?_
    · have h6 : (fun v W => ∃ b c : Nat, v = .agg #[.slice A_p p.store.cells.length n_p, .slice B_p p.store.roots.length m_p, .slice (some ⟨b, 0, none⟩) p.x.length p.x.length, .slice (some ⟨c, 0, none⟩) p.x.length p.x.length] ∧ RTw W v ⟨p.store, (List.replicate p.x.length false), (List.replicate p.x.length false)⟩) (x 6) W := hD 6 (by decide)
      clear hD
      obtain ⟨b3, b5, e6, h6⟩ := h6
      rw [e6] at h6
      simp only [e6] at hK ⊢
      go_wp2_with fail
      (with_reducible refine (implSnapValid_any _ ⟨p.store, (List.replicate p.x.length false), (List.replicate p.x.length false)⟩ _ h6).mono ?_); rw [HL.out.1]
      rintro e w6 ⟨rfl, hB⟩
      exact hK _ _ _ (by kernel_rfl) hB (hI.step hB) rfl
    refine Steps.cons (RStep.of rfl fun x W f hI hD K9 hK => ?_) ?_
    · have e7 : x 7 = .bool true := hD 7 (by decide)
      clear hD
      simp only [e7] at hK ⊢
      go_simp
      exact hK (.bool true) _ _ (by kernel_rfl) (Below.refl _ _) (hI) rfl
    refine Steps.cons (RStep.of rfl fun x W f hI hD K9 hK => ?_) ?_
    · have e8 : x 8 = .bool true := hD 8 (by decide)
      clear hD
      simp only [e8] at hK ⊢
      go_simp
      exact hK (.pointer (some ⟨bx_p, 0, none⟩)) _ _ (by kernel_rfl) (Below.refl _ _) (hI) rfl
    refine Steps.cons (RStep.of rfl fun x W f hI hD K9 hK => ?_) ?_
    · have e8 : x 8 = .bool true := hD 8 (by decide)
      have e9 : x 9 = .pointer (some ⟨bx_p, 0, none⟩) := hD 9 (by decide)
      clear hD
      have c0 := hI.now.2.2.1.c 0 _ rfl
      have c1 := hI.now.2.2.1.c 1 _ rfl
      simp only [e8, e9] at hK ⊢
      go_simp
      exact hK (.agg #[.slice A_p p.store.cells.length n_p, .slice B_p p.store.roots.length m_p]) _ _ (by kernel_rfl) (Below.refl _ _) (hI) rfl
    refine Steps.cons (RStep.of rfl fun x W f hI hD K9 hK => ?_) ?_
    · have e8 : x 8 = .bool true := hD 8 (by decide)
      clear hD
      simp only [e8] at hK ⊢
      go_simp
      exact hK (.int .i64 (p.x.length : Int)) _ _ (by kernel_rfl) (Below.refl _ _) (hI) rfl
    refine Steps.cons (RStep.of rfl fun x W f hI hD K9 hK => ?_) ?_
    · have e8 : x 8 = .bool true := hD 8 (by decide)
      have e11 : x 11 = .int .i64 (p.x.length : Int) := hD 11 (by decide)
      clear hD
      simp only [e8, e11] at hK ⊢
      go_simp
      exact hK (.slice (some ⟨W.heap.size, 0, none⟩) p.x.length p.x.length) _ _ (by kernel_rfl) blw_ (hI.step blw_) ⟨_, rfl, (OF.of_blkn (T := 4) (c := p.x.length) (by simp) (heap_alloc_at _ _ _ rfl) (by simp only [maxLen]; simp; omega)).rf⟩
    refine Steps.cons (RStep.of rfl fun x W f hI hD K9 hK => ?_) ?_
    · have e8 : x 8 = .bool true := hD 8 (by decide)
      clear hD
      simp only [e8] at hK ⊢
      go_simp
      exact hK (.slice (some ⟨bw, 0, none⟩) p.x.length p.x.length) _ _ (by kernel_rfl) (Below.refl _ _) (hI) rfl
    refine Steps.cons (RStep.of rfl fun x W f hI hD K9 hK => ?_) ?_
    · have e8 : x 8 = .bool true := hD 8 (by decide)
      have e10 : x 10 = .agg #[.slice A_p p.store.cells.length n_p, .slice B_p p.store.roots.length m_p] := hD 10 (by decide)
      have h12 : (fun v W => ∃ b : Nat, v = .slice (some ⟨b, 0, none⟩) p.x.length p.x.length ∧ RF fb W (some ⟨b, 0, none⟩) (List.replicate p.x.length false)) (x 12) W := hD 12 (by decide)
      have e13 : x 13 = .slice (some ⟨bw, 0, none⟩) p.x.length p.x.length := hD 13 (by decide)
      clear hD
      simp only [e8, e10, e13] at hK ⊢
      obtain ⟨b3, e12, h12⟩ := h12
      simp only [e12] at hK ⊢
      go_simp
      exact hK (.agg #[.slice A_p p.store.cells.length n_p, .slice B_p p.store.roots.length m_p, .slice (some ⟨b3, 0, none⟩) p.x.length p.x.length, .slice (some ⟨bw, 0, none⟩) p.x.length p.x.length]) _ _ (by kernel_rfl) (Below.refl _ _) hI ⟨b3, rfl, ⟨A_p, n_p, B_p, m_p, _, _, _, _, by simp; exact ⟨rfl, rfl⟩, hI.now.2.1.inv.1, h12, by simp; omega, hI.now.1.rf, by simp; omega⟩⟩
    refine Steps.cons (RStep.of rfl fun x W f hI hD K9 hK => ?_) ?_
    · have e8 : x 8 = .bool true := hD 8 (by decide)
      have h14 : (fun v W => ∃ b : Nat, v = .agg #[.slice A_p p.store.cells.length n_p, .slice B_p p.store.roots.length m_p, .slice (some ⟨b, 0, none⟩) p.x.length p.x.length, .slice (some ⟨bw, 0, none⟩) p.x.length p.x.length] ∧ RTw W v ⟨p.store, (List.replicate p.x.length false), (List.replicate p.x.length false).set 0 true⟩) (x 14) W := hD 14 (by decide)
      clear hD
      simp only [e8] at hK ⊢
      obtain ⟨b3, e14, h14⟩ := h14
      rw [e14] at h14
      simp only [e14] at hK ⊢
      go_wp2_with fail
      (with_reducible refine (implSnapValid_any _ ⟨p.store, (List.replicate p.x.length false), (List.replicate p.x.length false).set 0 true⟩ _ h14).mono ?_); rw [HL.out.2]
      rintro e w6 ⟨rfl, hB⟩
      exact hK _ _ _ (by kernel_rfl) hB (hI.step hB) rfl
    refine Steps.cons (RStep.of rfl fun x W f hI hD K9 hK => ?_) ?_
    · have e8 : x 8 = .bool true := hD 8 (by decide)
      have e15 : x 15 = .bool false := hD 15 (by decide)
      clear hD
      simp only [e8, e15] at hK ⊢
      go_simp
      exact hK (.bool true) _ _ (by kernel_rfl) (Below.refl _ _) (hI) rfl
    refine Steps.cons (RStep.of rfl fun x W f hI hD K9 hK => ?_) ?_
    · have e8 : x 8 = .bool true := hD 8 (by decide)
      have e16 : x 16 = .bool true := hD 16 (by decide)
      clear hD
      simp only [e8, e16] at hK ⊢
      go_simp
      exact hK (.bool true) _ _ (by kernel_rfl) (Below.refl _ _) (hI) rfl
    refine Steps.cons (RStep.of rfl fun x W f hI hD K9 hK => ?_) ?_
    · have e17 : x 17 = .bool true := hD 17 (by decide)
      clear hD
      simp only [e17] at hK ⊢
      go_simp
      exact hK (.bool true) _ _ (by kernel_rfl) (Below.refl _ _) (hI) rfl
    exact Steps.nil
  intro x W hI hV
  have e0 : x 0 = .pointer (some ⟨bx_p, 0, none⟩) := hV 0 (by decide)
  have e1 : x 1 = .agg #[.slice A_p p.store.cells.length n_p, .slice B_p p.store.roots.length m_p] := hV 1 (by decide)
  have e2 : x 2 = .int .i64 (p.x.length : Int) := hV 2 (by decide)
  have h3 : (fun v W => ∃ b : Nat, v = .slice (some ⟨b, 0, none⟩) p.x.length p.x.length ∧ RF fb W (some ⟨b, 0, none⟩) (List.replicate p.x.length false)) (x 3) W := hV 3 (by decide)
  have e4 : x 4 = .int .i64 (p.x.length : Int) := hV 4 (by decide)
  have h5 : (fun v W => ∃ b : Nat, v = .slice (some ⟨b, 0, none⟩) p.x.length p.x.length ∧ RF fb W (some ⟨b, 0, none⟩) (List.replicate p.x.length false)) (x 5) W := hV 5 (by decide)
  have h6 : (fun v W => ∃ b c : Nat, v = .agg #[.slice A_p p.store.cells.length n_p, .slice B_p p.store.roots.length m_p, .slice (some ⟨b, 0, none⟩) p.x.length p.x.length, .slice (some ⟨c, 0, none⟩) p.x.length p.x.length] ∧ RTw W v ⟨p.store, (List.replicate p.x.length false), (List.replicate p.x.length false)⟩) (x 6) W := hV 6 (by decide)
  have e7 : x 7 = .bool true := hV 7 (by decide)
  have e8 : x 8 = .bool true := hV 8 (by decide)
  have e9 : x 9 = .pointer (some ⟨bx_p, 0, none⟩) := hV 9 (by decide)
  have e10 : x 10 = .agg #[.slice A_p p.store.cells.length n_p, .slice B_p p.store.roots.length m_p] := hV 10 (by decide)
  have e11 : x 11 = .int .i64 (p.x.length : Int) := hV 11 (by decide)
  have h12 : (fun v W => ∃ b : Nat, v = .slice (some ⟨b, 0, none⟩) p.x.length p.x.length ∧ RF fb W (some ⟨b, 0, none⟩) (List.replicate p.x.length false)) (x 12) W := hV 12 (by decide)
  have e13 : x 13 = .slice (some ⟨bw, 0, none⟩) p.x.length p.x.length := hV 13 (by decide)
  have h14 : (fun v W => ∃ b : Nat, v = .agg #[.slice A_p p.store.cells.length n_p, .slice B_p p.store.roots.length m_p, .slice (some ⟨b, 0, none⟩) p.x.length p.x.length, .slice (some ⟨bw, 0, none⟩) p.x.length p.x.length] ∧ RTw W v ⟨p.store, (List.replicate p.x.length false), (List.replicate p.x.length false).set 0 true⟩) (x 14) W := hV 14 (by decide)
  have e15 : x 15 = .bool false := hV 15 (by decide)
  have e16 : x 16 = .bool true := hV 16 (by decide)
  have e17 : x 17 = .bool true := hV 17 (by decide)
  have e18 : x 18 = .bool true := hV 18 (by decide)
  clear hV
  simp only [e0, e1, e2, e4, e7, e8, e9, e10, e11, e13, e15, e16, e17, e18]
  clear h3 h5 h6 h12 h14
  rw [hR]
  refine wpAny_done (by kernel_rfl) ?_ _
  clear hR
  replace HI := hI
  clear hI
  have HB := HI.now.2.2.2
  have zB := HB.size
  clear HI
  go_wp2_with fail
  go_ret
  exact ⟨rfl, blw_⟩
end Go.Proofs.Yteilaalababfpaa
