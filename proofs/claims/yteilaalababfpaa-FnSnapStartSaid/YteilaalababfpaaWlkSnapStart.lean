/- FnSnapStart: the law's call returns true. -/
import Derived.Test.YteilaalababfpaaChecked
import Derived.Deep.QuietTactic
import Derived.BigQuiet
import Derived.Deep.RegionWith
import Derived.Test.YteilaalababfpaaGrCtx
import Derived.Test.YteilaalababfpaaDrawA
import Derived.Test.YteilaalababfpaaGrSam
import Derived.Test.YteilaalababfpaaGrSame
import Derived.Test.YteilaalababfpaaGrSnap
import Derived.Test.YteilaalababfpaaSnapStS
import Derived.Test.YteilaalababfpaaSnapV
import Derived.Test.YteilaalababfpaaGrHeap
import Derived.Test.YteilaalababfpaaGrIso
namespace Go.Proofs.Yteilaalababfpaa
open Go.RowKit
set_option maxRecDepth 100000
set_option linter.unusedSimpArgs false
set_option linter.unusedVariables false
set_option maxHeartbeats 8000000 in
theorem walkSnapStart (C : Option Addr) (bs : List Int) (c : Nat) (w : World) (hr : RF fu w C bs) (hb : ∀ x ∈ bs, 0 ≤ x ∧ x < 256) (hc : bs.length ≤ c) (hc2 : c ≤ 9223372036854775807) :
    Calls Try.prog 4 #[.slice C bs.length c] w fun e w' => e = .returned (.bool true) ∧ Below w.heap.size w w' := by
  by_cases hbig : 1048576 < bs.length
  · go_enter Try.func4, Try.ntmps4
    go_wp2
    go_ret
    exact ⟨rfl, blw_⟩
  go_enter Try.func4, Try.ntmps4
  go_wp2_with fail
  (with_reducible refine (drawSnapStart_any C bs c _ hr hb hc hc2).mono ?_); rintro e w1 ⟨v1, h, rfl, hV, hB⟩
  have hV_h := hV
  clear hV
  obtain ⟨A_h, n_h, B_h, m_h, rfl⟩ := hV_h.parts
  clear hr hb
  have zB := hB.size
  go_upto_region 4 with fail
  refine Code.gen (Stb (fun W => RH W (.agg #[.slice A_h h.cells.length n_h, .slice B_h h.roots.length m_h]) h ∧ Bx W (w1.heap.size) [.slice A_h h.cells.length n_h, .slice B_h h.roots.length m_h] ∧ Below w.heap.size w W)) (Stb.and (Stb.rh (hV_h.below blw_)) (Stb.and (Stb.bx (Bx.new w1 [.slice A_h h.cells.length n_h, .slice B_h h.roots.length m_h] 26)) (Stb.here blw_))) ?_
  generalize w1.heap.size = bx_h
  clear hV_h hB zB
  rintro W HI
  obtain ⟨X, hX⟩ : ∃ X, Hid (X = snapStartM h) := ⟨_, rfl⟩
  have c_h0 := HI.now.2.1.c 0 _ rfl
  have c_h1 := HI.now.2.1.c 1 _ rfl
  have z_h := HI.now.2.1.lt
  go_wp2_with fail
  refine Calls.gen (Stb (fun W => RH W (.agg #[.slice A_h h.cells.length n_h, .slice B_h h.roots.length m_h]) h ∧ Bx W bx_h [.slice A_h h.cells.length n_h, .slice B_h h.roots.length m_h] ∧ Below w.heap.size w W)) (HI.step blw_) ?_
  clear c_h0 c_h1 z_h
  clear HI 
  rintro W HI
  (with_reducible refine (implSnapStart_any _ h _ HI.now.1).mono ?_); rw [← hX.out]; rintro e w2 ⟨v2, rfl, oH, hB⟩
  replace HI := HI.step hB
  clear hB
  have hV_x := oH.rt
  clear oH
  obtain ⟨A_x, n_x, B_x, m_x, C_x, k_x, D_x, l_x, rfl⟩ := hV_x.parts
  go_upto_region 5 with fail
  refine Code.gen (Stb (fun W => RTw W (.agg #[.slice A_x X.store.cells.length n_x, .slice B_x X.store.roots.length m_x, .slice C_x X.x.length k_x, .slice D_x X.y.length l_x]) X ∧ Bx W (w2.heap.size) [.slice A_x X.store.cells.length n_x, .slice B_x X.store.roots.length m_x, .slice C_x X.x.length k_x, .slice D_x X.y.length l_x] ∧ RH W (.agg #[.slice A_h h.cells.length n_h, .slice B_h h.roots.length m_h]) h ∧ Bx W bx_h [.slice A_h h.cells.length n_h, .slice B_h h.roots.length m_h] ∧ Below w.heap.size w W)) (Stb.and (Stb.rtw (hV_x.below blw_)) (Stb.and (Stb.bx (Bx.new w2 [.slice A_x X.store.cells.length n_x, .slice B_x X.store.roots.length m_x, .slice C_x X.x.length k_x, .slice D_x X.y.length l_x] 29)) (HI.step blw_))) ?_
  generalize w2.heap.size = bx_x
  clear HI hV_x 
  rintro W HI
  refine wp_region_R (by kernel_rfl) (fun R wd hR hwd => ?_)
  have hBd : Below W.heap.size W wd := by rw [hwd]; exact blw_
  replace HI := HI.step hBd
  clear hwd hBd
  refine rel_at (fr := ?fr_0) hR (fun f W => Stb (fun W => RTw W (.agg #[.slice A_x X.store.cells.length n_x, .slice B_x X.store.roots.length m_x, .slice C_x X.x.length k_x, .slice D_x X.y.length l_x]) X ∧ Bx W bx_x [.slice A_x X.store.cells.length n_x, .slice B_x X.store.roots.length m_x, .slice C_x X.x.length k_x, .slice D_x X.y.length l_x] ∧ RH W (.agg #[.slice A_h h.cells.length n_h, .slice B_h h.roots.length m_h]) h ∧ Bx W bx_h [.slice A_h h.cells.length n_h, .slice B_h h.roots.length m_h] ∧ Below w.heap.size w W) W) [(fun v W => v = .agg #[.slice A_x X.store.cells.length n_x, .slice B_x X.store.roots.length m_x, .slice C_x X.x.length k_x, .slice D_x X.y.length l_x]), (fun v W => v = .agg #[.slice A_h h.cells.length n_h, .slice B_h h.roots.length m_h]), (fun v W => ∃ A_r2 n_r2 B_r2 m_r2 C_r2 k_r2 D_r2 l_r2, v = (.agg #[.slice A_r2 X.store.cells.length n_r2, .slice B_r2 X.store.roots.length m_r2, .slice C_r2 X.x.length k_r2, .slice D_r2 X.y.length l_r2]) ∧ RTw W (.agg #[.slice A_r2 X.store.cells.length n_r2, .slice B_r2 X.store.roots.length m_r2, .slice C_r2 X.x.length k_r2, .slice D_r2 X.y.length l_r2]) X), (fun v W => v = .bool true), (fun v W => v = .bool false)] (fun W W' => Below W.heap.size W W') [(0, []), (1, []), (2, [1]), (3, [0, 2, 1]), (4, [3, 0, 2, 1])] [(15, 0), (16, 1), (17, 2), (18, 3), (19, 4)] [0, 1, 2, 3, 4] #[true, true, true, true, true] 5 0 (by kernel_rfl) (by kernel_rfl) ?hfr_0 ?h0_0 ?mono_0 ?steps_0 ?_
  case hfr_0 => intro x; (simp [frOf, fill, Act.put, List.lookup]; with_reducible rfl)
  case h0_0 => exact HI
  case mono_0 => exact (Pm.cons (fun _ _ _ _ h => h) (Pm.cons (fun _ _ _ _ h => h) (Pm.cons (fun _ _ _ hG ⟨A_r2, n_r2, B_r2, m_r2, C_r2, k_r2, D_r2, l_r2, e, h⟩ => ⟨A_r2, n_r2, B_r2, m_r2, C_r2, k_r2, D_r2, l_r2, e, h.below hG⟩) (Pm.cons (fun _ _ _ _ h => h) (Pm.cons (fun _ _ _ _ h => h) Pm.nil)))))
  case steps_0 =>
    refine Steps.cons (RStep.of rfl fun x W f hI hD K9 hK => ?_) ?_
    · clear hD
      have c0 := hI.now.2.1.c 0 _ rfl
      have c1 := hI.now.2.1.c 1 _ rfl
      have c2 := hI.now.2.1.c 2 _ rfl
      have c3 := hI.now.2.1.c 3 _ rfl
      go_simp
      exact hK (.agg #[.slice A_x X.store.cells.length n_x, .slice B_x X.store.roots.length m_x, .slice C_x X.x.length k_x, .slice D_x X.y.length l_x]) _ _ (by kernel_rfl) (Below.refl _ _) (hI) rfl
    refine Steps.cons (RStep.of rfl fun x W f hI hD K9 hK => ?_) ?_
    · clear hD
      have c0 := hI.now.2.2.2.1.c 0 _ rfl
      have c1 := hI.now.2.2.2.1.c 1 _ rfl
      go_simp
      exact hK (.agg #[.slice A_h h.cells.length n_h, .slice B_h h.roots.length m_h]) _ _ (by kernel_rfl) (Below.refl _ _) (hI) rfl
    refine Steps.cons (RStep.of rfl fun x W f hI hD K9 hK => ?_) ?_
    · have e1 : x 1 = .agg #[.slice A_h h.cells.length n_h, .slice B_h h.roots.length m_h] := hD 1 (by decide)
      clear hD
      simp only [e1] at hK ⊢
      go_wp2_with fail
      (with_reducible refine (specSnapStart_any _ h _ hI.now.2.2.1).mono ?_); rw [← hX.out]
      rintro e w6 ⟨v6, rfl, oH, hB⟩
      obtain ⟨A_r2, n_r2, B_r2, m_r2, C_r2, k_r2, D_r2, l_r2, rfl⟩ := oH.rt.parts
      exact hK (.agg #[.slice A_r2 X.store.cells.length n_r2, .slice B_r2 X.store.roots.length m_r2, .slice C_r2 X.x.length k_r2, .slice D_r2 X.y.length l_r2]) _ _ (by kernel_rfl) hB (hI.step hB) ⟨A_r2, n_r2, B_r2, m_r2, C_r2, k_r2, D_r2, l_r2, rfl, oH.rt⟩
    refine Steps.cons (RStep.of rfl fun x W f hI hD K9 hK => ?_) ?_
    · have e0 : x 0 = .agg #[.slice A_x X.store.cells.length n_x, .slice B_x X.store.roots.length m_x, .slice C_x X.x.length k_x, .slice D_x X.y.length l_x] := hD 0 (by decide)
      have h2 : (fun v W => ∃ A_r2 n_r2 B_r2 m_r2 C_r2 k_r2 D_r2 l_r2, v = (.agg #[.slice A_r2 X.store.cells.length n_r2, .slice B_r2 X.store.roots.length m_r2, .slice C_r2 X.x.length k_r2, .slice D_r2 X.y.length l_r2]) ∧ RTw W (.agg #[.slice A_r2 X.store.cells.length n_r2, .slice B_r2 X.store.roots.length m_r2, .slice C_r2 X.x.length k_r2, .slice D_r2 X.y.length l_r2]) X) (x 2) W := hD 2 (by decide)
      clear hD
      simp only [e0] at hK ⊢
      obtain ⟨A_r2, n_r2, B_r2, m_r2, C_r2, k_r2, D_r2, l_r2, e2, h2⟩ := h2
      simp only [e2] at hK ⊢
      go_wp2_with fail
      (with_reducible refine (sameSnap_eq _ _ X _ hI.now.1 h2).mono ?_)
      rintro e w6 ⟨rfl, hB⟩
      exact hK _ _ _ (by kernel_rfl) hB (hI.step hB) rfl
    refine Steps.cons (RStep.of rfl fun x W f hI hD K9 hK => ?_) ?_
    · have e3 : x 3 = .bool true := hD 3 (by decide)
      clear hD
      simp only [e3] at hK ⊢
      go_simp
      exact hK (.bool false) _ _ (by kernel_rfl) (Below.refl _ _) (hI) rfl
    exact Steps.nil
  intro x W hI hV
  have e0 : x 0 = .agg #[.slice A_x X.store.cells.length n_x, .slice B_x X.store.roots.length m_x, .slice C_x X.x.length k_x, .slice D_x X.y.length l_x] := hV 0 (by decide)
  have e1 : x 1 = .agg #[.slice A_h h.cells.length n_h, .slice B_h h.roots.length m_h] := hV 1 (by decide)
  have h2 : (fun v W => ∃ A_r2 n_r2 B_r2 m_r2 C_r2 k_r2 D_r2 l_r2, v = (.agg #[.slice A_r2 X.store.cells.length n_r2, .slice B_r2 X.store.roots.length m_r2, .slice C_r2 X.x.length k_r2, .slice D_r2 X.y.length l_r2]) ∧ RTw W (.agg #[.slice A_r2 X.store.cells.length n_r2, .slice B_r2 X.store.roots.length m_r2, .slice C_r2 X.x.length k_r2, .slice D_r2 X.y.length l_r2]) X) (x 2) W := hV 2 (by decide)
  have e3 : x 3 = .bool true := hV 3 (by decide)
  have e4 : x 4 = .bool false := hV 4 (by decide)
  clear hV
  simp only [e0, e1, e3, e4]
  clear h2
  rw [hR]
  refine wpAny_done (by kernel_rfl) ?_ _
  clear hR
  replace HI := hI
  clear hI
  have c_h0 := HI.now.2.2.2.1.c 0 _ rfl
  have c_h1 := HI.now.2.2.2.1.c 1 _ rfl
  have z_h := HI.now.2.2.2.1.lt
  go_wp2_with fail
  refine Calls.gen (Stb (fun W => RTw W (.agg #[.slice A_x X.store.cells.length n_x, .slice B_x X.store.roots.length m_x, .slice C_x X.x.length k_x, .slice D_x X.y.length l_x]) X ∧ Bx W bx_x [.slice A_x X.store.cells.length n_x, .slice B_x X.store.roots.length m_x, .slice C_x X.x.length k_x, .slice D_x X.y.length l_x] ∧ RH W (.agg #[.slice A_h h.cells.length n_h, .slice B_h h.roots.length m_h]) h ∧ Bx W bx_h [.slice A_h h.cells.length n_h, .slice B_h h.roots.length m_h] ∧ Below w.heap.size w W)) (HI.step blw_) ?_
  clear c_h0 c_h1 z_h
  clear HI 
  rintro W HI
  (with_reducible refine (specHeapValid_any _ h _ HI.now.2.2.1).mono ?_); rintro e w2 ⟨rfl, hB⟩
  replace HI := HI.step hB
  clear hB
  rcases bool_ft (validM h) with hva | hva
  · have hz : X.store.roots.length = 0 := by rw [hX.out]; exact snap_start_no hva
    rw [hva]
    have c_x0 := HI.now.2.1.c 0 _ rfl
    have c_x1 := HI.now.2.1.c 1 _ rfl
    have c_x2 := HI.now.2.1.c 2 _ rfl
    have c_x3 := HI.now.2.1.c 3 _ rfl
    have z_x := HI.now.2.1.lt
    rw [hz] at c_x1
    clear hz hva
    go_wp2_with fail
    refine Calls.gen (Stb (fun W => RTw W (.agg #[.slice A_x X.store.cells.length n_x, .slice B_x X.store.roots.length m_x, .slice C_x X.x.length k_x, .slice D_x X.y.length l_x]) X ∧ Bx W bx_x [.slice A_x X.store.cells.length n_x, .slice B_x X.store.roots.length m_x, .slice C_x X.x.length k_x, .slice D_x X.y.length l_x] ∧ RH W (.agg #[.slice A_h h.cells.length n_h, .slice B_h h.roots.length m_h]) h ∧ Bx W bx_h [.slice A_h h.cells.length n_h, .slice B_h h.roots.length m_h] ∧ Below w.heap.size w W)) (HI.step blw_) ?_
    clear c_x0 c_x1 c_x2 c_x3 z_x
    clear HI 
    rintro W HI
    (with_reducible refine (alive_any _).mono ?_); rintro e w2 ⟨rfl, hB⟩
    replace HI := HI.step hB
    clear hB
    have HB := HI.now.2.2.2.2
    have zB := HB.size
    clear HI
    go_wp2_with fail
    go_ret
    exact ⟨rfl, blw_⟩
  have HL := Lib.hid (snap_start_yes hva)
  rw [← hX.out] at HL
  rw [hva]
  clear hva
  have c_x0 := HI.now.2.1.c 0 _ rfl
  have c_x1 := HI.now.2.1.c 1 _ rfl
  have c_x2 := HI.now.2.1.c 2 _ rfl
  have c_x3 := HI.now.2.1.c 3 _ rfl
  have z_x := HI.now.2.1.lt
  have c_h0 := HI.now.2.2.2.1.c 0 _ rfl
  have c_h1 := HI.now.2.2.2.1.c 1 _ rfl
  have z_h := HI.now.2.2.2.1.lt
  have HX2 := HI.now.1.fx
  have HX3 := HI.now.1.fy
  have HR2 := HI.now.2.2.1.inv.2.1
  go_wp2_with fail
  go_loopw [5, 6, 7] (fun s5 _ _ wr => ∃ k : Nat, s5 = .int .i64 (k : Int) ∧ k ≤ X.x.length ∧ ∃ n, wr = w2.drewN n) (fun s5 _ _ _ => X.x.length - (intOf s5).toNat)
  case atStart => exact ⟨0, rfl, by omega, 0, rfl⟩
  case round =>
    obtain ⟨k, rfl, hk, n9, rfl⟩ := hrel
    by_cases hlt : k < X.x.length
    · obtain ⟨b1, o1, y1, rfl, g1, m1, -⟩ := HX2.at_ hlt
      obtain ⟨b2, o2, y2, rfl, g2, m2, -⟩ := HX3.at_ (k := k) (by have := HL.out; omega)
      obtain ⟨he1, he2⟩ := HL.out.2.2.2.2.2.2 k y1 y2 g1 g2
      obtain ⟨rb, hrb⟩ : ∃ rb, Hid (rb = decide ((k : Int) ∈ h.roots)) := ⟨_, rfl⟩
      have q1 : w2.cell? ⟨b1, o1 + k, none⟩ = some (.bool rb) := by rw [hrb.out, ← he1]; exact m1
      have q2 : w2.cell? ⟨b2, o2 + k, none⟩ = some (.bool rb) := by rw [hrb.out, ← he2]; exact m2
      have i0 : (0 : Int) ≤ (k : Int) := by omega
      have i1 : (k : Int) < (X.x.length : Int) := by omega
      have i2 : (k : Int) < (X.y.length : Int) := by have := HL.out; omega
      have i3 : (k : Int) + 1 < 9223372036854775807 := by have := HL.out; omega
      have hne : (rb != rb) = false := by simp
      clear g1 g2 m1 m2 HI he1 he2 HX2 HX3
      go_wp2
      go_loopw [6, 7] (fun s6 s7 wr => ∃ j : Nat, s7 = .int .i64 (j : Int) ∧ j ≤ h.roots.length ∧ s6 = .bool (decide ((k : Int) ∈ h.roots.take j)) ∧ ∃ n, wr = w2.drewN n) (fun _ s7 _ => h.roots.length - (intOf s7).toNat)
      case atStart => exact ⟨0, rfl, by omega, by simp, _, rfl⟩
      case round =>
        obtain ⟨j, rfl, hj, rfl, n8, rfl⟩ := hrel
        obtain ⟨gb, hgb⟩ : ∃ gb, Hid (gb = decide ((k : Int) ∈ h.roots.take j)) := ⟨_, rfl⟩
        rw [← hgb.out]
        by_cases hlt2 : j < h.roots.length
        · obtain ⟨b3, o3, y3, rfl, g3, m3, -⟩ := HR2.at_ hlt2
          have q3 : w2.cell? ⟨b3, o3 + j, none⟩ = some (.int .i64 y3) := m3
          have HG2 : Hid (decide ((k : Int) ∈ h.roots.take (j + 1)) = (gb || y3 == (k : Int))) := by rw [hgb.out]; exact mem_snoc g3
          have j0 : (0 : Int) ≤ (j : Int) := by omega
          have j1 : (j : Int) < (h.roots.length : Int) := by omega
          have j3 : (j : Int) + 1 < 9223372036854775807 := by have := HL.out; omega
          clear g3 m3 hgb HR2
          rcases bool_ft gb with hg | hg
          · rw [hg] at HG2
            subst hg
            rcases bool_ft (y3 == (k : Int)) with h1 | h1
            all_goals
              rw [h1] at HG2
              go_wp2
              go_roundw
              case rel => exact ⟨j + 1, by go_num, by omega, by rw [HG2.out]; rfl, _, by first | rfl | (simp; rfl)⟩
              case measure => simp [intOf]; omega
          · rw [hg] at HG2
            subst hg
            go_wp2
            go_roundw
            case rel => exact ⟨j + 1, by go_num, by omega, by rw [HG2.out]; rfl, _, by first | rfl | (simp; rfl)⟩
            case measure => simp [intOf]; omega
        · have j4 : ¬ (j : Int) < (h.roots.length : Int) := by omega
          have hgx : gb = rb := by rw [hgb.out, hrb.out, show j = h.roots.length by omega, List.take_length]
          rw [hgx]
          clear hgx hgb hrb HR2
          go_wp2
          go_roundw
          case rel => exact ⟨k + 1, by go_num, by omega, _, by first | rfl | (simp; rfl)⟩
          case measure => simp [intOf]; omega
    · have i4 : ¬ (k : Int) < (X.x.length : Int) := by omega
      clear HX2 HX3 HR2
      go_wp2_with fail
      refine Calls.gen (Stb (fun W => RTw W (.agg #[.slice A_x X.store.cells.length n_x, .slice B_x X.store.roots.length m_x, .slice C_x X.x.length k_x, .slice D_x X.y.length l_x]) X ∧ Bx W bx_x [.slice A_x X.store.cells.length n_x, .slice B_x X.store.roots.length m_x, .slice C_x X.x.length k_x, .slice D_x X.y.length l_x] ∧ RH W (.agg #[.slice A_h h.cells.length n_h, .slice B_h h.roots.length m_h]) h ∧ Bx W bx_h [.slice A_h h.cells.length n_h, .slice B_h h.roots.length m_h] ∧ Below w.heap.size w W)) (HI.step blw_) ?_
      clear c_x0 c_x1 c_x2 c_x3 z_x c_h0 c_h1 z_h
      clear HI 
      rintro W HI
      (with_reducible refine (implSnapValid_any _ X _ HI.now.1).mono ?_); rw [HL.out.1]; rintro e w2 ⟨rfl, hB⟩
      replace HI := HI.step hB
      clear hB
      have c_x0 := HI.now.2.1.c 0 _ rfl
      have c_x1 := HI.now.2.1.c 1 _ rfl
      have c_x2 := HI.now.2.1.c 2 _ rfl
      have c_x3 := HI.now.2.1.c 3 _ rfl
      have z_x := HI.now.2.1.lt
      have c_h0 := HI.now.2.2.2.1.c 0 _ rfl
      have c_h1 := HI.now.2.2.2.1.c 1 _ rfl
      have z_h := HI.now.2.2.2.1.lt
      go_wp2_with fail
      refine Calls.gen (Stb (fun W => RTw W (.agg #[.slice A_x X.store.cells.length n_x, .slice B_x X.store.roots.length m_x, .slice C_x X.x.length k_x, .slice D_x X.y.length l_x]) X ∧ Bx W bx_x [.slice A_x X.store.cells.length n_x, .slice B_x X.store.roots.length m_x, .slice C_x X.x.length k_x, .slice D_x X.y.length l_x] ∧ RH W (.agg #[.slice A_h h.cells.length n_h, .slice B_h h.roots.length m_h]) h ∧ Bx W bx_h [.slice A_h h.cells.length n_h, .slice B_h h.roots.length m_h] ∧ Below w.heap.size w W)) (HI.step blw_) ?_
      clear c_x0 c_x1 c_x2 c_x3 z_x c_h0 c_h1 z_h
      clear HI 
      rintro W HI
      (with_reducible refine (sameHeap_any _ _ X.store h _ (HI.now.1).st HI.now.2.2.1).mono ?_); rw [eqB_of HL.out.2.1]; rintro e w2 ⟨rfl, hB⟩
      replace HI := HI.step hB
      clear hB
      have HB := HI.now.2.2.2.2
      have zB := HB.size
      clear HI
      go_wp2_with fail
      go_ret
      exact ⟨rfl, blw_⟩
end Go.Proofs.Yteilaalababfpaa
