/- FnPaintStep: the law's call returns true. -/
import Derived.Test.YtopbngfghpgbnaaChecked
import Derived.Deep.QuietTactic
import Derived.BigQuiet
import Derived.Deep.RegionWith
import Derived.Test.YtopbngfghpgbnaaGrCtx
import Derived.Test.YtopbngfghpgbnaaGrDrawP
import Derived.Test.YtopbngfghpgbnaaGrSam
import Derived.Test.YtopbngfghpgbnaaGrSame
import Derived.Test.YtopbngfghpgbnaaPaintStp
import Derived.Test.YtopbngfghpgbnaaPaintV
import Derived.Test.YtopbngfghpgbnaaPaintVS
import Derived.Test.YtopbngfghpgbnaaGrIso
namespace Go.Proofs.Ytopbngfghpgbnaa
open Go.RowKit
set_option maxRecDepth 100000
set_option linter.unusedSimpArgs false
set_option linter.unusedVariables false
set_option maxHeartbeats 8000000 in
theorem walkPaintStep (C : Option Addr) (bs : List Int) (c : Nat) (w : World) (hr : RF fu w C bs) (hb : ∀ x ∈ bs, 0 ≤ x ∧ x < 256) (hc : bs.length ≤ c) (hc2 : c ≤ 9223372036854775807) :
    Calls Try.prog 5 #[.slice C bs.length c] w fun e w' => e = .returned (.bool true) ∧ Below w.heap.size w w' := by
  by_cases hbig : 1048576 < bs.length
  · go_enter Try.func5, Try.ntmps5
    go_wp2
    go_ret
    exact ⟨rfl, blw_⟩
  go_enter Try.func5, Try.ntmps5
  go_wp2_with fail
  (with_reducible refine (drawPaintStep_any C bs c _ hr hb hc hc2).mono ?_); rintro e w1 ⟨v1, p, rfl, hV, hB⟩
  have hV_p := hV
  clear hV
  obtain ⟨A_p, n_p, B_p, m_p, C_p, k_p, rfl⟩ := hV_p.parts
  clear hr hb
  have zB := hB.size
  go_upto_region 4 with fail
  refine Code.gen (Stb (fun W => RPt W (.agg #[.slice A_p p.store.cells.length n_p, .slice B_p p.store.roots.length m_p, .slice C_p p.colours.length k_p, .bool p.active]) p ∧ Bx W (w1.heap.size) [.slice A_p p.store.cells.length n_p, .slice B_p p.store.roots.length m_p, .slice C_p p.colours.length k_p, .bool p.active] ∧ Below w.heap.size w W)) (Stb.and (Stb.rpt (hV_p.below blw_)) (Stb.and (Stb.bx (Bx.new w1 [.slice A_p p.store.cells.length n_p, .slice B_p p.store.roots.length m_p, .slice C_p p.colours.length k_p, .bool p.active] 28)) (Stb.here blw_))) ?_
  generalize w1.heap.size = bx_p
  clear hV_p hB zB
  rintro W HI
  obtain ⟨X, hX⟩ : ∃ X, Hid (X = paintStepM p) := ⟨_, rfl⟩
  have c_p0 := HI.now.2.1.c 0 _ rfl
  have c_p1 := HI.now.2.1.c 1 _ rfl
  have c_p2 := HI.now.2.1.c 2 _ rfl
  have c_p3 := HI.now.2.1.c 3 _ rfl
  have z_p := HI.now.2.1.lt
  go_wp2_with fail
  refine Calls.gen (Stb (fun W => RPt W (.agg #[.slice A_p p.store.cells.length n_p, .slice B_p p.store.roots.length m_p, .slice C_p p.colours.length k_p, .bool p.active]) p ∧ Bx W bx_p [.slice A_p p.store.cells.length n_p, .slice B_p p.store.roots.length m_p, .slice C_p p.colours.length k_p, .bool p.active] ∧ Below w.heap.size w W)) (HI.step blw_) ?_
  clear c_p0 c_p1 c_p2 c_p3 z_p
  clear HI 
  rintro W HI
  (with_reducible refine (implPaintStep_any _ p _ HI.now.1).mono ?_); rw [← hX.out]; rintro e w2 ⟨v2, rfl, oH, hB⟩
  replace HI := HI.step hB
  clear hB
  have hV_x := oH.rp
  clear oH
  obtain ⟨A_x, n_x, B_x, m_x, C_x, k_x, rfl⟩ := hV_x.parts
  go_upto_region 5 with fail
  refine Code.gen (Stb (fun W => RPt W (.agg #[.slice A_x X.1.store.cells.length n_x, .slice B_x X.1.store.roots.length m_x, .slice C_x X.1.colours.length k_x, .bool X.1.active]) X.1 ∧ Bx W (w2.heap.size) [.slice A_x X.1.store.cells.length n_x, .slice B_x X.1.store.roots.length m_x, .slice C_x X.1.colours.length k_x, .bool X.1.active] ∧ RPt W (.agg #[.slice A_p p.store.cells.length n_p, .slice B_p p.store.roots.length m_p, .slice C_p p.colours.length k_p, .bool p.active]) p ∧ Bx W bx_p [.slice A_p p.store.cells.length n_p, .slice B_p p.store.roots.length m_p, .slice C_p p.colours.length k_p, .bool p.active] ∧ Below w.heap.size w W)) (Stb.and (Stb.rpt (hV_x.below blw_)) (Stb.and (Stb.bx (Bx.new w2 [.slice A_x X.1.store.cells.length n_x, .slice B_x X.1.store.roots.length m_x, .slice C_x X.1.colours.length k_x, .bool X.1.active] 28)) (HI.step blw_))) ?_
  generalize w2.heap.size = bx_x
  clear HI hV_x 
  rintro W HI
  have c_p0 := HI.now.2.2.2.1.c 0 _ rfl
  have c_p1 := HI.now.2.2.2.1.c 1 _ rfl
  have c_p2 := HI.now.2.2.2.1.c 2 _ rfl
  have c_p3 := HI.now.2.2.2.1.c 3 _ rfl
  have z_p := HI.now.2.2.2.1.lt
  go_wp2_with fail
  refine Calls.gen (Stb (fun W => RPt W (.agg #[.slice A_x X.1.store.cells.length n_x, .slice B_x X.1.store.roots.length m_x, .slice C_x X.1.colours.length k_x, .bool X.1.active]) X.1 ∧ Bx W bx_x [.slice A_x X.1.store.cells.length n_x, .slice B_x X.1.store.roots.length m_x, .slice C_x X.1.colours.length k_x, .bool X.1.active] ∧ RPt W (.agg #[.slice A_p p.store.cells.length n_p, .slice B_p p.store.roots.length m_p, .slice C_p p.colours.length k_p, .bool p.active]) p ∧ Bx W bx_p [.slice A_p p.store.cells.length n_p, .slice B_p p.store.roots.length m_p, .slice C_p p.colours.length k_p, .bool p.active] ∧ Below w.heap.size w W)) (HI.step blw_) ?_
  clear c_p0 c_p1 c_p2 c_p3 z_p
  clear HI 
  rintro W HI
  (with_reducible refine (specPaintStep_any _ p _ HI.now.2.2.1).mono ?_); rw [← hX.out]; rintro e w2 ⟨v2, rfl, oH, hB⟩
  replace HI := HI.step hB
  clear hB
  have hV_y := oH.rp
  clear oH
  obtain ⟨A_y, n_y, B_y, m_y, C_y, k_y, rfl⟩ := hV_y.parts
  go_upto_region 6 with fail
  refine Code.gen (Stb (fun W => RPt W (.agg #[.slice A_y X.1.store.cells.length n_y, .slice B_y X.1.store.roots.length m_y, .slice C_y X.1.colours.length k_y, .bool X.1.active]) X.1 ∧ Bx W (w2.heap.size) [.slice A_y X.1.store.cells.length n_y, .slice B_y X.1.store.roots.length m_y, .slice C_y X.1.colours.length k_y, .bool X.1.active] ∧ RPt W (.agg #[.slice A_x X.1.store.cells.length n_x, .slice B_x X.1.store.roots.length m_x, .slice C_x X.1.colours.length k_x, .bool X.1.active]) X.1 ∧ Bx W bx_x [.slice A_x X.1.store.cells.length n_x, .slice B_x X.1.store.roots.length m_x, .slice C_x X.1.colours.length k_x, .bool X.1.active] ∧ RPt W (.agg #[.slice A_p p.store.cells.length n_p, .slice B_p p.store.roots.length m_p, .slice C_p p.colours.length k_p, .bool p.active]) p ∧ Bx W bx_p [.slice A_p p.store.cells.length n_p, .slice B_p p.store.roots.length m_p, .slice C_p p.colours.length k_p, .bool p.active] ∧ Below w.heap.size w W)) (Stb.and (Stb.rpt (hV_y.below blw_)) (Stb.and (Stb.bx (Bx.new w2 [.slice A_y X.1.store.cells.length n_y, .slice B_y X.1.store.roots.length m_y, .slice C_y X.1.colours.length k_y, .bool X.1.active] 28)) (HI.step blw_))) ?_
  generalize w2.heap.size = bx_y
  clear HI hV_y 
  rintro W HI
  have c_x0 := HI.now.2.2.2.1.c 0 _ rfl
  have c_x1 := HI.now.2.2.2.1.c 1 _ rfl
  have c_x2 := HI.now.2.2.2.1.c 2 _ rfl
  have c_x3 := HI.now.2.2.2.1.c 3 _ rfl
  have z_x := HI.now.2.2.2.1.lt
  have c_y0 := HI.now.2.1.c 0 _ rfl
  have c_y1 := HI.now.2.1.c 1 _ rfl
  have c_y2 := HI.now.2.1.c 2 _ rfl
  have c_y3 := HI.now.2.1.c 3 _ rfl
  have z_y := HI.now.2.1.lt
  go_wp2_with fail
  refine Calls.gen (Stb (fun W => RPt W (.agg #[.slice A_y X.1.store.cells.length n_y, .slice B_y X.1.store.roots.length m_y, .slice C_y X.1.colours.length k_y, .bool X.1.active]) X.1 ∧ Bx W bx_y [.slice A_y X.1.store.cells.length n_y, .slice B_y X.1.store.roots.length m_y, .slice C_y X.1.colours.length k_y, .bool X.1.active] ∧ RPt W (.agg #[.slice A_x X.1.store.cells.length n_x, .slice B_x X.1.store.roots.length m_x, .slice C_x X.1.colours.length k_x, .bool X.1.active]) X.1 ∧ Bx W bx_x [.slice A_x X.1.store.cells.length n_x, .slice B_x X.1.store.roots.length m_x, .slice C_x X.1.colours.length k_x, .bool X.1.active] ∧ RPt W (.agg #[.slice A_p p.store.cells.length n_p, .slice B_p p.store.roots.length m_p, .slice C_p p.colours.length k_p, .bool p.active]) p ∧ Bx W bx_p [.slice A_p p.store.cells.length n_p, .slice B_p p.store.roots.length m_p, .slice C_p p.colours.length k_p, .bool p.active] ∧ Below w.heap.size w W)) (HI.step blw_) ?_
  clear c_x0 c_x1 c_x2 c_x3 z_x c_y0 c_y1 c_y2 c_y3 z_y
  clear HI 
  rintro W HI
  (with_reducible refine (samePaint_eq _ _ X.1 _ HI.now.2.2.1 HI.now.1).mono ?_); rintro e w2 ⟨rfl, hB⟩
  replace HI := HI.step hB
  clear hB
  have c_p0 := HI.now.2.2.2.2.2.1.c 0 _ rfl
  have c_p1 := HI.now.2.2.2.2.2.1.c 1 _ rfl
  have c_p2 := HI.now.2.2.2.2.2.1.c 2 _ rfl
  have c_p3 := HI.now.2.2.2.2.2.1.c 3 _ rfl
  have z_p := HI.now.2.2.2.2.2.1.lt
  go_wp2_with fail
  refine Calls.gen (Stb (fun W => RPt W (.agg #[.slice A_y X.1.store.cells.length n_y, .slice B_y X.1.store.roots.length m_y, .slice C_y X.1.colours.length k_y, .bool X.1.active]) X.1 ∧ Bx W bx_y [.slice A_y X.1.store.cells.length n_y, .slice B_y X.1.store.roots.length m_y, .slice C_y X.1.colours.length k_y, .bool X.1.active] ∧ RPt W (.agg #[.slice A_x X.1.store.cells.length n_x, .slice B_x X.1.store.roots.length m_x, .slice C_x X.1.colours.length k_x, .bool X.1.active]) X.1 ∧ Bx W bx_x [.slice A_x X.1.store.cells.length n_x, .slice B_x X.1.store.roots.length m_x, .slice C_x X.1.colours.length k_x, .bool X.1.active] ∧ RPt W (.agg #[.slice A_p p.store.cells.length n_p, .slice B_p p.store.roots.length m_p, .slice C_p p.colours.length k_p, .bool p.active]) p ∧ Bx W bx_p [.slice A_p p.store.cells.length n_p, .slice B_p p.store.roots.length m_p, .slice C_p p.colours.length k_p, .bool p.active] ∧ Below w.heap.size w W)) (HI.step blw_) ?_
  clear c_p0 c_p1 c_p2 c_p3 z_p
  clear HI 
  rintro W HI
  (with_reducible refine (specPaintValid_any _ p _ HI.now.2.2.2.2.1).mono ?_); rintro e w2 ⟨rfl, hB⟩
  replace HI := HI.step hB
  clear hB
  rcases bool_ft (paintM p) with hva | hva
  · have hz := paint_step_no hva
    rw [← hX.out] at hz
    obtain ⟨hx2, hz⟩ := hz
    rw [hva, hx2]
    have c_x0 := HI.now.2.2.2.1.c 0 _ rfl
    have c_x1 := HI.now.2.2.2.1.c 1 _ rfl
    have c_x2 := HI.now.2.2.2.1.c 2 _ rfl
    have c_x3 := HI.now.2.2.2.1.c 3 _ rfl
    have z_x := HI.now.2.2.2.1.lt
    rw [hz] at c_x1
    clear hz hva hx2
    go_wp2_with fail
    refine Calls.gen (Stb (fun W => RPt W (.agg #[.slice A_y X.1.store.cells.length n_y, .slice B_y X.1.store.roots.length m_y, .slice C_y X.1.colours.length k_y, .bool X.1.active]) X.1 ∧ Bx W bx_y [.slice A_y X.1.store.cells.length n_y, .slice B_y X.1.store.roots.length m_y, .slice C_y X.1.colours.length k_y, .bool X.1.active] ∧ RPt W (.agg #[.slice A_x X.1.store.cells.length n_x, .slice B_x X.1.store.roots.length m_x, .slice C_x X.1.colours.length k_x, .bool X.1.active]) X.1 ∧ Bx W bx_x [.slice A_x X.1.store.cells.length n_x, .slice B_x X.1.store.roots.length m_x, .slice C_x X.1.colours.length k_x, .bool X.1.active] ∧ RPt W (.agg #[.slice A_p p.store.cells.length n_p, .slice B_p p.store.roots.length m_p, .slice C_p p.colours.length k_p, .bool p.active]) p ∧ Bx W bx_p [.slice A_p p.store.cells.length n_p, .slice B_p p.store.roots.length m_p, .slice C_p p.colours.length k_p, .bool p.active] ∧ Below w.heap.size w W)) (HI.step blw_) ?_
    clear c_x0 c_x1 c_x2 c_x3 z_x
    clear HI 
    rintro W HI
    (with_reducible refine (alive_any _).mono ?_); rintro e w2 ⟨rfl, hB⟩
    replace HI := HI.step hB
    clear hB
    have HB := HI.now.2.2.2.2.2.2
    have zB := HB.size
    clear HI
    go_wp2_with fail
    go_ret
    exact ⟨rfl, blw_⟩
  have HL := Lib.hid (paint_step_yes hva)
  rw [← hX.out] at HL
  rw [hva]
  clear hva
  obtain ⟨k0, HK⟩ : ∃ k0, Hid ((X.2 = true → k0 < p.colours.length) ∧ (X.2 = false → X.1 = p) ∧ ∀ (k : Nat) (a b : Int), p.colours[k]? = some a → X.1.colours[k]? = some b → a ≤ b ∧ ((b = 2 ∧ a ≠ 2) ↔ k = k0)) := HL.out.2.2.2.2.2
  have c_x0 := HI.now.2.2.2.1.c 0 _ rfl
  have c_x1 := HI.now.2.2.2.1.c 1 _ rfl
  have c_x2 := HI.now.2.2.2.1.c 2 _ rfl
  have c_x3 := HI.now.2.2.2.1.c 3 _ rfl
  have z_x := HI.now.2.2.2.1.lt
  have c_p0 := HI.now.2.2.2.2.2.1.c 0 _ rfl
  have c_p1 := HI.now.2.2.2.2.2.1.c 1 _ rfl
  have c_p2 := HI.now.2.2.2.2.2.1.c 2 _ rfl
  have c_p3 := HI.now.2.2.2.2.2.1.c 3 _ rfl
  have z_p := HI.now.2.2.2.2.2.1.lt
  have HX2 := HI.now.2.2.1.co
  have HP2 := HI.now.2.2.2.2.1.co
  go_wp2_with fail
  go_loopw [8, 9, 10] (fun s8 s9 s10 wr => ∃ k : Nat, s10 = .int .i64 (k : Int) ∧ k ≤ p.colours.length ∧ s8 = .bool (greyB (p.colours.take k)) ∧ s9 = .int .i64 ((if k0 < k then 1 else 0 : Nat) : Int) ∧ ∃ n, wr = w2.drewN n) (fun _ _ s10 _ => p.colours.length - (intOf s10).toNat)
  case atStart => exact ⟨0, rfl, by omega, rfl, by simp, 0, rfl⟩
  case round =>
    obtain ⟨k, rfl, hk, rfl, rfl, n9, rfl⟩ := hrel
    obtain ⟨gb, hgb⟩ : ∃ gb, Hid (gb = greyB (p.colours.take k)) := ⟨_, rfl⟩
    obtain ⟨nb, hnb⟩ : ∃ nb : Nat, Hid (nb = (if k0 < k then 1 else 0 : Nat)) := ⟨_, rfl⟩
    rw [← hgb.out, ← hnb.out]
    by_cases hlt : k < p.colours.length
    · obtain ⟨b1, o1, y1, rfl, g1, m1, -⟩ := HX2.at_ (k := k) (by have := HL.out.2.2.2.1; omega)
      obtain ⟨b2, o2, y2, rfl, g2, m2, -⟩ := HP2.at_ hlt
      have q1 : w2.cell? ⟨b1, o1 + k, none⟩ = some (.int .i64 y1) := m1
      have q2 : w2.cell? ⟨b2, o2 + k, none⟩ = some (.int .i64 y2) := m2
      obtain ⟨he8, he7⟩ := HK.out.2.2 k y2 y1 g2 g1
      have he : decide (y1 < y2) = false := decide_eq_false (by omega)
      have HG := Lib.hid (greyB_snoc g2)
      have i0 : (0 : Int) ≤ (k : Int) := by omega
      have i1 : (k : Int) < (X.1.colours.length : Int) := by have := HL.out.2.2.2.1; omega
      have i2 : (k : Int) < (p.colours.length : Int) := by omega
      have i3 : (k : Int) + 1 < 9223372036854775807 := by have := HL.out.2.2.2.2.1; omega
      have i5 : nb ≤ 1 ∧ (k = k0 → nb = 0) := by have := hnb.out; constructor <;> (try intro h9) <;> split at this <;> omega
      have i6 : (nb : Int) + 1 < 9223372036854775807 := by omega
      have HB1 : Hid (k = k0 → ((if k0 < k + 1 then 1 else 0 : Nat) : Int) = (nb : Int) + 1) := fun h9 => by rw [if_pos (by omega), i5.2 h9]; rfl
      have HB2 : Hid (k ≠ k0 → ((if k0 < k + 1 then 1 else 0 : Nat) : Int) = (nb : Int)) := fun h9 => by rw [hnb.out]; by_cases h8 : k0 < k; rw [if_pos (by omega), if_pos h8]; rw [if_neg (by omega), if_neg h8]
      have HE7 := Lib.hid he7
      have HG2 : Hid (greyB (p.colours.take (k + 1)) = (gb || y2 == 1)) := by rw [hgb.out]; exact HG.out
      clear g1 g2 m1 m2 HI he8 he7 i5 HG hgb
      by_cases h2 : y1 = 2
      · have hy1 : (y1 == 2) = true := by simp [h2]
        by_cases h3 : y2 = 2
        · have hy2 : (y2 == 1) = false := by rw [h3]; decide
          have hy3 : (y2 != 2) = false := by rw [h3]; decide
          have hkk : k ≠ k0 := fun h9 => (HE7.out.2 h9).2 h3
          rw [hy2] at HG2
          clear h2 h3
          rcases bool_ft gb with hg | hg
          all_goals
            rw [hg] at HG2
            subst hg
            go_wp2
            go_quiet (fail)
            go_wp2
            go_roundw
            case rel => exact ⟨k + 1, by go_num, by omega, by rw [HG2.out]; rfl, by rw [HB2.out hkk], _, by first | rfl | (simp; rfl)⟩
            case measure => simp [intOf]; omega
        · have HKK : Hid (k = k0) := HE7.out.1 ⟨h2, h3⟩
          clear h2
          have hy2 : (y2 == 2) = false := by rw [beq_eq_false_iff_ne]; exact h3
          have hy3 : (y2 != 2) = true := by simp [h3]
          clear h3
          rcases bool_ft gb with hg | hg
          · rw [hg] at HG2
            subst hg
            rcases bool_ft (y2 == 1) with h1 | h1
            all_goals
              rw [h1] at HG2
              go_wp2
              go_quiet (fail)
              go_wp2
              go_roundw
              case rel => exact ⟨k + 1, by go_num, by omega, by rw [HG2.out]; rfl, by rw [HB1.out HKK.out], _, by first | rfl | (simp; rfl)⟩
              case measure => simp [intOf]; omega
          · rw [hg] at HG2
            subst hg
            go_wp2
            go_quiet (fail)
            go_wp2
            go_roundw
            case rel => exact ⟨k + 1, by go_num, by omega, by rw [HG2.out]; rfl, by rw [HB1.out HKK.out], _, by first | rfl | (simp; rfl)⟩
            case measure => simp [intOf]; omega
      · have hy1 : (y1 == 2) = false := by rw [beq_eq_false_iff_ne]; exact h2
        have hkk : k ≠ k0 := fun h9 => h2 (HE7.out.2 h9).1
        clear h2
        rcases bool_ft gb with hg | hg
        · rw [hg] at HG2
          subst hg
          rcases bool_ft (y2 == 1) with h1 | h1
          all_goals
            rw [h1] at HG2
            go_wp2
            go_quiet (fail)
            go_wp2
            go_roundw
            case rel => exact ⟨k + 1, by go_num, by omega, by rw [HG2.out]; rfl, by rw [HB2.out hkk], _, by first | rfl | (simp; rfl)⟩
            case measure => simp [intOf]; omega
        · rw [hg] at HG2
          subst hg
          go_wp2
          go_quiet (fail)
          go_wp2
          go_roundw
          case rel => exact ⟨k + 1, by go_num, by omega, by rw [HG2.out]; rfl, by rw [HB2.out hkk], _, by first | rfl | (simp; rfl)⟩
          case measure => simp [intOf]; omega
    · have i4 : ¬ (k : Int) < (p.colours.length : Int) := by omega
      have hkl : k = p.colours.length := by omega
      have hgx : gb = X.2 := by rw [hgb.out, hkl, List.take_length, HL.out.1]
      have HNB : Hid (X.2 = true → nb = 1) := fun h9 => by rw [hnb.out, if_pos (by have := HK.out.1 h9; omega)]
      have hxx : (X.2 == X.2) = true := by simp
      rw [hgx]
      clear hgx hgb hnb hkl
      clear HX2 HP2
      go_wp2_with fail
      refine Calls.gen (Stb (fun W => RPt W (.agg #[.slice A_y X.1.store.cells.length n_y, .slice B_y X.1.store.roots.length m_y, .slice C_y X.1.colours.length k_y, .bool X.1.active]) X.1 ∧ Bx W bx_y [.slice A_y X.1.store.cells.length n_y, .slice B_y X.1.store.roots.length m_y, .slice C_y X.1.colours.length k_y, .bool X.1.active] ∧ RPt W (.agg #[.slice A_x X.1.store.cells.length n_x, .slice B_x X.1.store.roots.length m_x, .slice C_x X.1.colours.length k_x, .bool X.1.active]) X.1 ∧ Bx W bx_x [.slice A_x X.1.store.cells.length n_x, .slice B_x X.1.store.roots.length m_x, .slice C_x X.1.colours.length k_x, .bool X.1.active] ∧ RPt W (.agg #[.slice A_p p.store.cells.length n_p, .slice B_p p.store.roots.length m_p, .slice C_p p.colours.length k_p, .bool p.active]) p ∧ Bx W bx_p [.slice A_p p.store.cells.length n_p, .slice B_p p.store.roots.length m_p, .slice C_p p.colours.length k_p, .bool p.active] ∧ Below w.heap.size w W)) (HI.step blw_) ?_
      clear c_x0 c_x1 c_x2 c_x3 z_x c_p0 c_p1 c_p2 c_p3 z_p
      clear HI 
      rintro W HI
      (with_reducible refine (implPaintValid_any _ X.1 _ HI.now.2.2.1).mono ?_); rw [HL.out.2.1]; rintro e w2 ⟨rfl, hB⟩
      replace HI := HI.step hB
      clear hB
      have c_x0 := HI.now.2.2.2.1.c 0 _ rfl
      have c_x1 := HI.now.2.2.2.1.c 1 _ rfl
      have c_x2 := HI.now.2.2.2.1.c 2 _ rfl
      have c_x3 := HI.now.2.2.2.1.c 3 _ rfl
      have z_x := HI.now.2.2.2.1.lt
      have c_p0 := HI.now.2.2.2.2.2.1.c 0 _ rfl
      have c_p1 := HI.now.2.2.2.2.2.1.c 1 _ rfl
      have c_p2 := HI.now.2.2.2.2.2.1.c 2 _ rfl
      have c_p3 := HI.now.2.2.2.2.2.1.c 3 _ rfl
      have z_p := HI.now.2.2.2.2.2.1.lt
      go_wp2_with fail
      refine Calls.gen (Stb (fun W => RPt W (.agg #[.slice A_y X.1.store.cells.length n_y, .slice B_y X.1.store.roots.length m_y, .slice C_y X.1.colours.length k_y, .bool X.1.active]) X.1 ∧ Bx W bx_y [.slice A_y X.1.store.cells.length n_y, .slice B_y X.1.store.roots.length m_y, .slice C_y X.1.colours.length k_y, .bool X.1.active] ∧ RPt W (.agg #[.slice A_x X.1.store.cells.length n_x, .slice B_x X.1.store.roots.length m_x, .slice C_x X.1.colours.length k_x, .bool X.1.active]) X.1 ∧ Bx W bx_x [.slice A_x X.1.store.cells.length n_x, .slice B_x X.1.store.roots.length m_x, .slice C_x X.1.colours.length k_x, .bool X.1.active] ∧ RPt W (.agg #[.slice A_p p.store.cells.length n_p, .slice B_p p.store.roots.length m_p, .slice C_p p.colours.length k_p, .bool p.active]) p ∧ Bx W bx_p [.slice A_p p.store.cells.length n_p, .slice B_p p.store.roots.length m_p, .slice C_p p.colours.length k_p, .bool p.active] ∧ Below w.heap.size w W)) (HI.step blw_) ?_
      clear c_x0 c_x1 c_x2 c_x3 z_x c_p0 c_p1 c_p2 c_p3 z_p
      clear HI 
      rintro W HI
      (with_reducible refine (sameHeap_any _ _ X.1.store p.store _ (HI.now.2.2.1).st (HI.now.2.2.2.2.1).st).mono ?_); rw [eqB_of HL.out.2.2.1]; rintro e w2 ⟨rfl, hB⟩
      replace HI := HI.step hB
      clear hB
      rcases bool_ft X.2 with hx | hx
      · rw [hx]
        have c_x0 := HI.now.2.2.2.1.c 0 _ rfl
        have c_x1 := HI.now.2.2.2.1.c 1 _ rfl
        have c_x2 := HI.now.2.2.2.1.c 2 _ rfl
        have c_x3 := HI.now.2.2.2.1.c 3 _ rfl
        have z_x := HI.now.2.2.2.1.lt
        have c_p0 := HI.now.2.2.2.2.2.1.c 0 _ rfl
        have c_p1 := HI.now.2.2.2.2.2.1.c 1 _ rfl
        have c_p2 := HI.now.2.2.2.2.2.1.c 2 _ rfl
        have c_p3 := HI.now.2.2.2.2.2.1.c 3 _ rfl
        have z_p := HI.now.2.2.2.2.2.1.lt
        go_wp2_with fail
        refine Calls.gen (Stb (fun W => RPt W (.agg #[.slice A_y X.1.store.cells.length n_y, .slice B_y X.1.store.roots.length m_y, .slice C_y X.1.colours.length k_y, .bool X.1.active]) X.1 ∧ Bx W bx_y [.slice A_y X.1.store.cells.length n_y, .slice B_y X.1.store.roots.length m_y, .slice C_y X.1.colours.length k_y, .bool X.1.active] ∧ RPt W (.agg #[.slice A_x X.1.store.cells.length n_x, .slice B_x X.1.store.roots.length m_x, .slice C_x X.1.colours.length k_x, .bool X.1.active]) X.1 ∧ Bx W bx_x [.slice A_x X.1.store.cells.length n_x, .slice B_x X.1.store.roots.length m_x, .slice C_x X.1.colours.length k_x, .bool X.1.active] ∧ RPt W (.agg #[.slice A_p p.store.cells.length n_p, .slice B_p p.store.roots.length m_p, .slice C_p p.colours.length k_p, .bool p.active]) p ∧ Bx W bx_p [.slice A_p p.store.cells.length n_p, .slice B_p p.store.roots.length m_p, .slice C_p p.colours.length k_p, .bool p.active] ∧ Below w.heap.size w W)) (HI.step blw_) ?_
        clear c_x0 c_x1 c_x2 c_x3 z_x c_p0 c_p1 c_p2 c_p3 z_p
        clear HI 
        rintro W HI
        have hE := HK.out.2.1 hx
        have hVx := HI.now.2.2.1
        rw [hE] at hVx
        rw [hE]
        (with_reducible refine (samePaint_eq _ _ p _ hVx HI.now.2.2.2.2.1).mono ?_); rintro e w2 ⟨rfl, hB⟩
        replace HI := HI.step hB
        clear hB
        clear hVx
        have HB := HI.now.2.2.2.2.2.2
        have zB := HB.size
        clear HI
        go_wp2_with fail
        go_ret
        exact ⟨rfl, blw_⟩
      rw [HNB.out hx, hx]
      have HB := HI.now.2.2.2.2.2.2
      have zB := HB.size
      clear HI
      go_wp2_with fail
      go_ret
      exact ⟨rfl, blw_⟩
end Go.Proofs.Ytopbngfghpgbnaa
