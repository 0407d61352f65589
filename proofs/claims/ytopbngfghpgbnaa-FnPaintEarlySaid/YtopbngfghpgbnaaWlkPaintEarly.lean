/- FnPaintEarly: the law's call returns true. -/
import Derived.Test.YtopbngfghpgbnaaChecked
import Derived.Deep.QuietTactic
import Derived.BigQuiet
import Derived.Deep.RegionWith
import Derived.Test.YtopbngfghpgbnaaGrCtx
import Derived.Test.YtopbngfghpgbnaaGrDrawP
import Derived.Test.YtopbngfghpgbnaaGrSam
import Derived.Test.YtopbngfghpgbnaaGrSame
import Derived.Test.YtopbngfghpgbnaaPaintFin
import Derived.Test.YtopbngfghpgbnaaPaintFinS
import Derived.Test.YtopbngfghpgbnaaPaintStp
import Derived.Test.YtopbngfghpgbnaaGrIso
namespace Go.Proofs.Ytopbngfghpgbnaa
open Go.RowKit
set_option maxRecDepth 100000
set_option linter.unusedSimpArgs false
set_option linter.unusedVariables false
set_option maxHeartbeats 8000000 in
theorem walkPaintEarly (C : Option Addr) (bs : List Int) (c : Nat) (w : World) (hr : RF fu w C bs) (hb : ∀ x ∈ bs, 0 ≤ x ∧ x < 256) (hc : bs.length ≤ c) (hc2 : c ≤ 9223372036854775807) :
    Calls Try.prog 8 #[.slice C bs.length c] w fun e w' => e = .returned (.bool true) ∧ Below w.heap.size w w' := by
  by_cases hbig : 1048576 < bs.length
  · go_enter Try.func8, Try.ntmps8
    go_wp2
    go_ret
    exact ⟨rfl, blw_⟩
  go_enter Try.func8, Try.ntmps8
  go_wp2_with fail
  (with_reducible refine (drawPaintFinish_any C bs c _ hr hb hc hc2).mono ?_); rintro e w1 ⟨v1, p, rfl, hV, hB⟩
  have hV_p := hV
  clear hV
  obtain ⟨A_p, n_p, B_p, m_p, C_p, k_p, rfl⟩ := hV_p.parts
  clear hr hb
  have zB := hB.size
  go_upto_region 4 with fail
  refine Code.gen (Stb (fun W => RPt W (.agg #[.slice A_p p.store.cells.length n_p, .slice B_p p.store.roots.length m_p, .slice C_p p.colours.length k_p, .bool p.active]) p ∧ Bx W (w1.heap.size) [.slice A_p p.store.cells.length n_p, .slice B_p p.store.roots.length m_p, .slice C_p p.colours.length k_p, .bool p.active] ∧ Below w.heap.size w W)) (Stb.and (Stb.rpt (hV_p.below blw_)) (Stb.and (Stb.bx (Bx.new w1 [.slice A_p p.store.cells.length n_p, .slice B_p p.store.roots.length m_p, .slice C_p p.colours.length k_p, .bool p.active] 28)) (Stb.here blw_))) ?_
  generalize w1.heap.size = bx_p
  clear hV_p hB zB
  rintro W HI
  obtain ⟨X, hX⟩ : ∃ X, Hid (X = paintFinishM p) := ⟨_, rfl⟩
  have c_p0 := HI.now.2.1.c 0 _ rfl
  have c_p1 := HI.now.2.1.c 1 _ rfl
  have c_p2 := HI.now.2.1.c 2 _ rfl
  have c_p3 := HI.now.2.1.c 3 _ rfl
  have z_p := HI.now.2.1.lt
  go_wp2_with fail
  refine Calls.gen (Stb (fun W => RPt W (.agg #[.slice A_p p.store.cells.length n_p, .slice B_p p.store.roots.length m_p, .slice C_p p.colours.length k_p, .bool p.active]) p ∧ Bx W bx_p [.slice A_p p.store.cells.length n_p, .slice B_p p.store.roots.length m_p, .slice C_p p.colours.length k_p, .bool p.active] ∧ Below w.heap.size w W)) (HI.step blw_) ?_
  clear c_p0 c_p1 c_p2 c_p3 z_p
  clear HI 
  rintro W HI
  (with_reducible refine (implPaintFinish_any _ p _ HI.now.1).mono ?_); rw [← hX.out]; rintro e w2 ⟨v2, rfl, oH, hB⟩
  replace HI := HI.step hB
  clear hB
  have hV_x := oH.rp
  clear oH
  obtain ⟨A_x, n_x, B_x, m_x, C_x, k_x, rfl⟩ := hV_x.parts
  go_upto_region 5 with fail
  refine Code.gen (Stb (fun W => RPt W (.agg #[.slice A_x X.1.store.cells.length n_x, .slice B_x X.1.store.roots.length m_x, .slice C_x X.1.colours.length k_x, .bool X.1.active]) X.1 ∧ Bx W (w2.heap.size) [.slice A_x X.1.store.cells.length n_x, .slice B_x X.1.store.roots.length m_x, .slice C_x X.1.colours.length k_x, .bool X.1.active] ∧ RPt W (.agg #[.slice A_p p.store.cells.length n_p, .slice B_p p.store.roots.length m_p, .slice C_p p.colours.length k_p, .bool p.active]) p ∧ Bx W bx_p [.slice A_p p.store.cells.length n_p, .slice B_p p.store.roots.length m_p, .slice C_p p.colours.length k_p, .bool p.active] ∧ Below w.heap.size w W)) (Stb.and (Stb.rpt (hV_x.below blw_)) (Stb.and (Stb.bx (Bx.new w2 [.slice A_x X.1.store.cells.length n_x, .slice B_x X.1.store.roots.length m_x, .slice C_x X.1.colours.length k_x, .bool X.1.active] 28)) (HI.step blw_))) ?_
  generalize w2.heap.size = bx_x
  clear HI hV_x 
  rintro W HI
  have c_p0 := HI.now.2.2.2.1.c 0 _ rfl
  have c_p1 := HI.now.2.2.2.1.c 1 _ rfl
  have c_p2 := HI.now.2.2.2.1.c 2 _ rfl
  have c_p3 := HI.now.2.2.2.1.c 3 _ rfl
  have z_p := HI.now.2.2.2.1.lt
  go_wp2_with fail
  refine Calls.gen (Stb (fun W => RPt W (.agg #[.slice A_x X.1.store.cells.length n_x, .slice B_x X.1.store.roots.length m_x, .slice C_x X.1.colours.length k_x, .bool X.1.active]) X.1 ∧ Bx W bx_x [.slice A_x X.1.store.cells.length n_x, .slice B_x X.1.store.roots.length m_x, .slice C_x X.1.colours.length k_x, .bool X.1.active] ∧ RPt W (.agg #[.slice A_p p.store.cells.length n_p, .slice B_p p.store.roots.length m_p, .slice C_p p.colours.length k_p, .bool p.active]) p ∧ Bx W bx_p [.slice A_p p.store.cells.length n_p, .slice B_p p.store.roots.length m_p, .slice C_p p.colours.length k_p, .bool p.active] ∧ Below w.heap.size w W)) (HI.step blw_) ?_
  clear c_p0 c_p1 c_p2 c_p3 z_p
  clear HI 
  rintro W HI
  (with_reducible refine (specPaintFinish_any _ p _ HI.now.2.2.1).mono ?_); rw [← hX.out]; rintro e w2 ⟨v2, rfl, oH, hB⟩
  replace HI := HI.step hB
  clear hB
  have hV_y := oH.rp
  clear oH
  obtain ⟨A_y, n_y, B_y, m_y, C_y, k_y, rfl⟩ := hV_y.parts
  go_upto_region 6 with fail
  refine Code.gen (Stb (fun W => RPt W (.agg #[.slice A_y X.1.store.cells.length n_y, .slice B_y X.1.store.roots.length m_y, .slice C_y X.1.colours.length k_y, .bool X.1.active]) X.1 ∧ Bx W (w2.heap.size) [.slice A_y X.1.store.cells.length n_y, .slice B_y X.1.store.roots.length m_y, .slice C_y X.1.colours.length k_y, .bool X.1.active] ∧ RPt W (.agg #[.slice A_x X.1.store.cells.length n_x, .slice B_x X.1.store.roots.length m_x, .slice C_x X.1.colours.length k_x, .bool X.1.active]) X.1 ∧ Bx W bx_x [.slice A_x X.1.store.cells.length n_x, .slice B_x X.1.store.roots.length m_x, .slice C_x X.1.colours.length k_x, .bool X.1.active] ∧ RPt W (.agg #[.slice A_p p.store.cells.length n_p, .slice B_p p.store.roots.length m_p, .slice C_p p.colours.length k_p, .bool p.active]) p ∧ Bx W bx_p [.slice A_p p.store.cells.length n_p, .slice B_p p.store.roots.length m_p, .slice C_p p.colours.length k_p, .bool p.active] ∧ Below w.heap.size w W)) (Stb.and (Stb.rpt (hV_y.below blw_)) (Stb.and (Stb.bx (Bx.new w2 [.slice A_y X.1.store.cells.length n_y, .slice B_y X.1.store.roots.length m_y, .slice C_y X.1.colours.length k_y, .bool X.1.active] 28)) (HI.step blw_))) ?_
  generalize w2.heap.size = bx_y
  clear HI hV_y 
  rintro W HI
  have c_x0 := HI.now.2.2.2.1.c 0 _ rfl
  have c_x1 := HI.now.2.2.2.1.c 1 _ rfl
  have c_x2 := HI.now.2.2.2.1.c 2 _ rfl
  have c_x3 := HI.now.2.2.2.1.c 3 _ rfl
  have z_x := HI.now.2.2.2.1.lt
  have c_y0 := HI.now.2.1.c 0 _ rfl
  have c_y1 := HI.now.2.1.c 1 _ rfl
  have c_y2 := HI.now.2.1.c 2 _ rfl
  have c_y3 := HI.now.2.1.c 3 _ rfl
  have z_y := HI.now.2.1.lt
  go_wp2_with fail
  refine Calls.gen (Stb (fun W => RPt W (.agg #[.slice A_y X.1.store.cells.length n_y, .slice B_y X.1.store.roots.length m_y, .slice C_y X.1.colours.length k_y, .bool X.1.active]) X.1 ∧ Bx W bx_y [.slice A_y X.1.store.cells.length n_y, .slice B_y X.1.store.roots.length m_y, .slice C_y X.1.colours.length k_y, .bool X.1.active] ∧ RPt W (.agg #[.slice A_x X.1.store.cells.length n_x, .slice B_x X.1.store.roots.length m_x, .slice C_x X.1.colours.length k_x, .bool X.1.active]) X.1 ∧ Bx W bx_x [.slice A_x X.1.store.cells.length n_x, .slice B_x X.1.store.roots.length m_x, .slice C_x X.1.colours.length k_x, .bool X.1.active] ∧ RPt W (.agg #[.slice A_p p.store.cells.length n_p, .slice B_p p.store.roots.length m_p, .slice C_p p.colours.length k_p, .bool p.active]) p ∧ Bx W bx_p [.slice A_p p.store.cells.length n_p, .slice B_p p.store.roots.length m_p, .slice C_p p.colours.length k_p, .bool p.active] ∧ Below w.heap.size w W)) (HI.step blw_) ?_
  clear c_x0 c_x1 c_x2 c_x3 z_x c_y0 c_y1 c_y2 c_y3 z_y
  clear HI 
  rintro W HI
  (with_reducible refine (samePaint_eq _ _ X.1 _ HI.now.2.2.1 HI.now.1).mono ?_); rintro e w2 ⟨rfl, hB⟩
  replace HI := HI.step hB
  clear hB
  rcases bool_ft (paintM p) with hva | hva
  · have hx2 : X.2 = -1 := by rw [hX.out]; exact paint_fin_neg hva
    rw [hx2]
    clear hva
    go_wp2_with fail
    refine Calls.gen (Stb (fun W => RPt W (.agg #[.slice A_y X.1.store.cells.length n_y, .slice B_y X.1.store.roots.length m_y, .slice C_y X.1.colours.length k_y, .bool X.1.active]) X.1 ∧ Bx W bx_y [.slice A_y X.1.store.cells.length n_y, .slice B_y X.1.store.roots.length m_y, .slice C_y X.1.colours.length k_y, .bool X.1.active] ∧ RPt W (.agg #[.slice A_x X.1.store.cells.length n_x, .slice B_x X.1.store.roots.length m_x, .slice C_x X.1.colours.length k_x, .bool X.1.active]) X.1 ∧ Bx W bx_x [.slice A_x X.1.store.cells.length n_x, .slice B_x X.1.store.roots.length m_x, .slice C_x X.1.colours.length k_x, .bool X.1.active] ∧ RPt W (.agg #[.slice A_p p.store.cells.length n_p, .slice B_p p.store.roots.length m_p, .slice C_p p.colours.length k_p, .bool p.active]) p ∧ Bx W bx_p [.slice A_p p.store.cells.length n_p, .slice B_p p.store.roots.length m_p, .slice C_p p.colours.length k_p, .bool p.active] ∧ Below w.heap.size w W)) (HI.step blw_) ?_
    clear HI 
    rintro W HI
    (with_reducible refine (alive_any _).mono ?_); rintro e w2 ⟨rfl, hB⟩
    replace HI := HI.step hB
    clear hB
    have HB := HI.now.2.2.2.2.2.2
    have zB := HB.size
    clear HI
    go_wp2_with fail
    go_ret
    exact ⟨rfl, blw_⟩
  have hx2 : ¬ X.2 < 0 := by have := paint_fin_pos hva; rw [hX.out]; omega
  have HL := Lib.hid (paint_early hva)
  rw [← hX.out] at HL
  clear hva
  obtain ⟨Q, hQ⟩ : ∃ Q, Hid (Q = paintStepM p) := ⟨_, rfl⟩
  rw [← hQ.out] at HL
  have c_p0 := HI.now.2.2.2.2.2.1.c 0 _ rfl
  have c_p1 := HI.now.2.2.2.2.2.1.c 1 _ rfl
  have c_p2 := HI.now.2.2.2.2.2.1.c 2 _ rfl
  have c_p3 := HI.now.2.2.2.2.2.1.c 3 _ rfl
  have z_p := HI.now.2.2.2.2.2.1.lt
  go_wp2_with fail
  refine Calls.gen (Stb (fun W => RPt W (.agg #[.slice A_y X.1.store.cells.length n_y, .slice B_y X.1.store.roots.length m_y, .slice C_y X.1.colours.length k_y, .bool X.1.active]) X.1 ∧ Bx W bx_y [.slice A_y X.1.store.cells.length n_y, .slice B_y X.1.store.roots.length m_y, .slice C_y X.1.colours.length k_y, .bool X.1.active] ∧ RPt W (.agg #[.slice A_x X.1.store.cells.length n_x, .slice B_x X.1.store.roots.length m_x, .slice C_x X.1.colours.length k_x, .bool X.1.active]) X.1 ∧ Bx W bx_x [.slice A_x X.1.store.cells.length n_x, .slice B_x X.1.store.roots.length m_x, .slice C_x X.1.colours.length k_x, .bool X.1.active] ∧ RPt W (.agg #[.slice A_p p.store.cells.length n_p, .slice B_p p.store.roots.length m_p, .slice C_p p.colours.length k_p, .bool p.active]) p ∧ Bx W bx_p [.slice A_p p.store.cells.length n_p, .slice B_p p.store.roots.length m_p, .slice C_p p.colours.length k_p, .bool p.active] ∧ Below w.heap.size w W)) (HI.step blw_) ?_
  clear c_p0 c_p1 c_p2 c_p3 z_p
  clear HI 
  rintro W HI
  (with_reducible refine (implPaintStep_any _ p _ HI.now.2.2.2.2.1).mono ?_); rw [← hQ.out]; rintro e w2 ⟨v2, rfl, oH, hB⟩
  replace HI := HI.step hB
  clear hB
  have hV_q := oH.rp
  clear oH
  obtain ⟨A_q, n_q, B_q, m_q, C_q, k_q, rfl⟩ := hV_q.parts
  go_upto_region 11 with fail
  refine Code.gen (Stb (fun W => RPt W (.agg #[.slice A_q Q.1.store.cells.length n_q, .slice B_q Q.1.store.roots.length m_q, .slice C_q Q.1.colours.length k_q, .bool Q.1.active]) Q.1 ∧ Bx W (w2.heap.size) [.slice A_q Q.1.store.cells.length n_q, .slice B_q Q.1.store.roots.length m_q, .slice C_q Q.1.colours.length k_q, .bool Q.1.active] ∧ RPt W (.agg #[.slice A_y X.1.store.cells.length n_y, .slice B_y X.1.store.roots.length m_y, .slice C_y X.1.colours.length k_y, .bool X.1.active]) X.1 ∧ Bx W bx_y [.slice A_y X.1.store.cells.length n_y, .slice B_y X.1.store.roots.length m_y, .slice C_y X.1.colours.length k_y, .bool X.1.active] ∧ RPt W (.agg #[.slice A_x X.1.store.cells.length n_x, .slice B_x X.1.store.roots.length m_x, .slice C_x X.1.colours.length k_x, .bool X.1.active]) X.1 ∧ Bx W bx_x [.slice A_x X.1.store.cells.length n_x, .slice B_x X.1.store.roots.length m_x, .slice C_x X.1.colours.length k_x, .bool X.1.active] ∧ RPt W (.agg #[.slice A_p p.store.cells.length n_p, .slice B_p p.store.roots.length m_p, .slice C_p p.colours.length k_p, .bool p.active]) p ∧ Bx W bx_p [.slice A_p p.store.cells.length n_p, .slice B_p p.store.roots.length m_p, .slice C_p p.colours.length k_p, .bool p.active] ∧ Below w.heap.size w W)) (Stb.and (Stb.rpt (hV_q.below blw_)) (Stb.and (Stb.bx (Bx.new w2 [.slice A_q Q.1.store.cells.length n_q, .slice B_q Q.1.store.roots.length m_q, .slice C_q Q.1.colours.length k_q, .bool Q.1.active] 28)) (HI.step blw_))) ?_
  generalize w2.heap.size = bx_q
  clear HI hV_q 
  rintro W HI
  have c_q0 := HI.now.2.1.c 0 _ rfl
  have c_q1 := HI.now.2.1.c 1 _ rfl
  have c_q2 := HI.now.2.1.c 2 _ rfl
  have c_q3 := HI.now.2.1.c 3 _ rfl
  have z_q := HI.now.2.1.lt
  go_wp2_with fail
  refine Calls.gen (Stb (fun W => RPt W (.agg #[.slice A_q Q.1.store.cells.length n_q, .slice B_q Q.1.store.roots.length m_q, .slice C_q Q.1.colours.length k_q, .bool Q.1.active]) Q.1 ∧ Bx W bx_q [.slice A_q Q.1.store.cells.length n_q, .slice B_q Q.1.store.roots.length m_q, .slice C_q Q.1.colours.length k_q, .bool Q.1.active] ∧ RPt W (.agg #[.slice A_y X.1.store.cells.length n_y, .slice B_y X.1.store.roots.length m_y, .slice C_y X.1.colours.length k_y, .bool X.1.active]) X.1 ∧ Bx W bx_y [.slice A_y X.1.store.cells.length n_y, .slice B_y X.1.store.roots.length m_y, .slice C_y X.1.colours.length k_y, .bool X.1.active] ∧ RPt W (.agg #[.slice A_x X.1.store.cells.length n_x, .slice B_x X.1.store.roots.length m_x, .slice C_x X.1.colours.length k_x, .bool X.1.active]) X.1 ∧ Bx W bx_x [.slice A_x X.1.store.cells.length n_x, .slice B_x X.1.store.roots.length m_x, .slice C_x X.1.colours.length k_x, .bool X.1.active] ∧ RPt W (.agg #[.slice A_p p.store.cells.length n_p, .slice B_p p.store.roots.length m_p, .slice C_p p.colours.length k_p, .bool p.active]) p ∧ Bx W bx_p [.slice A_p p.store.cells.length n_p, .slice B_p p.store.roots.length m_p, .slice C_p p.colours.length k_p, .bool p.active] ∧ Below w.heap.size w W)) (HI.step blw_) ?_
  clear c_q0 c_q1 c_q2 c_q3 z_q
  clear HI 
  rintro W HI
  (with_reducible refine (implPaintFinish_any _ Q.1 _ HI.now.1).mono ?_); rw [HL.out]; rintro e w2 ⟨v2, rfl, oH, hB⟩
  replace HI := HI.step hB
  clear hB
  have hV_f := oH.rp
  clear oH
  obtain ⟨A_f, n_f, B_f, m_f, C_f, k_f, rfl⟩ := hV_f.parts
  go_upto_region 12 with fail
  refine Code.gen (Stb (fun W => RPt W (.agg #[.slice A_f X.1.store.cells.length n_f, .slice B_f X.1.store.roots.length m_f, .slice C_f X.1.colours.length k_f, .bool X.1.active]) X.1 ∧ Bx W (w2.heap.size) [.slice A_f X.1.store.cells.length n_f, .slice B_f X.1.store.roots.length m_f, .slice C_f X.1.colours.length k_f, .bool X.1.active] ∧ RPt W (.agg #[.slice A_q Q.1.store.cells.length n_q, .slice B_q Q.1.store.roots.length m_q, .slice C_q Q.1.colours.length k_q, .bool Q.1.active]) Q.1 ∧ Bx W bx_q [.slice A_q Q.1.store.cells.length n_q, .slice B_q Q.1.store.roots.length m_q, .slice C_q Q.1.colours.length k_q, .bool Q.1.active] ∧ RPt W (.agg #[.slice A_y X.1.store.cells.length n_y, .slice B_y X.1.store.roots.length m_y, .slice C_y X.1.colours.length k_y, .bool X.1.active]) X.1 ∧ Bx W bx_y [.slice A_y X.1.store.cells.length n_y, .slice B_y X.1.store.roots.length m_y, .slice C_y X.1.colours.length k_y, .bool X.1.active] ∧ RPt W (.agg #[.slice A_x X.1.store.cells.length n_x, .slice B_x X.1.store.roots.length m_x, .slice C_x X.1.colours.length k_x, .bool X.1.active]) X.1 ∧ Bx W bx_x [.slice A_x X.1.store.cells.length n_x, .slice B_x X.1.store.roots.length m_x, .slice C_x X.1.colours.length k_x, .bool X.1.active] ∧ RPt W (.agg #[.slice A_p p.store.cells.length n_p, .slice B_p p.store.roots.length m_p, .slice C_p p.colours.length k_p, .bool p.active]) p ∧ Bx W bx_p [.slice A_p p.store.cells.length n_p, .slice B_p p.store.roots.length m_p, .slice C_p p.colours.length k_p, .bool p.active] ∧ Below w.heap.size w W)) (Stb.and (Stb.rpt (hV_f.below blw_)) (Stb.and (Stb.bx (Bx.new w2 [.slice A_f X.1.store.cells.length n_f, .slice B_f X.1.store.roots.length m_f, .slice C_f X.1.colours.length k_f, .bool X.1.active] 28)) (HI.step blw_))) ?_
  generalize w2.heap.size = bx_f
  clear HI hV_f 
  rintro W HI
  have c_x0 := HI.now.2.2.2.2.2.2.2.1.c 0 _ rfl
  have c_x1 := HI.now.2.2.2.2.2.2.2.1.c 1 _ rfl
  have c_x2 := HI.now.2.2.2.2.2.2.2.1.c 2 _ rfl
  have c_x3 := HI.now.2.2.2.2.2.2.2.1.c 3 _ rfl
  have z_x := HI.now.2.2.2.2.2.2.2.1.lt
  have c_f0 := HI.now.2.1.c 0 _ rfl
  have c_f1 := HI.now.2.1.c 1 _ rfl
  have c_f2 := HI.now.2.1.c 2 _ rfl
  have c_f3 := HI.now.2.1.c 3 _ rfl
  have z_f := HI.now.2.1.lt
  go_wp2_with fail
  refine Calls.gen (Stb (fun W => RPt W (.agg #[.slice A_f X.1.store.cells.length n_f, .slice B_f X.1.store.roots.length m_f, .slice C_f X.1.colours.length k_f, .bool X.1.active]) X.1 ∧ Bx W bx_f [.slice A_f X.1.store.cells.length n_f, .slice B_f X.1.store.roots.length m_f, .slice C_f X.1.colours.length k_f, .bool X.1.active] ∧ RPt W (.agg #[.slice A_q Q.1.store.cells.length n_q, .slice B_q Q.1.store.roots.length m_q, .slice C_q Q.1.colours.length k_q, .bool Q.1.active]) Q.1 ∧ Bx W bx_q [.slice A_q Q.1.store.cells.length n_q, .slice B_q Q.1.store.roots.length m_q, .slice C_q Q.1.colours.length k_q, .bool Q.1.active] ∧ RPt W (.agg #[.slice A_y X.1.store.cells.length n_y, .slice B_y X.1.store.roots.length m_y, .slice C_y X.1.colours.length k_y, .bool X.1.active]) X.1 ∧ Bx W bx_y [.slice A_y X.1.store.cells.length n_y, .slice B_y X.1.store.roots.length m_y, .slice C_y X.1.colours.length k_y, .bool X.1.active] ∧ RPt W (.agg #[.slice A_x X.1.store.cells.length n_x, .slice B_x X.1.store.roots.length m_x, .slice C_x X.1.colours.length k_x, .bool X.1.active]) X.1 ∧ Bx W bx_x [.slice A_x X.1.store.cells.length n_x, .slice B_x X.1.store.roots.length m_x, .slice C_x X.1.colours.length k_x, .bool X.1.active] ∧ RPt W (.agg #[.slice A_p p.store.cells.length n_p, .slice B_p p.store.roots.length m_p, .slice C_p p.colours.length k_p, .bool p.active]) p ∧ Bx W bx_p [.slice A_p p.store.cells.length n_p, .slice B_p p.store.roots.length m_p, .slice C_p p.colours.length k_p, .bool p.active] ∧ Below w.heap.size w W)) (HI.step blw_) ?_
  clear c_x0 c_x1 c_x2 c_x3 z_x c_f0 c_f1 c_f2 c_f3 z_f
  clear HI 
  rintro W HI
  (with_reducible refine (samePaint_eq _ _ X.1 _ HI.now.2.2.2.2.2.2.1 HI.now.1).mono ?_); rintro e w2 ⟨rfl, hB⟩
  replace HI := HI.step hB
  clear hB
  have HB := HI.now.2.2.2.2.2.2.2.2.2.2
  have zB := HB.size
  clear HI
  go_wp2_with fail
  go_ret
  exact ⟨rfl, blw_⟩
end Go.Proofs.Ytopbngfghpgbnaa
