/- FnSnapFinish: the law's call returns true. -/
import Derived.Test.YteilaalababfpaaChecked
import Derived.Deep.QuietTactic
import Derived.BigQuiet
import Derived.Deep.RegionWith
import Derived.Test.YteilaalababfpaaGrCtx
import Derived.Test.YteilaalababfpaaGrDrawN
import Derived.Test.YteilaalababfpaaGrSame
import Derived.Test.YteilaalababfpaaSnapF
import Derived.Test.YteilaalababfpaaViewI
import Derived.Test.YteilaalababfpaaGrHeap
import Derived.Test.YteilaalababfpaaGrSam
import Derived.Test.YteilaalababfpaaGrIso
namespace Go.Proofs.Yteilaalababfpaa
open Go.RowKit
set_option maxRecDepth 100000
set_option linter.unusedSimpArgs false
set_option linter.unusedVariables false
set_option maxHeartbeats 8000000 in
theorem walkSnapFinish (C : Option Addr) (bs : List Int) (c : Nat) (w : World) (hr : RF fu w C bs) (hb : ∀ x ∈ bs, 0 ≤ x ∧ x < 256) (hc : bs.length ≤ c) (hc2 : c ≤ 9223372036854775807) :
    Calls Try.prog 7 #[.slice C bs.length c] w fun e w' => e = .returned (.bool true) ∧ Below w.heap.size w w' := by
  by_cases hbig : 1048576 < bs.length
  · go_enter Try.func7, Try.ntmps7
    go_wp2
    go_ret
    exact ⟨rfl, blw_⟩
  go_enter Try.func7, Try.ntmps7
  go_wp2_with fail
  (with_reducible refine (drawSnapFinish_any C bs c _ hr hb hc hc2).mono ?_); rintro e w1 ⟨v1, p, rfl, hV, hB⟩
  have hV_p := hV
  clear hV
  obtain ⟨A_p, n_p, B_p, m_p, C_p, k_p, D_p, l_p, rfl⟩ := hV_p.parts
  clear hr hb
  have zB := hB.size
  go_upto_region 4 with fail
  refine Code.gen (Stb (fun W => RTw W (.agg #[.slice A_p p.store.cells.length n_p, .slice B_p p.store.roots.length m_p, .slice C_p p.x.length k_p, .slice D_p p.y.length l_p]) p ∧ Bx W (w1.heap.size) [.slice A_p p.store.cells.length n_p, .slice B_p p.store.roots.length m_p, .slice C_p p.x.length k_p, .slice D_p p.y.length l_p] ∧ Below w.heap.size w W)) (Stb.and (Stb.rtw (hV_p.below blw_)) (Stb.and (Stb.bx (Bx.new w1 [.slice A_p p.store.cells.length n_p, .slice B_p p.store.roots.length m_p, .slice C_p p.x.length k_p, .slice D_p p.y.length l_p] 29)) (Stb.here blw_))) ?_
  generalize w1.heap.size = bx_p
  clear hV_p hB zB
  rintro W HI
  obtain ⟨X, hX⟩ : ∃ X, Hid (X = snapFinM p) := ⟨_, rfl⟩
  have c_p0 := HI.now.2.1.c 0 _ rfl
  have c_p1 := HI.now.2.1.c 1 _ rfl
  have c_p2 := HI.now.2.1.c 2 _ rfl
  have c_p3 := HI.now.2.1.c 3 _ rfl
  have z_p := HI.now.2.1.lt
  go_wp2_with fail
  refine Calls.gen (Stb (fun W => RTw W (.agg #[.slice A_p p.store.cells.length n_p, .slice B_p p.store.roots.length m_p, .slice C_p p.x.length k_p, .slice D_p p.y.length l_p]) p ∧ Bx W bx_p [.slice A_p p.store.cells.length n_p, .slice B_p p.store.roots.length m_p, .slice C_p p.x.length k_p, .slice D_p p.y.length l_p] ∧ Below w.heap.size w W)) (HI.step blw_) ?_
  clear c_p0 c_p1 c_p2 c_p3 z_p
  clear HI 
  rintro W HI
  (with_reducible refine (implSnapFinish_any _ p _ HI.now.1).mono ?_); rw [← hX.out]; rintro e w2 ⟨v2, rfl, oH, hB⟩
  replace HI := HI.step hB
  clear hB
  have hV_x := oH.rh
  clear oH
  obtain ⟨A_x, n_x, B_x, m_x, rfl⟩ := hV_x.parts
  go_upto_region 5 with fail
  refine Code.gen (Stb (fun W => RH W (.agg #[.slice A_x X.1.cells.length n_x, .slice B_x X.1.roots.length m_x]) X.1 ∧ Bx W (w2.heap.size) [.slice A_x X.1.cells.length n_x, .slice B_x X.1.roots.length m_x] ∧ RTw W (.agg #[.slice A_p p.store.cells.length n_p, .slice B_p p.store.roots.length m_p, .slice C_p p.x.length k_p, .slice D_p p.y.length l_p]) p ∧ Bx W bx_p [.slice A_p p.store.cells.length n_p, .slice B_p p.store.roots.length m_p, .slice C_p p.x.length k_p, .slice D_p p.y.length l_p] ∧ Below w.heap.size w W)) (Stb.and (Stb.rh (hV_x.below blw_)) (Stb.and (Stb.bx (Bx.new w2 [.slice A_x X.1.cells.length n_x, .slice B_x X.1.roots.length m_x] 26)) (HI.step blw_))) ?_
  generalize w2.heap.size = bx_x
  clear HI hV_x 
  rintro W HI
  have c_p0 := HI.now.2.2.2.1.c 0 _ rfl
  have c_p1 := HI.now.2.2.2.1.c 1 _ rfl
  have c_p2 := HI.now.2.2.2.1.c 2 _ rfl
  have c_p3 := HI.now.2.2.2.1.c 3 _ rfl
  have z_p := HI.now.2.2.2.1.lt
  go_wp2_with fail
  refine Calls.gen (Stb (fun W => RH W (.agg #[.slice A_x X.1.cells.length n_x, .slice B_x X.1.roots.length m_x]) X.1 ∧ Bx W bx_x [.slice A_x X.1.cells.length n_x, .slice B_x X.1.roots.length m_x] ∧ RTw W (.agg #[.slice A_p p.store.cells.length n_p, .slice B_p p.store.roots.length m_p, .slice C_p p.x.length k_p, .slice D_p p.y.length l_p]) p ∧ Bx W bx_p [.slice A_p p.store.cells.length n_p, .slice B_p p.store.roots.length m_p, .slice C_p p.x.length k_p, .slice D_p p.y.length l_p] ∧ Below w.heap.size w W)) (HI.step blw_) ?_
  clear c_p0 c_p1 c_p2 c_p3 z_p
  clear HI 
  rintro W HI
  (with_reducible refine (specSnapFinish_any _ p _ HI.now.2.2.1).mono ?_); rw [← hX.out]; rintro e w2 ⟨v2, rfl, oH, hB⟩
  replace HI := HI.step hB
  clear hB
  have hV_y := oH.rh
  clear oH
  obtain ⟨A_y, n_y, B_y, m_y, rfl⟩ := hV_y.parts
  go_upto_region 6 with fail
  refine Code.gen (Stb (fun W => RH W (.agg #[.slice A_y X.1.cells.length n_y, .slice B_y X.1.roots.length m_y]) X.1 ∧ Bx W (w2.heap.size) [.slice A_y X.1.cells.length n_y, .slice B_y X.1.roots.length m_y] ∧ RH W (.agg #[.slice A_x X.1.cells.length n_x, .slice B_x X.1.roots.length m_x]) X.1 ∧ Bx W bx_x [.slice A_x X.1.cells.length n_x, .slice B_x X.1.roots.length m_x] ∧ RTw W (.agg #[.slice A_p p.store.cells.length n_p, .slice B_p p.store.roots.length m_p, .slice C_p p.x.length k_p, .slice D_p p.y.length l_p]) p ∧ Bx W bx_p [.slice A_p p.store.cells.length n_p, .slice B_p p.store.roots.length m_p, .slice C_p p.x.length k_p, .slice D_p p.y.length l_p] ∧ Below w.heap.size w W)) (Stb.and (Stb.rh (hV_y.below blw_)) (Stb.and (Stb.bx (Bx.new w2 [.slice A_y X.1.cells.length n_y, .slice B_y X.1.roots.length m_y] 26)) (HI.step blw_))) ?_
  generalize w2.heap.size = bx_y
  clear HI hV_y 
  rintro W HI
  have c_x0 := HI.now.2.2.2.1.c 0 _ rfl
  have c_x1 := HI.now.2.2.2.1.c 1 _ rfl
  have z_x := HI.now.2.2.2.1.lt
  have c_y0 := HI.now.2.1.c 0 _ rfl
  have c_y1 := HI.now.2.1.c 1 _ rfl
  have z_y := HI.now.2.1.lt
  go_wp2_with fail
  refine Calls.gen (Stb (fun W => RH W (.agg #[.slice A_y X.1.cells.length n_y, .slice B_y X.1.roots.length m_y]) X.1 ∧ Bx W bx_y [.slice A_y X.1.cells.length n_y, .slice B_y X.1.roots.length m_y] ∧ RH W (.agg #[.slice A_x X.1.cells.length n_x, .slice B_x X.1.roots.length m_x]) X.1 ∧ Bx W bx_x [.slice A_x X.1.cells.length n_x, .slice B_x X.1.roots.length m_x] ∧ RTw W (.agg #[.slice A_p p.store.cells.length n_p, .slice B_p p.store.roots.length m_p, .slice C_p p.x.length k_p, .slice D_p p.y.length l_p]) p ∧ Bx W bx_p [.slice A_p p.store.cells.length n_p, .slice B_p p.store.roots.length m_p, .slice C_p p.x.length k_p, .slice D_p p.y.length l_p] ∧ Below w.heap.size w W)) (HI.step blw_) ?_
  clear c_x0 c_x1 z_x c_y0 c_y1 z_y
  clear HI 
  rintro W HI
  (with_reducible refine (sameHeap_any _ _ X.1 X.1 _ HI.now.2.2.1 HI.now.1).mono ?_); rw [eqB_of (rfl : X.1 = X.1)]; rintro e w2 ⟨rfl, hB⟩
  replace HI := HI.step hB
  clear hB
  by_cases hn0 : X.2 < 0
  · have hz := snap_fin_neg (p := p) (by rw [← hX.out]; exact hn0)
    rw [← hX.out] at hz
    obtain ⟨hx2, hz⟩ := hz
    clear hn0
    rw [hx2]
    have c_x0 := HI.now.2.2.2.1.c 0 _ rfl
    have c_x1 := HI.now.2.2.2.1.c 1 _ rfl
    have z_x := HI.now.2.2.2.1.lt
    rw [hz] at c_x1
    clear hz hx2
    go_wp2_with fail
    refine Calls.gen (Stb (fun W => RH W (.agg #[.slice A_y X.1.cells.length n_y, .slice B_y X.1.roots.length m_y]) X.1 ∧ Bx W bx_y [.slice A_y X.1.cells.length n_y, .slice B_y X.1.roots.length m_y] ∧ RH W (.agg #[.slice A_x X.1.cells.length n_x, .slice B_x X.1.roots.length m_x]) X.1 ∧ Bx W bx_x [.slice A_x X.1.cells.length n_x, .slice B_x X.1.roots.length m_x] ∧ RTw W (.agg #[.slice A_p p.store.cells.length n_p, .slice B_p p.store.roots.length m_p, .slice C_p p.x.length k_p, .slice D_p p.y.length l_p]) p ∧ Bx W bx_p [.slice A_p p.store.cells.length n_p, .slice B_p p.store.roots.length m_p, .slice C_p p.x.length k_p, .slice D_p p.y.length l_p] ∧ Below w.heap.size w W)) (HI.step blw_) ?_
    clear c_x0 c_x1 z_x
    clear HI 
    rintro W HI
    (with_reducible refine (alive_any _).mono ?_); rintro e w2 ⟨rfl, hB⟩
    replace HI := HI.step hB
    clear hB
    have HB := HI.now.2.2.2.2.2.2
    have zB := HB.size
    clear HI
    go_wp2_with fail
    go_ret
    exact ⟨rfl, blw_⟩
  have HL := Lib.hid (law_SnapFinish (p := p) (by rw [← hX.out]; omega))
  rw [← hX.out] at HL
  have c_x0 := HI.now.2.2.2.1.c 0 _ rfl
  have c_x1 := HI.now.2.2.2.1.c 1 _ rfl
  have z_x := HI.now.2.2.2.1.lt
  go_wp2_with fail
  refine Calls.gen (Stb (fun W => RH W (.agg #[.slice A_y X.1.cells.length n_y, .slice B_y X.1.roots.length m_y]) X.1 ∧ Bx W bx_y [.slice A_y X.1.cells.length n_y, .slice B_y X.1.roots.length m_y] ∧ RH W (.agg #[.slice A_x X.1.cells.length n_x, .slice B_x X.1.roots.length m_x]) X.1 ∧ Bx W bx_x [.slice A_x X.1.cells.length n_x, .slice B_x X.1.roots.length m_x] ∧ RTw W (.agg #[.slice A_p p.store.cells.length n_p, .slice B_p p.store.roots.length m_p, .slice C_p p.x.length k_p, .slice D_p p.y.length l_p]) p ∧ Bx W bx_p [.slice A_p p.store.cells.length n_p, .slice B_p p.store.roots.length m_p, .slice C_p p.x.length k_p, .slice D_p p.y.length l_p] ∧ Below w.heap.size w W)) (HI.step blw_) ?_
  clear c_x0 c_x1 z_x
  clear HI 
  rintro W HI
  (with_reducible refine (implHeapValid_any _ X.1 _ HI.now.2.2.1).mono ?_); rw [HL.out.2.1]; rintro e w2 ⟨rfl, hB⟩
  replace HI := HI.step hB
  clear hB
  have c_x0 := HI.now.2.2.2.1.c 0 _ rfl
  have c_x1 := HI.now.2.2.2.1.c 1 _ rfl
  have z_x := HI.now.2.2.2.1.lt
  have c_p0 := HI.now.2.2.2.2.2.1.c 0 _ rfl
  have c_p1 := HI.now.2.2.2.2.2.1.c 1 _ rfl
  have c_p2 := HI.now.2.2.2.2.2.1.c 2 _ rfl
  have c_p3 := HI.now.2.2.2.2.2.1.c 3 _ rfl
  have z_p := HI.now.2.2.2.2.2.1.lt
  go_wp2_with fail
  refine Calls.gen (Stb (fun W => RH W (.agg #[.slice A_y X.1.cells.length n_y, .slice B_y X.1.roots.length m_y]) X.1 ∧ Bx W bx_y [.slice A_y X.1.cells.length n_y, .slice B_y X.1.roots.length m_y] ∧ RH W (.agg #[.slice A_x X.1.cells.length n_x, .slice B_x X.1.roots.length m_x]) X.1 ∧ Bx W bx_x [.slice A_x X.1.cells.length n_x, .slice B_x X.1.roots.length m_x] ∧ RTw W (.agg #[.slice A_p p.store.cells.length n_p, .slice B_p p.store.roots.length m_p, .slice C_p p.x.length k_p, .slice D_p p.y.length l_p]) p ∧ Bx W bx_p [.slice A_p p.store.cells.length n_p, .slice B_p p.store.roots.length m_p, .slice C_p p.x.length k_p, .slice D_p p.y.length l_p] ∧ Below w.heap.size w W)) (HI.step blw_) ?_
  clear c_x0 c_x1 z_x c_p0 c_p1 c_p2 c_p3 z_p
  clear HI 
  rintro W HI
  (with_reducible refine (sameView_any _ _ X.1 p.store _ HI.now.2.2.1 (HI.now.2.2.2.2.1).st).mono ?_); rw [HL.out.2.2.1]; rintro e w2 ⟨rfl, hB⟩
  replace HI := HI.step hB
  clear hB
  have c_p0 := HI.now.2.2.2.2.2.1.c 0 _ rfl
  have c_p1 := HI.now.2.2.2.2.2.1.c 1 _ rfl
  have c_p2 := HI.now.2.2.2.2.2.1.c 2 _ rfl
  have c_p3 := HI.now.2.2.2.2.2.1.c 3 _ rfl
  have z_p := HI.now.2.2.2.2.2.1.lt
  go_wp2_with fail
  refine Calls.gen (Stb (fun W => RH W (.agg #[.slice A_y X.1.cells.length n_y, .slice B_y X.1.roots.length m_y]) X.1 ∧ Bx W bx_y [.slice A_y X.1.cells.length n_y, .slice B_y X.1.roots.length m_y] ∧ RH W (.agg #[.slice A_x X.1.cells.length n_x, .slice B_x X.1.roots.length m_x]) X.1 ∧ Bx W bx_x [.slice A_x X.1.cells.length n_x, .slice B_x X.1.roots.length m_x] ∧ RTw W (.agg #[.slice A_p p.store.cells.length n_p, .slice B_p p.store.roots.length m_p, .slice C_p p.x.length k_p, .slice D_p p.y.length l_p]) p ∧ Bx W bx_p [.slice A_p p.store.cells.length n_p, .slice B_p p.store.roots.length m_p, .slice C_p p.x.length k_p, .slice D_p p.y.length l_p] ∧ Below w.heap.size w W)) (HI.step blw_) ?_
  clear c_p0 c_p1 c_p2 c_p3 z_p
  clear HI 
  rintro W HI
  (with_reducible refine (leakedCells_any _ p.store _ (HI.now.2.2.2.2.1).st).mono ?_); rintro e w2 ⟨v5, rfl, ⟨S5, c5, rfl, -⟩, hB⟩
  replace HI := HI.step hB
  clear hB
  have hle : X.2 ≤ ((leakM p.store).length : Int) := HL.out.2.2.2
  have HB := HI.now.2.2.2.2.2.2
  have zB := HB.size
  clear HI
  go_wp2_with fail
  go_ret
  exact ⟨rfl, blw_⟩
end Go.Proofs.Yteilaalababfpaa
