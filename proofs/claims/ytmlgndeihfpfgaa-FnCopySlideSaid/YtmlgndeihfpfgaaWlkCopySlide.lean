/- FnCopySlide: the law's call returns true. -/
import Derived.Test.YtmlgndeihfpfgaaChecked
import Derived.Deep.QuietTactic
import Derived.BigQuiet
import Derived.Deep.RegionWith
import Derived.Test.YtmlgndeihfpfgaaGrCtx
import Derived.Test.YtmlgndeihfpfgaaGrDraw
import Derived.Test.YtmlgndeihfpfgaaGrSame
import Derived.Test.YtmlgndeihfpfgaaGrMov
import Derived.Test.YtmlgndeihfpfgaaMovRS
import Derived.Test.YtmlgndeihfpfgaaViewI
import Derived.Test.YtmlgndeihfpfgaaGrIso
namespace Go.Proofs.Ytmlgndeihfpfgaa
open Go.RowKit
set_option maxRecDepth 100000
set_option linter.unusedSimpArgs false
set_option linter.unusedVariables false
set_option maxHeartbeats 8000000 in
theorem walkCopySlide (C : Option Addr) (bs : List Int) (c : Nat) (w : World) (hr : RF fu w C bs) (hb : ∀ x ∈ bs, 0 ≤ x ∧ x < 256) (hc : bs.length ≤ c) (hc2 : c ≤ 9223372036854775807) :
    Calls Try.prog 3 #[.slice C bs.length c] w fun e w' => e = .returned (.bool true) ∧ Below w.heap.size w w' := by
  by_cases hbig : 1048576 < bs.length
  · go_enter Try.func3, Try.ntmps3
    go_wp2
    go_ret
    exact ⟨rfl, blw_⟩
  go_enter Try.func3, Try.ntmps3
  go_wp2_with fail
  (with_reducible refine (drawRunCopy_any C bs c _ hr hb hc hc2).mono ?_); rintro e w1 ⟨L, S, cS, r, rfl, hr9, hS, hSB, hL, hB⟩
  have HS := hS.ro
  have hLl : L.length ≤ 9223372036854775807 := by omega
  clear hr hb hSB hS
  go_wp2_with fail
  refine Calls.gen (Stb (fun W => RO W S L ∧ Below w.heap.size w W)) (Stb.and (Stb.ro (HS.below blw_)) (Stb.here blw_)) ?_
  clear  HS hB
  rintro W HI
  have HLaw := Lib.hid (law_CopySlide L (r : Int))
  obtain ⟨X, hX⟩ : ∃ X, Hid (X = runMoveM copyHeapM L (r : Int)) := ⟨_, rfl⟩
  (with_reducible refine (implRunCopy_any S L cS (r : Int) _ HI.now.1 hLl).mono ?_); rw [← hX.out]; rintro e w2 ⟨v2, rfl, oH, hB⟩
  replace HI := HI.step hB
  clear hB
  have hV_x := oH.rh
  clear oH
  obtain ⟨A_x, n_x, B_x, m_x, rfl⟩ := hV_x.parts
  go_upto_region 5 with fail
  refine Code.gen (Stb (fun W => RH W (.agg #[.slice A_x X.1.cells.length n_x, .slice B_x X.1.roots.length m_x]) X.1 ∧ Bx W (w2.heap.size) [.slice A_x X.1.cells.length n_x, .slice B_x X.1.roots.length m_x] ∧ RO W S L ∧ Below w.heap.size w W)) (Stb.and (Stb.rh (hV_x.below blw_)) (Stb.and (Stb.bx (Bx.new w2 [.slice A_x X.1.cells.length n_x, .slice B_x X.1.roots.length m_x] 29)) (HI.step blw_))) ?_
  generalize w2.heap.size = bx_x
  clear HI hV_x 
  rintro W HI
  go_wp2_with fail
  refine Calls.gen (Stb (fun W => RH W (.agg #[.slice A_x X.1.cells.length n_x, .slice B_x X.1.roots.length m_x]) X.1 ∧ Bx W bx_x [.slice A_x X.1.cells.length n_x, .slice B_x X.1.roots.length m_x] ∧ RO W S L ∧ Below w.heap.size w W)) (HI.step blw_) ?_
  clear HI 
  rintro W HI
  (with_reducible refine (specRunCopy_any S L cS (r : Int) _ HI.now.2.2.1 hLl).mono ?_); rw [← hX.out]; rintro e w2 ⟨v2, rfl, oH, hB⟩
  replace HI := HI.step hB
  clear hB
  have hV_y := oH.rh
  clear oH
  obtain ⟨A_y, n_y, B_y, m_y, rfl⟩ := hV_y.parts
  go_upto_region 6 with fail
  refine Code.gen (Stb (fun W => RH W (.agg #[.slice A_y X.1.cells.length n_y, .slice B_y X.1.roots.length m_y]) X.1 ∧ Bx W (w2.heap.size) [.slice A_y X.1.cells.length n_y, .slice B_y X.1.roots.length m_y] ∧ RH W (.agg #[.slice A_x X.1.cells.length n_x, .slice B_x X.1.roots.length m_x]) X.1 ∧ Bx W bx_x [.slice A_x X.1.cells.length n_x, .slice B_x X.1.roots.length m_x] ∧ RO W S L ∧ Below w.heap.size w W)) (Stb.and (Stb.rh (hV_y.below blw_)) (Stb.and (Stb.bx (Bx.new w2 [.slice A_y X.1.cells.length n_y, .slice B_y X.1.roots.length m_y] 29)) (HI.step blw_))) ?_
  generalize w2.heap.size = bx_y
  clear HI hV_y 
  rintro W HI
  have c_x0 := HI.now.2.2.2.1.c 0 _ rfl
  have c_x1 := HI.now.2.2.2.1.c 1 _ rfl
  have z_x := HI.now.2.2.2.1.lt
  have c_y0 := HI.now.2.1.c 0 _ rfl
  have c_y1 := HI.now.2.1.c 1 _ rfl
  have z_y := HI.now.2.1.lt
  go_wp2_with fail
  refine Calls.gen (Stb (fun W => RH W (.agg #[.slice A_y X.1.cells.length n_y, .slice B_y X.1.roots.length m_y]) X.1 ∧ Bx W bx_y [.slice A_y X.1.cells.length n_y, .slice B_y X.1.roots.length m_y] ∧ RH W (.agg #[.slice A_x X.1.cells.length n_x, .slice B_x X.1.roots.length m_x]) X.1 ∧ Bx W bx_x [.slice A_x X.1.cells.length n_x, .slice B_x X.1.roots.length m_x] ∧ RO W S L ∧ Below w.heap.size w W)) (HI.step blw_) ?_
  clear c_x0 c_x1 z_x c_y0 c_y1 z_y
  clear HI 
  rintro W HI
  (with_reducible refine (sameHeap_any _ _ X.1 X.1 _ HI.now.2.2.1 HI.now.1).mono ?_); rw [eqB_of (rfl : X.1 = X.1)]; rintro e w2 ⟨rfl, hB⟩
  replace HI := HI.step hB
  clear hB
  obtain ⟨Y, hY⟩ : ∃ Y, Hid (Y = runMoveM slideHeapM L (r : Int)) := ⟨_, rfl⟩
  rw [← hX.out, ← hY.out] at HLaw
  go_wp2_with fail
  refine Calls.gen (Stb (fun W => RH W (.agg #[.slice A_y X.1.cells.length n_y, .slice B_y X.1.roots.length m_y]) X.1 ∧ Bx W bx_y [.slice A_y X.1.cells.length n_y, .slice B_y X.1.roots.length m_y] ∧ RH W (.agg #[.slice A_x X.1.cells.length n_x, .slice B_x X.1.roots.length m_x]) X.1 ∧ Bx W bx_x [.slice A_x X.1.cells.length n_x, .slice B_x X.1.roots.length m_x] ∧ RO W S L ∧ Below w.heap.size w W)) (HI.step blw_) ?_
  clear HI 
  rintro W HI
  (with_reducible refine (implRunSlide_any S L cS (r : Int) _ HI.now.2.2.2.2.1 hLl).mono ?_); rw [← hY.out]; rintro e w2 ⟨v2, rfl, oH, hB⟩
  replace HI := HI.step hB
  clear hB
  have hV_s := oH.rh
  clear oH
  obtain ⟨A_s, n_s, B_s, m_s, rfl⟩ := hV_s.parts
  go_upto_region 9 with fail
  refine Code.gen (Stb (fun W => RH W (.agg #[.slice A_s Y.1.cells.length n_s, .slice B_s Y.1.roots.length m_s]) Y.1 ∧ Bx W (w2.heap.size) [.slice A_s Y.1.cells.length n_s, .slice B_s Y.1.roots.length m_s] ∧ RH W (.agg #[.slice A_y X.1.cells.length n_y, .slice B_y X.1.roots.length m_y]) X.1 ∧ Bx W bx_y [.slice A_y X.1.cells.length n_y, .slice B_y X.1.roots.length m_y] ∧ RH W (.agg #[.slice A_x X.1.cells.length n_x, .slice B_x X.1.roots.length m_x]) X.1 ∧ Bx W bx_x [.slice A_x X.1.cells.length n_x, .slice B_x X.1.roots.length m_x] ∧ RO W S L ∧ Below w.heap.size w W)) (Stb.and (Stb.rh (hV_s.below blw_)) (Stb.and (Stb.bx (Bx.new w2 [.slice A_s Y.1.cells.length n_s, .slice B_s Y.1.roots.length m_s] 29)) (HI.step blw_))) ?_
  generalize w2.heap.size = bx_s
  clear HI hV_s 
  rintro W HI
  have hl1 : ((X.1.cells.length : Int) == (Y.1.cells.length : Int)) = true := by rw [HLaw.out.1]; simp
  by_cases hz : X.1.roots.length = 0
  · have c_x0 := HI.now.2.2.2.2.2.1.c 0 _ rfl
    have c_x1 := HI.now.2.2.2.2.2.1.c 1 _ rfl
    have z_x := HI.now.2.2.2.2.2.1.lt
    have c_s0 := HI.now.2.1.c 0 _ rfl
    have c_s1 := HI.now.2.1.c 1 _ rfl
    have z_s := HI.now.2.1.lt
    rw [hz] at c_x1
    go_wp2_with fail
    refine Calls.gen (Stb (fun W => RH W (.agg #[.slice A_s Y.1.cells.length n_s, .slice B_s Y.1.roots.length m_s]) Y.1 ∧ Bx W bx_s [.slice A_s Y.1.cells.length n_s, .slice B_s Y.1.roots.length m_s] ∧ RH W (.agg #[.slice A_y X.1.cells.length n_y, .slice B_y X.1.roots.length m_y]) X.1 ∧ Bx W bx_y [.slice A_y X.1.cells.length n_y, .slice B_y X.1.roots.length m_y] ∧ RH W (.agg #[.slice A_x X.1.cells.length n_x, .slice B_x X.1.roots.length m_x]) X.1 ∧ Bx W bx_x [.slice A_x X.1.cells.length n_x, .slice B_x X.1.roots.length m_x] ∧ RO W S L ∧ Below w.heap.size w W)) (HI.step blw_) ?_
    clear c_x0 c_x1 z_x c_s0 c_s1 z_s
    clear HI 
    rintro W HI
    (with_reducible refine (alive_any _).mono ?_); rintro e w2 ⟨rfl, hB⟩
    replace HI := HI.step hB
    clear hB
    have HB := HI.now.2.2.2.2.2.2.2
    have zB := HB.size
    clear HI
    go_wp2_with fail
    go_ret
    exact ⟨rfl, blw_⟩
  have hz1 : ((X.1.roots.length : Int) == 0) = false := by rw [beq_eq_false_iff_ne]; omega
  have c_x0 := HI.now.2.2.2.2.2.1.c 0 _ rfl
  have c_x1 := HI.now.2.2.2.2.2.1.c 1 _ rfl
  have z_x := HI.now.2.2.2.2.2.1.lt
  have c_s0 := HI.now.2.1.c 0 _ rfl
  have c_s1 := HI.now.2.1.c 1 _ rfl
  have z_s := HI.now.2.1.lt
  go_wp2_with fail
  refine Calls.gen (Stb (fun W => RH W (.agg #[.slice A_s Y.1.cells.length n_s, .slice B_s Y.1.roots.length m_s]) Y.1 ∧ Bx W bx_s [.slice A_s Y.1.cells.length n_s, .slice B_s Y.1.roots.length m_s] ∧ RH W (.agg #[.slice A_y X.1.cells.length n_y, .slice B_y X.1.roots.length m_y]) X.1 ∧ Bx W bx_y [.slice A_y X.1.cells.length n_y, .slice B_y X.1.roots.length m_y] ∧ RH W (.agg #[.slice A_x X.1.cells.length n_x, .slice B_x X.1.roots.length m_x]) X.1 ∧ Bx W bx_x [.slice A_x X.1.cells.length n_x, .slice B_x X.1.roots.length m_x] ∧ RO W S L ∧ Below w.heap.size w W)) (HI.step blw_) ?_
  clear c_x0 c_x1 z_x c_s0 c_s1 z_s
  clear HI 
  rintro W HI
  (with_reducible refine (sameView_any _ _ X.1 Y.1 _ HI.now.2.2.2.2.1 HI.now.1).mono ?_); rw [HLaw.out.2.resolve_left hz]; rintro e w2 ⟨rfl, hB⟩
  replace HI := HI.step hB
  clear hB
  go_wp2_with fail
  refine Calls.gen (Stb (fun W => RH W (.agg #[.slice A_s Y.1.cells.length n_s, .slice B_s Y.1.roots.length m_s]) Y.1 ∧ Bx W bx_s [.slice A_s Y.1.cells.length n_s, .slice B_s Y.1.roots.length m_s] ∧ RH W (.agg #[.slice A_y X.1.cells.length n_y, .slice B_y X.1.roots.length m_y]) X.1 ∧ Bx W bx_y [.slice A_y X.1.cells.length n_y, .slice B_y X.1.roots.length m_y] ∧ RH W (.agg #[.slice A_x X.1.cells.length n_x, .slice B_x X.1.roots.length m_x]) X.1 ∧ Bx W bx_x [.slice A_x X.1.cells.length n_x, .slice B_x X.1.roots.length m_x] ∧ RO W S L ∧ Below w.heap.size w W)) (HI.step blw_) ?_
  clear HI 
  rintro W HI
  (with_reducible refine (alive_any _).mono ?_); rintro e w2 ⟨rfl, hB⟩
  replace HI := HI.step hB
  clear hB
  have HB := HI.now.2.2.2.2.2.2.2
  have zB := HB.size
  clear HI
  go_wp2_with fail
  go_ret
  exact ⟨rfl, blw_⟩
end Go.Proofs.Ytmlgndeihfpfgaa
