/- FnSlideSweep: the law's call returns true. -/
import Derived.Test.YtngmkflmjjkjaaaChecked
import Derived.Deep.QuietTactic
import Derived.BigQuiet
import Derived.Deep.RegionWith
import Derived.Test.YtngmkflmjjkjaaaDrawA
import Derived.Test.YtngmkflmjjkjaaaGrSame
import Derived.Test.YtngmkflmjjkjaaaCtx
import Derived.Test.YtngmkflmjjkjaaaRel
import Derived.Test.YtngmkflmjjkjaaaUsedC
import Derived.Test.YtngmkflmjjkjaaaGrMov
import Derived.Test.YtngmkflmjjkjaaaMovS
import Derived.Test.YtngmkflmjjkjaaaGrHeap
import Derived.Test.YtngmkflmjjkjaaaGrIso
namespace Go.Proofs.Ytngmkflmjjkjaaa
open Go.RowKit
set_option maxRecDepth 100000
set_option linter.unusedSimpArgs false
set_option linter.unusedVariables false
set_option maxHeartbeats 8000000 in
theorem walkSlideSweep (C : Option Addr) (bs : List Int) (c : Nat) (w : World) (hr : RF fu w C bs) (hb : ∀ x ∈ bs, 0 ≤ x ∧ x < 256) (hc : bs.length ≤ c) (hc2 : c ≤ 9223372036854775807) :
    Calls Try.prog 10 #[.slice C bs.length c] w fun e w' => e = .returned (.bool true) ∧ Below w.heap.size w w' := by
  by_cases hbig : 1048576 < bs.length
  · go_enter Try.func10, Try.ntmps10
    go_wp2
    go_ret
    exact ⟨rfl, (by repeat (first | ((with_reducible refine Below.setc ?_ ?_ _); focus (first | omega | (simp; done) | (simp; omega))) | ((with_reducible refine Below.allocc ?_ ?_ _); focus (first | omega | (simp; done) | (simp; omega))) | (with_reducible refine Below.drew ?_) | (with_reducible refine Below.drewn ?_) | (with_reducible assumption) | (with_reducible exact Below.refl _ _) | ((with_reducible refine Below.stepp (by with_reducible assumption) ?_ ?_); focus (first | omega | (simp; done) | (simp; omega)))))⟩
  go_enter Try.func10, Try.ntmps10
  go_wp2_with fail
  (with_reducible refine (drawSlideHeap_any C bs c _ hr hb hc hc2).mono ?_); rintro e w1 ⟨v, h, rfl, hV, hB⟩
  obtain ⟨A, n, A', n', rfl⟩ := hV.parts
  have zB := hB.size
  clear hr hb
  go_wp2_with fail
  refine Calls.gen (fun W => Below w.heap.size w W ∧ RH W (.agg #[.slice A h.cells.length n, .slice A' h.roots.length n']) h ∧ Bx W w1.heap.size [.slice A h.cells.length n, .slice A' h.roots.length n']) ⟨(by repeat (first | ((with_reducible refine Below.setc ?_ ?_ _); focus (first | omega | (simp; done) | (simp; omega))) | ((with_reducible refine Below.allocc ?_ ?_ _); focus (first | omega | (simp; done) | (simp; omega))) | (with_reducible refine Below.drew ?_) | (with_reducible refine Below.drewn ?_) | (with_reducible assumption) | (with_reducible exact Below.refl _ _) | ((with_reducible refine Below.stepp (by with_reducible assumption) ?_ ?_); focus (first | omega | (simp; done) | (simp; omega))))), hV.below (by repeat (first | ((with_reducible refine Below.setc ?_ ?_ _); focus (first | omega | (simp; done) | (simp; omega))) | ((with_reducible refine Below.allocc ?_ ?_ _); focus (first | omega | (simp; done) | (simp; omega))) | (with_reducible refine Below.drew ?_) | (with_reducible refine Below.drewn ?_) | (with_reducible assumption) | (with_reducible exact Below.refl _ _) | ((with_reducible refine Below.stepp (by with_reducible assumption) ?_ ?_); focus (first | omega | (simp; done) | (simp; omega))))), Bx.new w1 [.slice A h.cells.length n, .slice A' h.roots.length n'] 28⟩ ?_
  generalize w1.heap.size = bh
  clear hB hV zB
  rintro W ⟨HB, HV, HH⟩
  obtain ⟨X, hX⟩ : ∃ X, Hid (X = slideHeapM h) := ⟨_, rfl⟩
  (with_reducible refine (implSlideHeap_any _ h _ HV).mono ?_); rw [← hX.out]; rintro e w2 ⟨v2, rfl, oH, hB⟩
  have hV2 := oH.rh
  obtain ⟨A2, n2, A2', n2', rfl⟩ := hV2.parts
  have HB := HB.trans (hB.mono HB.size)
  have zB := HB.size
  have HV := HV.below hB
  have HH := HH.below hB
  clear hB oH
  go_upto_region 5 with fail
  refine Code.gen (fun W => Below w.heap.size w W ∧ RH W (.agg #[.slice A h.cells.length n, .slice A' h.roots.length n']) h ∧ Bx W bh [.slice A h.cells.length n, .slice A' h.roots.length n'] ∧ RH W (.agg #[.slice A2 X.cells.length n2, .slice A2' X.roots.length n2']) X ∧ Bx W w2.heap.size [.slice A2 X.cells.length n2, .slice A2' X.roots.length n2']) ⟨(by repeat (first | ((with_reducible refine Below.setc ?_ ?_ _); focus (first | omega | (simp; done) | (simp; omega))) | ((with_reducible refine Below.allocc ?_ ?_ _); focus (first | omega | (simp; done) | (simp; omega))) | (with_reducible refine Below.drew ?_) | (with_reducible refine Below.drewn ?_) | (with_reducible assumption) | (with_reducible exact Below.refl _ _) | ((with_reducible refine Below.stepp (by with_reducible assumption) ?_ ?_); focus (first | omega | (simp; done) | (simp; omega))))), HV.below (by repeat (first | ((with_reducible refine Below.setc ?_ ?_ _); focus (first | omega | (simp; done) | (simp; omega))) | ((with_reducible refine Below.allocc ?_ ?_ _); focus (first | omega | (simp; done) | (simp; omega))) | (with_reducible refine Below.drew ?_) | (with_reducible refine Below.drewn ?_) | (with_reducible assumption) | (with_reducible exact Below.refl _ _) | ((with_reducible refine Below.stepp (by with_reducible assumption) ?_ ?_); focus (first | omega | (simp; done) | (simp; omega))))), HH.below (by repeat (first | ((with_reducible refine Below.setc ?_ ?_ _); focus (first | omega | (simp; done) | (simp; omega))) | ((with_reducible refine Below.allocc ?_ ?_ _); focus (first | omega | (simp; done) | (simp; omega))) | (with_reducible refine Below.drew ?_) | (with_reducible refine Below.drewn ?_) | (with_reducible assumption) | (with_reducible exact Below.refl _ _) | ((with_reducible refine Below.stepp (by with_reducible assumption) ?_ ?_); focus (first | omega | (simp; done) | (simp; omega))))), hV2.below (by repeat (first | ((with_reducible refine Below.setc ?_ ?_ _); focus (first | omega | (simp; done) | (simp; omega))) | ((with_reducible refine Below.allocc ?_ ?_ _); focus (first | omega | (simp; done) | (simp; omega))) | (with_reducible refine Below.drew ?_) | (with_reducible refine Below.drewn ?_) | (with_reducible assumption) | (with_reducible exact Below.refl _ _) | ((with_reducible refine Below.stepp (by with_reducible assumption) ?_ ?_); focus (first | omega | (simp; done) | (simp; omega))))), Bx.new _ _ _⟩ ?_
  generalize w2.heap.size = bx
  clear HB HV HH hV2 zB
  rintro W ⟨HB, HV, HH, HX, HBX⟩
  have hE : Hid (eqB X X = true) := eqB_of rfl
  refine wp_region_R (by kernel_rfl) (fun R wd hR hwd => ?_)
  have hBd : Below W.heap.size W wd := by rw [hwd]; exact (by repeat (first | ((with_reducible refine Below.setc ?_ ?_ _); focus (first | omega | (simp; done) | (simp; omega))) | ((with_reducible refine Below.allocc ?_ ?_ _); focus (first | omega | (simp; done) | (simp; omega))) | (with_reducible refine Below.drew ?_) | (with_reducible refine Below.drewn ?_) | (with_reducible assumption) | (with_reducible exact Below.refl _ _) | ((with_reducible refine Below.stepp (by with_reducible assumption) ?_ ?_); focus (first | omega | (simp; done) | (simp; omega)))))
  have HB := HB.trans (hBd.mono HB.size)
  have HV := HV.below hBd
  have HH := HH.below hBd
  have HX := HX.below hBd
  have HBX := HBX.below hBd
  clear hwd hBd
  refine rel_at (fr := ?fr_0) hR (fun f W => Below w.heap.size w W ∧ RH W (.agg #[.slice A h.cells.length n, .slice A' h.roots.length n']) h ∧ Bx W bh [.slice A h.cells.length n, .slice A' h.roots.length n'] ∧ RH W (.agg #[.slice A2 X.cells.length n2, .slice A2' X.roots.length n2']) X ∧ Bx W bx [.slice A2 X.cells.length n2, .slice A2' X.roots.length n2']) [(fun v W => v = (.agg #[.slice A2 X.cells.length n2, .slice A2' X.roots.length n2'])), (fun v W => v = (.agg #[.slice A h.cells.length n, .slice A' h.roots.length n'])), (fun v W => RH W v X), (fun v W => v = .bool true), tt] (fun W W' => Below W.heap.size W W') [(0, []), (1, []), (2, [1]), (3, [0, 2, 1]), (4, [0, 1, 2, 3])] [(16, 0), (17, 1), (18, 2), (19, 3)] [0, 1, 2, 3] #[true, true, true, true, false] 5 1 (by kernel_rfl) (by kernel_rfl) ?hfr_0 ?h0_0 ?mono_0 ?steps_0 ?_
  case hfr_0 => intro x; (simp [frOf, fill, Act.put, List.lookup]; with_reducible rfl)
  case h0_0 => exact ⟨HB, HV, HH, HX, HBX⟩
  case mono_0 => exact (Pm.cons (fun _ _ _ _ h => h) (Pm.cons (fun _ _ _ _ h => h) (Pm.cons (fun _ _ _ hG h => h.below hG) (Pm.cons (fun _ _ _ _ h => h) (Pm.cons (fun _ _ _ _ h => h) Pm.nil)))))
  case steps_0 =>
    refine Steps.cons (RStep.of rfl fun x W f hI hD K9 hK => ?_) ?_
    · clear hD
      have c0 := hI.2.2.2.2.c 0 _ rfl
      have c1 := hI.2.2.2.2.c 1 _ rfl
      go_simp
      exact hK ((.agg #[.slice A2 X.cells.length n2, .slice A2' X.roots.length n2'])) _ _ (by kernel_rfl) (Below.refl _ _) (hI) rfl
    refine Steps.cons (RStep.of rfl fun x W f hI hD K9 hK => ?_) ?_
    · clear hD
      have c0 := hI.2.2.1.c 0 _ rfl
      have c1 := hI.2.2.1.c 1 _ rfl
      go_simp
      exact hK ((.agg #[.slice A h.cells.length n, .slice A' h.roots.length n'])) _ _ (by kernel_rfl) (Below.refl _ _) (hI) rfl
    refine Steps.cons (RStep.of rfl fun x W f hI hD K9 hK => ?_) ?_
    · have e1 : x 1 = (.agg #[.slice A h.cells.length n, .slice A' h.roots.length n']) := hD 1 (by decide)
      clear hD
      simp only [e1] at hK ⊢
      go_wp2_with fail
      (with_reducible refine (specSlideHeap_any _ h _ hI.2.1).mono ?_); rw [← hX.out]
      rintro e w6 ⟨v6, rfl, oH, hB⟩
      exact hK v6 _ _ (by kernel_rfl) hB ⟨hI.1.trans (hB.mono hI.1.size), hI.2.1.below hB, hI.2.2.1.below hB, hI.2.2.2.1.below hB, hI.2.2.2.2.below hB⟩ oH.rh
    refine Steps.cons (RStep.of rfl fun x W f hI hD K9 hK => ?_) ?_
    · have e0 : x 0 = (.agg #[.slice A2 X.cells.length n2, .slice A2' X.roots.length n2']) := hD 0 (by decide)
      have h2 : (fun v W => RH W v X) (x 2) W := hD 2 (by decide)
      clear hD
      simp only [e0] at hK ⊢
      go_wp2_with fail
      (with_reducible refine (sameHeap_any _ (x 2) X X _ hI.2.2.2.1 h2).mono ?_); rw [hE.out]
      rintro e w6 ⟨rfl, hB⟩
      exact hK _ _ _ (by kernel_rfl) hB ⟨hI.1.trans (hB.mono hI.1.size), hI.2.1.below hB, hI.2.2.1.below hB, hI.2.2.2.1.below hB, hI.2.2.2.2.below hB⟩ rfl
    exact Steps.nil
  intro x W hI hV
  have e0 : x 0 = (.agg #[.slice A2 X.cells.length n2, .slice A2' X.roots.length n2']) := hV 0 (by decide)
  have e1 : x 1 = (.agg #[.slice A h.cells.length n, .slice A' h.roots.length n']) := hV 1 (by decide)
  have h2 : (fun v W => RH W v X) (x 2) W := hV 2 (by decide)
  have e3 : x 3 = .bool true := hV 3 (by decide)
  clear hV
  simp only [e0, e1, e3]
  clear h2
  obtain ⟨HB, HV, HH, HX, HBX⟩ := hI
  rw [hR]
  (refine wpAny_take (i := 4) (v := ?v8_u1) rfl (by kernel_rfl) (by kernel_rfl) (by kernel_rfl) (fun _ _ _ h => h) (Or.inl ⟨by kernel_rfl, ?h8_u1⟩) ?r8_u1; (case h8_u1 => (intro w9; go_simp; try with_reducible rfl)))
  rw [← hR]
  refine R_norm (a' := ?a8_u2) ?n8_u2 ?_
  case n8_u2 => (simp [Act.put]; with_reducible rfl)
  rw [hR]
  refine wpAny_done (by kernel_rfl) ?_ _
  clear hR
  have c0 := HH.c 0 _ rfl
  have c1 := HH.c 1 _ rfl
  go_wp2_with fail
  (with_reducible refine (specHeapValid_any _ h _ HV).mono ?_); rintro e w2 ⟨rfl, hB⟩
  have HB := HB.trans (hB.mono HB.size)
  have zB := HB.size
  have HV := HV.below hB
  have HH := HH.below hB
  have HX := HX.below hB
  have HBX := HBX.below hB
  clear hB c0 c1
  rcases bool_ft (validM h) with hva | hva
  · rw [hva]
    go_wp2_with fail
    (with_reducible refine (alive_any _).mono ?_); rintro e w3 ⟨rfl, hB⟩
    have zb := hB.size
    go_wp2_with fail
    go_ret
    exact ⟨rfl, (by repeat (first | ((with_reducible refine Below.setc ?_ ?_ _); focus (first | omega | (simp; done) | (simp; omega))) | ((with_reducible refine Below.allocc ?_ ?_ _); focus (first | omega | (simp; done) | (simp; omega))) | (with_reducible refine Below.drew ?_) | (with_reducible refine Below.drewn ?_) | (with_reducible assumption) | (with_reducible exact Below.refl _ _) | ((with_reducible refine Below.stepp (by with_reducible assumption) ?_ ?_); focus (first | omega | (simp; done) | (simp; omega)))))⟩
  have HL : Hid (slideHeapM (collectSweepM h).1 = X ∧ (usedCellsM (collectSweepM h).1).1 = (X.cells.length : Int)) := by rw [hX.out]; exact law_SlideSweep hva
  obtain ⟨Y, hY⟩ : ∃ Y, Hid (Y = collectSweepM h) := ⟨_, rfl⟩
  rw [← hY.out] at HL
  rw [hva]
  have c0 := HH.c 0 _ rfl
  have c1 := HH.c 1 _ rfl
  go_wp2_with fail
  (with_reducible refine (implCollectSweep_any _ h _ HV).mono ?_); rw [← hY.out]; rintro e w3 ⟨v3, rfl, oH, hB⟩
  have hV3 := oH.rh
  obtain ⟨A3, n3, A3', n3', rfl⟩ := hV3.parts
  have HB := HB.trans (hB.mono HB.size)
  have zB := HB.size
  have HX := HX.below hB
  have HBX := HBX.below hB
  clear hB oH c0 c1 HV HH hva
  go_wp2_with fail
  refine Calls.gen (fun W => Below w.heap.size w W ∧ RH W (.agg #[.slice A2 X.cells.length n2, .slice A2' X.roots.length n2']) X ∧ Bx W bx [.slice A2 X.cells.length n2, .slice A2' X.roots.length n2'] ∧ RH W (.agg #[.slice A3 Y.1.cells.length n3, .slice A3' Y.1.roots.length n3']) Y.1 ∧ Bx W w3.heap.size [.slice A3 Y.1.cells.length n3, .slice A3' Y.1.roots.length n3']) ⟨(by repeat (first | ((with_reducible refine Below.setc ?_ ?_ _); focus (first | omega | (simp; done) | (simp; omega))) | ((with_reducible refine Below.allocc ?_ ?_ _); focus (first | omega | (simp; done) | (simp; omega))) | (with_reducible refine Below.drew ?_) | (with_reducible refine Below.drewn ?_) | (with_reducible assumption) | (with_reducible exact Below.refl _ _) | ((with_reducible refine Below.stepp (by with_reducible assumption) ?_ ?_); focus (first | omega | (simp; done) | (simp; omega))))), HX.below (by repeat (first | ((with_reducible refine Below.setc ?_ ?_ _); focus (first | omega | (simp; done) | (simp; omega))) | ((with_reducible refine Below.allocc ?_ ?_ _); focus (first | omega | (simp; done) | (simp; omega))) | (with_reducible refine Below.drew ?_) | (with_reducible refine Below.drewn ?_) | (with_reducible assumption) | (with_reducible exact Below.refl _ _) | ((with_reducible refine Below.stepp (by with_reducible assumption) ?_ ?_); focus (first | omega | (simp; done) | (simp; omega))))), HBX.below (by repeat (first | ((with_reducible refine Below.setc ?_ ?_ _); focus (first | omega | (simp; done) | (simp; omega))) | ((with_reducible refine Below.allocc ?_ ?_ _); focus (first | omega | (simp; done) | (simp; omega))) | (with_reducible refine Below.drew ?_) | (with_reducible refine Below.drewn ?_) | (with_reducible assumption) | (with_reducible exact Below.refl _ _) | ((with_reducible refine Below.stepp (by with_reducible assumption) ?_ ?_); focus (first | omega | (simp; done) | (simp; omega))))), hV3.below (by repeat (first | ((with_reducible refine Below.setc ?_ ?_ _); focus (first | omega | (simp; done) | (simp; omega))) | ((with_reducible refine Below.allocc ?_ ?_ _); focus (first | omega | (simp; done) | (simp; omega))) | (with_reducible refine Below.drew ?_) | (with_reducible refine Below.drewn ?_) | (with_reducible assumption) | (with_reducible exact Below.refl _ _) | ((with_reducible refine Below.stepp (by with_reducible assumption) ?_ ?_); focus (first | omega | (simp; done) | (simp; omega))))), Bx.new _ _ _⟩ ?_
  generalize w3.heap.size = by_
  clear HB HX HBX hV3 zB
  rintro W ⟨HB, HX, HBX, HY, HBY⟩
  (with_reducible refine (usedCells_any _ Y.1 _ HY).mono ?_); rw [HL.out.2]; rintro e w4 ⟨rfl, hB⟩
  have HB := HB.trans (hB.mono HB.size)
  have HX := HX.below hB
  have HBX := HBX.below hB
  have HY := HY.below hB
  have HBY := HBY.below hB
  clear hB
  go_wp2_with fail
  refine wp_region_R (by kernel_rfl) (fun R wd hR hwd => ?_)
  have hBd : Below w4.heap.size w4 wd := by rw [hwd]; exact (by repeat (first | ((with_reducible refine Below.setc ?_ ?_ _); focus (first | omega | (simp; done) | (simp; omega))) | ((with_reducible refine Below.allocc ?_ ?_ _); focus (first | omega | (simp; done) | (simp; omega))) | (with_reducible refine Below.drew ?_) | (with_reducible refine Below.drewn ?_) | (with_reducible assumption) | (with_reducible exact Below.refl _ _) | ((with_reducible refine Below.stepp (by with_reducible assumption) ?_ ?_); focus (first | omega | (simp; done) | (simp; omega)))))
  have HB := HB.trans (hBd.mono HB.size)
  have HX := HX.below hBd
  have HBX := HBX.below hBd
  have HY := HY.below hBd
  have HBY := HBY.below hBd
  clear hwd hBd
  refine rel_at (fr := ?fr_3) hR (fun f W => Below w.heap.size w W ∧ RH W (.agg #[.slice A2 X.cells.length n2, .slice A2' X.roots.length n2']) X ∧ Bx W bx [.slice A2 X.cells.length n2, .slice A2' X.roots.length n2'] ∧ RH W (.agg #[.slice A3 Y.1.cells.length n3, .slice A3' Y.1.roots.length n3']) Y.1 ∧ Bx W by_ [.slice A3 Y.1.cells.length n3, .slice A3' Y.1.roots.length n3']) [(fun v W => v = (.agg #[.slice A3 Y.1.cells.length n3, .slice A3' Y.1.roots.length n3'])), (fun v W => RH W v X), (fun v W => v = (.agg #[.slice A2 X.cells.length n2, .slice A2' X.roots.length n2'])), (fun v W => v = .bool true), tt, tt, tt, tt, tt, tt, tt, tt] (fun W W' => Below W.heap.size W W') [(0, []), (1, [0]), (2, []), (3, [1, 0, 2]), (4, [0, 1, 2, 3]), (5, [0, 1, 2, 3]), (6, [0, 1, 2, 3]), (7, [0, 1, 2, 3]), (8, [0, 1, 2, 3]), (9, [0, 1, 2, 3]), (10, [0, 1, 2, 3]), (11, [0, 1, 2, 3])] [(35, 0), (36, 1), (37, 2), (38, 3)] [0, 1, 2, 3] #[true, true, true, true, false, false, false, false, false, false, false, false] 12 8 (by kernel_rfl) (by kernel_rfl) ?hfr_3 ?h0_3 ?mono_3 ?steps_3 ?_
  case hfr_3 => intro x; (simp [frOf, fill, Act.put, List.lookup]; with_reducible rfl)
  case h0_3 => exact ⟨HB, HX, HBX, HY, HBY⟩
  case mono_3 => exact (Pm.cons (fun _ _ _ _ h => h) (Pm.cons (fun _ _ _ hG h => h.below hG) (Pm.cons (fun _ _ _ _ h => h) (Pm.cons (fun _ _ _ _ h => h) (Pm.cons (fun _ _ _ _ h => h) (Pm.cons (fun _ _ _ _ h => h) (Pm.cons (fun _ _ _ _ h => h) (Pm.cons (fun _ _ _ _ h => h) (Pm.cons (fun _ _ _ _ h => h) (Pm.cons (fun _ _ _ _ h => h) (Pm.cons (fun _ _ _ _ h => h) (Pm.cons (fun _ _ _ _ h => h) Pm.nil))))))))))))
  case steps_3 =>
    refine Steps.cons (RStep.of rfl fun x W f hI hD K9 hK => ?_) ?_
    · clear hD
      have c0 := hI.2.2.2.2.c 0 _ rfl
      have c1 := hI.2.2.2.2.c 1 _ rfl
      go_simp
      exact hK ((.agg #[.slice A3 Y.1.cells.length n3, .slice A3' Y.1.roots.length n3'])) _ _ (by kernel_rfl) (Below.refl _ _) (hI) rfl
    refine Steps.cons (RStep.of rfl fun x W f hI hD K9 hK => ?_) ?_
    · have e0 : x 0 = (.agg #[.slice A3 Y.1.cells.length n3, .slice A3' Y.1.roots.length n3']) := hD 0 (by decide)
      clear hD
      simp only [e0] at hK ⊢
      go_wp2_with fail
      (with_reducible refine (implSlideHeap_any _ Y.1 _ hI.2.2.2.1).mono ?_); rw [HL.out.1]
      rintro e w6 ⟨v6, rfl, oH, hB⟩
      exact hK v6 _ _ (by kernel_rfl) hB ⟨hI.1.trans (hB.mono hI.1.size), hI.2.1.below hB, hI.2.2.1.below hB, hI.2.2.2.1.below hB, hI.2.2.2.2.below hB⟩ oH.rh
    refine Steps.cons (RStep.of rfl fun x W f hI hD K9 hK => ?_) ?_
    · clear hD
      have c0 := hI.2.2.1.c 0 _ rfl
      have c1 := hI.2.2.1.c 1 _ rfl
      go_simp
      exact hK ((.agg #[.slice A2 X.cells.length n2, .slice A2' X.roots.length n2'])) _ _ (by kernel_rfl) (Below.refl _ _) (hI) rfl
    refine Steps.cons (RStep.of rfl fun x W f hI hD K9 hK => ?_) ?_
    · have h1 : (fun v W => RH W v X) (x 1) W := hD 1 (by decide)
      have e2 : x 2 = (.agg #[.slice A2 X.cells.length n2, .slice A2' X.roots.length n2']) := hD 2 (by decide)
      clear hD
      simp only [e2] at hK ⊢
      go_wp2_with fail
      (with_reducible refine (sameHeap_any (x 1) _ X X _ h1 hI.2.1).mono ?_); rw [hE.out]
      rintro e w6 ⟨rfl, hB⟩
      exact hK _ _ _ (by kernel_rfl) hB ⟨hI.1.trans (hB.mono hI.1.size), hI.2.1.below hB, hI.2.2.1.below hB, hI.2.2.2.1.below hB, hI.2.2.2.2.below hB⟩ rfl
    exact Steps.nil
  intro x W hI hV
  have e0 : x 0 = (.agg #[.slice A3 Y.1.cells.length n3, .slice A3' Y.1.roots.length n3']) := hV 0 (by decide)
  have h1 : (fun v W => RH W v X) (x 1) W := hV 1 (by decide)
  have e2 : x 2 = (.agg #[.slice A2 X.cells.length n2, .slice A2' X.roots.length n2']) := hV 2 (by decide)
  have e3 : x 3 = .bool true := hV 3 (by decide)
  clear hV
  simp only [e0, e2, e3]
  clear h1
  obtain ⟨HB, HX, HBX, HY, HBY⟩ := hI
  have c0 := HBX.c 0 _ rfl
  rw [hR]
  (refine wpAny_take (i := 4) (v := ?v8_u4) rfl (by kernel_rfl) (by kernel_rfl) (by kernel_rfl) (fun _ _ _ h => h) (Or.inl ⟨by kernel_rfl, ?h8_u4⟩) ?r8_u4; (case h8_u4 => (intro w9; go_simp; try with_reducible rfl)))
  (refine wpAny_take (i := 5) (v := ?v8_u5) rfl (by kernel_rfl) (by kernel_rfl) (by kernel_rfl) (fun _ _ _ h => h) (Or.inl ⟨by kernel_rfl, ?h8_u5⟩) ?r8_u5; (case h8_u5 => (intro w9; go_simp; try with_reducible rfl)))
  (refine wpAny_take (i := 8) (v := ?v8_u6) rfl (by kernel_rfl) (by kernel_rfl) (by kernel_rfl) (fun _ _ _ h => h) (Or.inl ⟨by kernel_rfl, ?h8_u6⟩) ?r8_u6; (case h8_u6 => (intro w9; go_simp; try with_reducible rfl)))
  rw [← hR]
  refine R_norm (a' := ?a8_u7) ?n8_u7 ?_
  case n8_u7 => (simp [Act.put]; with_reducible rfl)
  rw [hR]
  refine wpAny_ready (rs := [6]) (by kernel_rfl) (by simp) ?_
  refine AllReady.cons rfl (fun K9 hK9 => ?_) AllReady.nil
  go_simp
  refine hK9 _ _ ?_
  clear hK9
  (refine wpAny_take (i := 7) (v := ?v8_u10) rfl (by kernel_rfl) (by kernel_rfl) (by kernel_rfl) (fun _ _ _ h => h) (Or.inl ⟨by kernel_rfl, ?h8_u10⟩) ?r8_u10; (case h8_u10 => (intro w9; go_simp; try with_reducible rfl)))
  (refine wpAny_take (i := 9) (v := .bool true) rfl (by kernel_rfl) (by kernel_rfl) (by kernel_rfl) (fun _ _ _ h => h) (Or.inl ⟨by kernel_rfl, ?h8_u11⟩) ?r8_u11; (case h8_u11 => (intro w9; go_simp)))
  (refine wpAny_take (i := 10) (v := ?v8_u12) rfl (by kernel_rfl) (by kernel_rfl) (by kernel_rfl) (fun _ _ _ h => h) (Or.inl ⟨by kernel_rfl, ?h8_u12⟩) ?r8_u12; (case h8_u12 => (intro w9; go_simp; try with_reducible rfl)))
  (refine wpAny_take (i := 11) (v := ?v8_u13) rfl (by kernel_rfl) (by kernel_rfl) (by kernel_rfl) (fun _ _ _ h => h) (Or.inl ⟨by kernel_rfl, ?h8_u13⟩) ?r8_u13; (case h8_u13 => (intro w9; go_simp; try with_reducible rfl)))
  rw [← hR]
  refine R_norm (a' := ?a8_u14) ?n8_u14 ?_
  case n8_u14 => (simp [Act.put]; with_reducible rfl)
  rw [hR]
  refine wpAny_done (by kernel_rfl) ?_ _
  go_wp2_with fail
  go_ret
  exact ⟨rfl, HB⟩
end Go.Proofs.Ytngmkflmjjkjaaa
