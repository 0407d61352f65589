/- FnRunSlide: the law's call returns true. -/
import Derived.Test.YtngmkflmjjkjaaaChecked
import Derived.Deep.QuietTactic
import Derived.BigQuiet
import Derived.Deep.RegionWith
import Derived.Test.YtngmkflmjjkjaaaGrDraw
import Derived.Test.YtngmkflmjjkjaaaGrSame
import Derived.Test.YtngmkflmjjkjaaaCtx
import Derived.Test.YtngmkflmjjkjaaaRel
import Derived.Test.YtngmkflmjjkjaaaGrMov
import Derived.Test.YtngmkflmjjkjaaaMovRS
import Derived.Test.YtngmkflmjjkjaaaRunH
import Derived.Test.YtngmkflmjjkjaaaViewI
import Derived.Test.YtngmkflmjjkjaaaGrIso
namespace Go.Proofs.Ytngmkflmjjkjaaa
open Go.RowKit
set_option maxRecDepth 100000
set_option linter.unusedSimpArgs false
set_option linter.unusedVariables false
set_option maxHeartbeats 4000000 in
theorem walkRunSlide (C : Option Addr) (bs : List Int) (c : Nat) (w : World) (hr : RF fu w C bs) (hb : ∀ x ∈ bs, 0 ≤ x ∧ x < 256) (hc : bs.length ≤ c) (hc2 : c ≤ 9223372036854775807) :
    Calls Try.prog 13 #[.slice C bs.length c] w fun e w' => e = .returned (.bool true) ∧ Below w.heap.size w w' := by
  by_cases hbig : 1048576 < bs.length
  · go_enter Try.func13, Try.ntmps13
    go_wp2
    go_ret
    exact ⟨rfl, (by repeat (first | ((with_reducible refine Below.setc ?_ ?_ _); focus (first | omega | (simp; done) | (simp; omega))) | ((with_reducible refine Below.allocc ?_ ?_ _); focus (first | omega | (simp; done) | (simp; omega))) | (with_reducible refine Below.drew ?_) | (with_reducible refine Below.drewn ?_) | (with_reducible assumption) | (with_reducible exact Below.refl _ _) | ((with_reducible refine Below.stepp (by with_reducible assumption) ?_ ?_); focus (first | omega | (simp; done) | (simp; omega)))))⟩
  go_enter Try.func13, Try.ntmps13
  go_wp2_with fail
  (with_reducible refine (drawRunSlide_any C bs c _ hr hb hc hc2).mono ?_); rintro e w1 ⟨L, S, cS, r, rfl, hr9, hS, hSB, hL, hB⟩
  have HB := hB
  have zB := hB.size
  have HS := hS.ro
  have hLl : L.length ≤ 9223372036854775807 := by omega
  have HLaw := Lib.hid (law_RunSlide L (r : Int))
  obtain ⟨X, hX⟩ : ∃ X, Hid (X = runMoveM slideHeapM L (r : Int)) := ⟨_, rfl⟩
  clear hr hb hSB hS
  go_wp2_with fail
  (with_reducible refine (implRunSlide_any S L cS (r : Int) _ HS hLl).mono ?_); rw [← hX.out]; rintro e w2 ⟨v2, rfl, oH, hB⟩
  have zb := hB.size
  have hV := oH.rh
  obtain ⟨A, d, A', d', rfl⟩ := hV.parts
  clear oH
  go_wp2_with fail
  refine Calls.gen (fun W => Below w.heap.size w W ∧ RO W S L ∧ RH W (.agg #[.slice A X.1.cells.length d, .slice A' X.1.roots.length d']) X.1 ∧ Bx W w2.heap.size [.slice A X.1.cells.length d, .slice A' X.1.roots.length d']) ⟨(by repeat (first | ((with_reducible refine Below.setc ?_ ?_ _); focus (first | omega | (simp; done) | (simp; omega))) | ((with_reducible refine Below.allocc ?_ ?_ _); focus (first | omega | (simp; done) | (simp; omega))) | (with_reducible refine Below.drew ?_) | (with_reducible refine Below.drewn ?_) | (with_reducible assumption) | (with_reducible exact Below.refl _ _) | ((with_reducible refine Below.stepp (by with_reducible assumption) ?_ ?_); focus (first | omega | (simp; done) | (simp; omega))))), HS.below (by repeat (first | ((with_reducible refine Below.setc ?_ ?_ _); focus (first | omega | (simp; done) | (simp; omega))) | ((with_reducible refine Below.allocc ?_ ?_ _); focus (first | omega | (simp; done) | (simp; omega))) | (with_reducible refine Below.drew ?_) | (with_reducible refine Below.drewn ?_) | (with_reducible assumption) | (with_reducible exact Below.refl _ _) | ((with_reducible refine Below.stepp (by with_reducible assumption) ?_ ?_); focus (first | omega | (simp; done) | (simp; omega))))), hV.below (by repeat (first | ((with_reducible refine Below.setc ?_ ?_ _); focus (first | omega | (simp; done) | (simp; omega))) | ((with_reducible refine Below.allocc ?_ ?_ _); focus (first | omega | (simp; done) | (simp; omega))) | (with_reducible refine Below.drew ?_) | (with_reducible refine Below.drewn ?_) | (with_reducible assumption) | (with_reducible exact Below.refl _ _) | ((with_reducible refine Below.stepp (by with_reducible assumption) ?_ ?_); focus (first | omega | (simp; done) | (simp; omega))))), Bx.new _ _ _⟩ ?_
  generalize w2.heap.size = bx
  clear HB HS hB zB zb hV
  rintro W ⟨HB, HS, HV, HX⟩
  have zB := HB.size
  (with_reducible refine (specRunSlide_any S L cS (r : Int) _ HS hLl).mono ?_); rw [← hX.out]; rintro e w2 ⟨v2, rfl, oH, hB⟩
  have zb := hB.size
  have hV2 := oH.rh
  obtain ⟨A2, d2, A2', d2', rfl⟩ := hV2.parts
  clear oH
  have HX := HX.below hB
  have HV := HV.below hB
  have c0 := HX.c 0 _ rfl
  have c1 := HX.c 1 _ rfl
  have hbx := HX.lt
  go_wp2_with fail
  refine Calls.gen (fun W => Below w.heap.size w W ∧ RO W S L ∧ RH W (.agg #[.slice A X.1.cells.length d, .slice A' X.1.roots.length d']) X.1 ∧ RH W (.agg #[.slice A2 X.1.cells.length d2, .slice A2' X.1.roots.length d2']) X.1 ∧ Bx W bx [.slice A X.1.cells.length d, .slice A' X.1.roots.length d']) ⟨(by repeat (first | ((with_reducible refine Below.setc ?_ ?_ _); focus (first | omega | (simp; done) | (simp; omega))) | ((with_reducible refine Below.allocc ?_ ?_ _); focus (first | omega | (simp; done) | (simp; omega))) | (with_reducible refine Below.drew ?_) | (with_reducible refine Below.drewn ?_) | (with_reducible assumption) | (with_reducible exact Below.refl _ _) | ((with_reducible refine Below.stepp (by with_reducible assumption) ?_ ?_); focus (first | omega | (simp; done) | (simp; omega))))), HS.below (by repeat (first | ((with_reducible refine Below.setc ?_ ?_ _); focus (first | omega | (simp; done) | (simp; omega))) | ((with_reducible refine Below.allocc ?_ ?_ _); focus (first | omega | (simp; done) | (simp; omega))) | (with_reducible refine Below.drew ?_) | (with_reducible refine Below.drewn ?_) | (with_reducible assumption) | (with_reducible exact Below.refl _ _) | ((with_reducible refine Below.stepp (by with_reducible assumption) ?_ ?_); focus (first | omega | (simp; done) | (simp; omega))))), HV.below (by repeat (first | ((with_reducible refine Below.setc ?_ ?_ _); focus (first | omega | (simp; done) | (simp; omega))) | ((with_reducible refine Below.allocc ?_ ?_ _); focus (first | omega | (simp; done) | (simp; omega))) | (with_reducible refine Below.drew ?_) | (with_reducible refine Below.drewn ?_) | (with_reducible assumption) | (with_reducible exact Below.refl _ _) | ((with_reducible refine Below.stepp (by with_reducible assumption) ?_ ?_); focus (first | omega | (simp; done) | (simp; omega))))), hV2.below (by repeat (first | ((with_reducible refine Below.setc ?_ ?_ _); focus (first | omega | (simp; done) | (simp; omega))) | ((with_reducible refine Below.allocc ?_ ?_ _); focus (first | omega | (simp; done) | (simp; omega))) | (with_reducible refine Below.drew ?_) | (with_reducible refine Below.drewn ?_) | (with_reducible assumption) | (with_reducible exact Below.refl _ _) | ((with_reducible refine Below.stepp (by with_reducible assumption) ?_ ?_); focus (first | omega | (simp; done) | (simp; omega))))), HX.below (by repeat (first | ((with_reducible refine Below.setc ?_ ?_ _); focus (first | omega | (simp; done) | (simp; omega))) | ((with_reducible refine Below.allocc ?_ ?_ _); focus (first | omega | (simp; done) | (simp; omega))) | (with_reducible refine Below.drew ?_) | (with_reducible refine Below.drewn ?_) | (with_reducible assumption) | (with_reducible exact Below.refl _ _) | ((with_reducible refine Below.stepp (by with_reducible assumption) ?_ ?_); focus (first | omega | (simp; done) | (simp; omega)))))⟩ ?_
  clear HB HS hB zB zb hV2 HV HX hbx c0 c1
  rintro W ⟨HB, HS, HV, HV2, HX⟩
  have zB := HB.size
  have hE : eqB X.1 X.1 = true := eqB_of rfl
  (with_reducible refine (sameHeap_any _ _ X.1 X.1 _ HV HV2).mono ?_); rw [hE]; rintro e w2 ⟨rfl, hB⟩
  clear hE
  have zb := hB.size
  have HX := HX.below hB
  have HV := HV.below hB
  have HS := HS.below hB
  have HB := HB.trans (hB.mono HB.size)
  clear hB HV2 zB zb
  have zB := HB.size
  go_wp2_with fail
  (with_reducible refine (implRunCopy_any S L cS (r : Int) _ HS hLl).mono ?_); rw [← HLaw.out.1, ← hX.out]; rintro e w2 ⟨v2, rfl, oH, hB⟩
  obtain ⟨A2, d2, A2', d2', rfl⟩ := oH.rh.parts
  have zb := hB.size
  have HX := HX.below hB
  have HV := HV.below hB
  have HS := HS.below hB
  have HB := HB.trans (hB.mono HB.size)
  have zB := HB.size
  clear hB zb oH
  go_wp2_with fail
  refine Code.gen (fun W => Below w.heap.size w W ∧ RO W S L ∧ RH W (.agg #[.slice A X.1.cells.length d, .slice A' X.1.roots.length d']) X.1 ∧ Bx W bx [.slice A X.1.cells.length d, .slice A' X.1.roots.length d']) ⟨(by repeat (first | ((with_reducible refine Below.setc ?_ ?_ _); focus (first | omega | (simp; done) | (simp; omega))) | ((with_reducible refine Below.allocc ?_ ?_ _); focus (first | omega | (simp; done) | (simp; omega))) | (with_reducible refine Below.drew ?_) | (with_reducible refine Below.drewn ?_) | (with_reducible assumption) | (with_reducible exact Below.refl _ _) | ((with_reducible refine Below.stepp (by with_reducible assumption) ?_ ?_); focus (first | omega | (simp; done) | (simp; omega))))), HS.below (by repeat (first | ((with_reducible refine Below.setc ?_ ?_ _); focus (first | omega | (simp; done) | (simp; omega))) | ((with_reducible refine Below.allocc ?_ ?_ _); focus (first | omega | (simp; done) | (simp; omega))) | (with_reducible refine Below.drew ?_) | (with_reducible refine Below.drewn ?_) | (with_reducible assumption) | (with_reducible exact Below.refl _ _) | ((with_reducible refine Below.stepp (by with_reducible assumption) ?_ ?_); focus (first | omega | (simp; done) | (simp; omega))))), HV.below (by repeat (first | ((with_reducible refine Below.setc ?_ ?_ _); focus (first | omega | (simp; done) | (simp; omega))) | ((with_reducible refine Below.allocc ?_ ?_ _); focus (first | omega | (simp; done) | (simp; omega))) | (with_reducible refine Below.drew ?_) | (with_reducible refine Below.drewn ?_) | (with_reducible assumption) | (with_reducible exact Below.refl _ _) | ((with_reducible refine Below.stepp (by with_reducible assumption) ?_ ?_); focus (first | omega | (simp; done) | (simp; omega))))), HX.below (by repeat (first | ((with_reducible refine Below.setc ?_ ?_ _); focus (first | omega | (simp; done) | (simp; omega))) | ((with_reducible refine Below.allocc ?_ ?_ _); focus (first | omega | (simp; done) | (simp; omega))) | (with_reducible refine Below.drew ?_) | (with_reducible refine Below.drewn ?_) | (with_reducible assumption) | (with_reducible exact Below.refl _ _) | ((with_reducible refine Below.stepp (by with_reducible assumption) ?_ ?_); focus (first | omega | (simp; done) | (simp; omega)))))⟩ ?_
  generalize w2.heap.size = b9
  clear HB HS zB HV HX
  rintro W ⟨HB, HS, HV, HX⟩
  have HL2 : Hid (X.2 = true → sameViewM X.1 (runM L) = true ∧ (X.1.cells.length : Int) ≤ r) := by rw [hX.out]; exact HLaw.out.2
  rcases bool_ft X.2 with hx | hx
  · rw [hx]
    refine wp_region_R (by kernel_rfl) (fun R wd hR hwd => ?_)
    have HBd : Below w.heap.size w wd := by rw [hwd]; exact (by repeat (first | ((with_reducible refine Below.setc ?_ ?_ _); focus (first | omega | (simp; done) | (simp; omega))) | ((with_reducible refine Below.allocc ?_ ?_ _); focus (first | omega | (simp; done) | (simp; omega))) | (with_reducible refine Below.drew ?_) | (with_reducible refine Below.drewn ?_) | (with_reducible assumption) | (with_reducible exact Below.refl _ _) | ((with_reducible refine Below.stepp (by with_reducible assumption) ?_ ?_); focus (first | omega | (simp; done) | (simp; omega)))))
    clear hwd HB HS HV HX
    rw [hR]
    (refine wpAny_take (i := 0) (v := ?v8_u0) rfl (by kernel_rfl) (by kernel_rfl) (by kernel_rfl) (fun _ _ _ h => h) (Or.inl ⟨by kernel_rfl, ?h8_u0⟩) ?r8_u0; (case h8_u0 => (intro w9; go_simp; try with_reducible rfl)))
    (refine wpAny_take (i := 1) (v := ?v8_u1) rfl (by kernel_rfl) (by kernel_rfl) (by kernel_rfl) (fun _ _ _ h => h) (Or.inl ⟨by kernel_rfl, ?h8_u1⟩) ?r8_u1; (case h8_u1 => (intro w9; go_simp; try with_reducible rfl)))
    (refine wpAny_take (i := 2) (v := .bool true) rfl (by kernel_rfl) (by kernel_rfl) (by kernel_rfl) (fun _ _ _ h => h) (Or.inl ⟨by kernel_rfl, ?h8_u2⟩) ?r8_u2; (case h8_u2 => (intro w9; go_simp)))
    (refine wpAny_take (i := 3) (v := ?v8_u3) rfl (by kernel_rfl) (by kernel_rfl) (by kernel_rfl) (fun _ _ _ h => h) (Or.inl ⟨by kernel_rfl, ?h8_u3⟩) ?r8_u3; (case h8_u3 => (intro w9; go_simp; try with_reducible rfl)))
    (refine wpAny_take (i := 4) (v := ?v8_u4) rfl (by kernel_rfl) (by kernel_rfl) (by kernel_rfl) (fun _ _ _ h => h) (Or.inl ⟨by kernel_rfl, ?h8_u4⟩) ?r8_u4; (case h8_u4 => (intro w9; go_simp; try with_reducible rfl)))
    (refine wpAny_take (i := 5) (v := ?v8_u5) rfl (by kernel_rfl) (by kernel_rfl) (by kernel_rfl) (fun _ _ _ h => h) (Or.inl ⟨by kernel_rfl, ?h8_u5⟩) ?r8_u5; (case h8_u5 => (intro w9; go_simp; try with_reducible rfl)))
    (refine wpAny_take (i := 6) (v := ?v8_u6) rfl (by kernel_rfl) (by kernel_rfl) (by kernel_rfl) (fun _ _ _ h => h) (Or.inl ⟨by kernel_rfl, ?h8_u6⟩) ?r8_u6; (case h8_u6 => (intro w9; go_simp; try with_reducible rfl)))
    rw [← hR]
    refine R_norm (a' := ?a8_u7) ?n8_u7 ?_
    case n8_u7 => (simp [Act.put]; with_reducible rfl)
    rw [hR]
    refine wpAny_take (i := 7) (v := undef) rfl (by kernel_rfl) (by kernel_rfl) (by kernel_rfl) (fun _ _ _ h => h) (Or.inr ⟨by kernel_rfl, rfl⟩) ?_
    refine wpAny_take (i := 8) (v := undef) rfl (by kernel_rfl) (by kernel_rfl) (by kernel_rfl) (fun _ _ _ h => h) (Or.inr ⟨by kernel_rfl, rfl⟩) ?_
    refine wpAny_take (i := 9) (v := undef) rfl (by kernel_rfl) (by kernel_rfl) (by kernel_rfl) (fun _ _ _ h => h) (Or.inr ⟨by kernel_rfl, rfl⟩) ?_
    refine wpAny_take (i := 10) (v := undef) rfl (by kernel_rfl) (by kernel_rfl) (by kernel_rfl) (fun _ _ _ h => h) (Or.inr ⟨by kernel_rfl, rfl⟩) ?_
    refine wpAny_take (i := 11) (v := undef) rfl (by kernel_rfl) (by kernel_rfl) (by kernel_rfl) (fun _ _ _ h => h) (Or.inr ⟨by kernel_rfl, rfl⟩) ?_
    rw [← hR]
    refine R_norm (a' := ?a8_u13) ?n8_u13 ?_
    case n8_u13 => (simp [Act.put]; with_reducible rfl)
    rw [hR]
    refine wpAny_take (i := 12) (v := undef) rfl (by kernel_rfl) (by kernel_rfl) (by kernel_rfl) (fun _ _ _ h => h) (Or.inr ⟨by kernel_rfl, rfl⟩) ?_
    refine wpAny_take (i := 13) (v := undef) rfl (by kernel_rfl) (by kernel_rfl) (by kernel_rfl) (fun _ _ _ h => h) (Or.inr ⟨by kernel_rfl, rfl⟩) ?_
    refine wpAny_take (i := 14) (v := undef) rfl (by kernel_rfl) (by kernel_rfl) (by kernel_rfl) (fun _ _ _ h => h) (Or.inr ⟨by kernel_rfl, rfl⟩) ?_
    refine wpAny_take (i := 15) (v := undef) rfl (by kernel_rfl) (by kernel_rfl) (by kernel_rfl) (fun _ _ _ h => h) (Or.inr ⟨by kernel_rfl, rfl⟩) ?_
    refine wpAny_take (i := 16) (v := undef) rfl (by kernel_rfl) (by kernel_rfl) (by kernel_rfl) (fun _ _ _ h => h) (Or.inr ⟨by kernel_rfl, rfl⟩) ?_
    refine wpAny_take (i := 17) (v := undef) rfl (by kernel_rfl) (by kernel_rfl) (by kernel_rfl) (fun _ _ _ h => h) (Or.inr ⟨by kernel_rfl, rfl⟩) ?_
    rw [← hR]
    refine R_norm (a' := ?a8_u20) ?n8_u20 ?_
    case n8_u20 => (simp [Act.put]; with_reducible rfl)
    rw [hR]
    (refine wpAny_take (i := 18) (v := ?v8_u21) rfl (by kernel_rfl) (by kernel_rfl) (by kernel_rfl) (fun _ _ _ h => h) (Or.inl ⟨by kernel_rfl, ?h8_u21⟩) ?r8_u21; (case h8_u21 => (intro w9; go_simp; try with_reducible rfl)))
    (refine wpAny_take (i := 19) (v := ?v8_u22) rfl (by kernel_rfl) (by kernel_rfl) (by kernel_rfl) (fun _ _ _ h => h) (Or.inl ⟨by kernel_rfl, ?h8_u22⟩) ?r8_u22; (case h8_u22 => (intro w9; go_simp; try with_reducible rfl)))
    (refine wpAny_take (i := 20) (v := ?v8_u23) rfl (by kernel_rfl) (by kernel_rfl) (by kernel_rfl) (fun _ _ _ h => h) (Or.inl ⟨by kernel_rfl, ?h8_u23⟩) ?r8_u23; (case h8_u23 => (intro w9; go_simp; try with_reducible rfl)))
    rw [← hR]
    refine R_norm (a' := ?a8_u24) ?n8_u24 ?_
    case n8_u24 => (simp [Act.put]; with_reducible rfl)
    rw [hR]
    refine wpAny_ready (rs := [21]) (by kernel_rfl) (by simp) ?_
    refine AllReady.cons rfl (fun K9 hK9 => ?_) AllReady.nil
    go_wp2_with fail
    (with_reducible refine (alive_any _).mono ?_); rintro e w2 ⟨rfl, hB⟩
    have zb := hB.size
    have zB := HBd.size
    refine hK9 _ _ ?_
    clear hK9
    (refine wpAny_take (i := 22) (v := ?v8_u27) rfl (by kernel_rfl) (by kernel_rfl) (by kernel_rfl) (fun _ _ _ h => h) (Or.inl ⟨by kernel_rfl, ?h8_u27⟩) ?r8_u27; (case h8_u27 => (intro w9; go_simp; try with_reducible rfl)))
    (refine wpAny_take (i := 23) (v := ?v8_u28) rfl (by kernel_rfl) (by kernel_rfl) (by kernel_rfl) (fun _ _ _ h => h) (Or.inl ⟨by kernel_rfl, ?h8_u28⟩) ?r8_u28; (case h8_u28 => (intro w9; go_simp; try with_reducible rfl)))
    rw [← hR]
    refine R_norm (a' := ?a8_u29) ?n8_u29 ?_
    case n8_u29 => (simp [Act.put]; with_reducible rfl)
    rw [hR]
    refine wpAny_done (by kernel_rfl) ?_ _
    go_wp2_with fail
    go_ret
    exact ⟨rfl, (by repeat (first | ((with_reducible refine Below.setc ?_ ?_ _); focus (first | omega | (simp; done) | (simp; omega))) | ((with_reducible refine Below.allocc ?_ ?_ _); focus (first | omega | (simp; done) | (simp; omega))) | (with_reducible refine Below.drew ?_) | (with_reducible refine Below.drewn ?_) | (with_reducible assumption) | (with_reducible exact Below.refl _ _) | ((with_reducible refine Below.stepp (by with_reducible assumption) ?_ ?_); focus (first | omega | (simp; done) | (simp; omega)))))⟩
  · obtain ⟨hs1, hs2⟩ := HL2.out hx
    have HS1 := Lib.hid hs1
    have HS2 := Lib.hid hs2
    clear hs1 hs2
    rw [hx]
    refine wp_region_R (by kernel_rfl) (fun R wd hR hwd => ?_)
    have hBd : Below W.heap.size W wd := by rw [hwd]; exact (by repeat (first | ((with_reducible refine Below.setc ?_ ?_ _); focus (first | omega | (simp; done) | (simp; omega))) | ((with_reducible refine Below.allocc ?_ ?_ _); focus (first | omega | (simp; done) | (simp; omega))) | (with_reducible refine Below.drew ?_) | (with_reducible refine Below.drewn ?_) | (with_reducible assumption) | (with_reducible exact Below.refl _ _) | ((with_reducible refine Below.stepp (by with_reducible assumption) ?_ ?_); focus (first | omega | (simp; done) | (simp; omega)))))
    have HX := HX.below hBd
    have HV := HV.below hBd
    have HS := HS.below hBd
    have HB := HB.trans (hBd.mono HB.size)
    clear hwd hBd
    rw [hR]
    (refine wpAny_take (i := 0) (v := ?v8_u30) rfl (by kernel_rfl) (by kernel_rfl) (by kernel_rfl) (fun _ _ _ h => h) (Or.inl ⟨by kernel_rfl, ?h8_u30⟩) ?r8_u30; (case h8_u30 => (intro w9; go_simp; try with_reducible rfl)))
    (refine wpAny_take (i := 1) (v := ?v8_u31) rfl (by kernel_rfl) (by kernel_rfl) (by kernel_rfl) (fun _ _ _ h => h) (Or.inl ⟨by kernel_rfl, ?h8_u31⟩) ?r8_u31; (case h8_u31 => (intro w9; go_simp; try with_reducible rfl)))
    (refine wpAny_take (i := 2) (v := .bool true) rfl (by kernel_rfl) (by kernel_rfl) (by kernel_rfl) (fun _ _ _ h => h) (Or.inl ⟨by kernel_rfl, ?h8_u32⟩) ?r8_u32; (case h8_u32 => (intro w9; go_simp)))
    (refine wpAny_take (i := 3) (v := ?v8_u33) rfl (by kernel_rfl) (by kernel_rfl) (by kernel_rfl) (fun _ _ _ h => h) (Or.inl ⟨by kernel_rfl, ?h8_u33⟩) ?r8_u33; (case h8_u33 => (intro w9; go_simp; try with_reducible rfl)))
    (refine wpAny_take (i := 4) (v := ?v8_u34) rfl (by kernel_rfl) (by kernel_rfl) (by kernel_rfl) (fun _ _ _ h => h) (Or.inl ⟨by kernel_rfl, ?h8_u34⟩) ?r8_u34; (case h8_u34 => (intro w9; go_simp; try with_reducible rfl)))
    (refine wpAny_take (i := 5) (v := ?v8_u35) rfl (by kernel_rfl) (by kernel_rfl) (by kernel_rfl) (fun _ _ _ h => h) (Or.inl ⟨by kernel_rfl, ?h8_u35⟩) ?r8_u35; (case h8_u35 => (intro w9; go_simp; try with_reducible rfl)))
    (refine wpAny_take (i := 6) (v := ?v8_u36) rfl (by kernel_rfl) (by kernel_rfl) (by kernel_rfl) (fun _ _ _ h => h) (Or.inl ⟨by kernel_rfl, ?h8_u36⟩) ?r8_u36; (case h8_u36 => (intro w9; go_simp; try with_reducible rfl)))
    (refine wpAny_take (i := 8) (v := ?v8_u37) rfl (by kernel_rfl) (by kernel_rfl) (by kernel_rfl) (fun _ _ _ h => h) (Or.inl ⟨by kernel_rfl, ?h8_u37⟩) ?r8_u37; (case h8_u37 => (intro w9; go_simp; try with_reducible rfl)))
    rw [← hR]
    refine R_norm (a' := ?a8_u38) ?n8_u38 ?_
    case n8_u38 => (simp [Act.put]; with_reducible rfl)
    rw [hR]
    rw [← hR]
    refine rel_at (fr := ?fr_39) hR (fun f W => Below w.heap.size w W ∧ RO W S L ∧ RH W (.agg #[.slice A X.1.cells.length d, .slice A' X.1.roots.length d']) X.1 ∧ Bx W bx [.slice A X.1.cells.length d, .slice A' X.1.roots.length d']) [tt, tt, tt, tt, tt, tt, tt, (fun v W => v = .agg #[.slice A X.1.cells.length d, .slice A' X.1.roots.length d']), tt, (fun v W => RH W v (runM L)), (fun v W => v = .bool true), tt, tt, tt, tt, tt, tt, tt, tt, tt, tt, tt, tt, tt] (fun W W' => Below W.heap.size W W') [(7, []), (9, []), (10, [7, 9]), (11, [7, 9, 10]), (12, [7, 9, 10]), (13, [7, 9, 10]), (14, [7, 9, 10]), (15, [7, 9, 10]), (16, [7, 9, 10]), (17, [7, 9, 10]), (18, [7, 9, 10]), (19, [7, 9, 10]), (20, [7, 9, 10]), (21, [7, 9, 10]), (22, [7, 9, 10]), (23, [7, 9, 10])] [(53, 7), (55, 9), (56, 10)] [7, 9, 10] #[true, true, true, true, true, true, true, true, true, true, true, false, false, false, false, false, false, false, false, false, false, false, false, false] 16 13 (by kernel_rfl) (by kernel_rfl) ?hfr_39 ?h0_39 ?mono_39 ?steps_39 ?_
    case hfr_39 => intro x; (simp [frOf, fill, Act.put, List.lookup]; with_reducible rfl)
    case h0_39 => exact ⟨HB, HS, HV, HX⟩
    case mono_39 => exact (Pm.cons (fun _ _ _ _ h => h) (Pm.cons (fun _ _ _ _ h => h) (Pm.cons (fun _ _ _ _ h => h) (Pm.cons (fun _ _ _ _ h => h) (Pm.cons (fun _ _ _ _ h => h) (Pm.cons (fun _ _ _ _ h => h) (Pm.cons (fun _ _ _ _ h => h) (Pm.cons (fun _ _ _ _ h => h) (Pm.cons (fun _ _ _ _ h => h) (Pm.cons (fun _ _ _ hG h => h.below hG) (Pm.cons (fun _ _ _ _ h => h) (Pm.cons (fun _ _ _ _ h => h) (Pm.cons (fun _ _ _ _ h => h) (Pm.cons (fun _ _ _ _ h => h) (Pm.cons (fun _ _ _ _ h => h) (Pm.cons (fun _ _ _ _ h => h) (Pm.cons (fun _ _ _ _ h => h) (Pm.cons (fun _ _ _ _ h => h) (Pm.cons (fun _ _ _ _ h => h) (Pm.cons (fun _ _ _ _ h => h) (Pm.cons (fun _ _ _ _ h => h) (Pm.cons (fun _ _ _ _ h => h) (Pm.cons (fun _ _ _ _ h => h) (Pm.cons (fun _ _ _ _ h => h) Pm.nil))))))))))))))))))))))))
    case steps_39 =>
      refine Steps.cons (RStep.of rfl fun x W f hI hD K9 hK => ?_) ?_
      · clear hD
        have c0 := hI.2.2.2.c 0 _ rfl
        have c1 := hI.2.2.2.c 1 _ rfl
        go_simp
        exact hK (.agg #[.slice A X.1.cells.length d, .slice A' X.1.roots.length d']) _ _ (by kernel_rfl) (Below.refl _ _) (hI) rfl
      refine Steps.cons (RStep.of rfl fun x W f hI hD K9 hK => ?_) ?_
      · clear hD
        go_wp2_with fail
        (with_reducible refine (implRunHeap_any S L cS _ hI.2.1 hLl).mono ?_)
        rintro e w6 ⟨v6, rfl, oH, hB⟩
        exact hK v6 _ _ (by kernel_rfl) hB ⟨hI.1.trans (hB.mono hI.1.size), hI.2.1.below hB, hI.2.2.1.below hB, hI.2.2.2.below hB⟩ oH.rh
      refine Steps.cons (RStep.of rfl fun x W f hI hD K9 hK => ?_) ?_
      · have e7 : x 7 = .agg #[.slice A X.1.cells.length d, .slice A' X.1.roots.length d'] := hD 7 (by decide)
        have h9 : (fun v W => RH W v (runM L)) (x 9) W := hD 9 (by decide)
        clear hD
        simp only [e7] at hK ⊢
        go_wp2_with fail
        (with_reducible refine (sameView_any _ (x 9) X.1 (runM L) _ hI.2.2.1 h9).mono ?_)
        rw [HS1.out]
        rintro e w6 ⟨rfl, hB⟩
        exact hK _ _ _ (by kernel_rfl) hB ⟨hI.1.trans (hB.mono hI.1.size), hI.2.1.below hB, hI.2.2.1.below hB, hI.2.2.2.below hB⟩ rfl
      exact Steps.nil
    intro x W hI hV
    have e7 : x 7 = .agg #[.slice A X.1.cells.length d, .slice A' X.1.roots.length d'] := hV 7 (by decide)
    have h9 : (fun v W => RH W v (runM L)) (x 9) W := hV 9 (by decide)
    have e10 : x 10 = .bool true := hV 10 (by decide)
    clear hV
    simp only [e7, e10]
    clear h9 e7 e10
    obtain ⟨HB, HS, HV, HX⟩ := hI
    have c0 := HX.c 0 _ rfl
    have c1 := HX.c 1 _ rfl
    rw [hR]
    (refine wpAny_take (i := 11) (v := ?v8_u40) rfl (by kernel_rfl) (by kernel_rfl) (by kernel_rfl) (fun _ _ _ h => h) (Or.inl ⟨by kernel_rfl, ?h8_u40⟩) ?r8_u40; (case h8_u40 => (intro w9; go_simp; try with_reducible rfl)))
    (refine wpAny_take (i := 12) (v := ?v8_u41) rfl (by kernel_rfl) (by kernel_rfl) (by kernel_rfl) (fun _ _ _ h => h) (Or.inl ⟨by kernel_rfl, ?h8_u41⟩) ?r8_u41; (case h8_u41 => (intro w9; go_simp; try with_reducible rfl)))
    (refine wpAny_take (i := 15) (v := ?v8_u42) rfl (by kernel_rfl) (by kernel_rfl) (by kernel_rfl) (fun _ _ _ h => h) (Or.inl ⟨by kernel_rfl, ?h8_u42⟩) ?r8_u42; (case h8_u42 => (intro w9; go_simp; try with_reducible rfl)))
    rw [← hR]
    refine R_norm (a' := ?a8_u43) ?n8_u43 ?_
    case n8_u43 => (simp [Act.put]; with_reducible rfl)
    rw [hR]
    refine wpAny_ready (rs := [13]) (by kernel_rfl) (by simp) ?_
    refine AllReady.cons rfl (fun K9 hK9 => ?_) AllReady.nil
    go_simp
    refine hK9 _ _ ?_
    clear hK9
    have hle2 : X.1.cells.length ≤ r := by have := HS2.out; omega
    have hle : decide ((X.1.cells.length : Int) ≤ (r : Int)) = true := decide_eq_true HS2.out
    (refine wpAny_take (i := 14) (v := ?v8_u46) rfl (by kernel_rfl) (by kernel_rfl) (by kernel_rfl) (fun _ _ _ h => h) (Or.inl ⟨by kernel_rfl, ?h8_u46⟩) ?r8_u46; (case h8_u46 => (intro w9; go_simp; try with_reducible rfl)))
    (refine wpAny_take (i := 16) (v := .bool true) rfl (by kernel_rfl) (by kernel_rfl) (by kernel_rfl) (fun _ _ _ h => h) (Or.inl ⟨by kernel_rfl, ?h8_u47⟩) ?r8_u47; (case h8_u47 => (intro w9; go_simp)))
    (refine wpAny_take (i := 17) (v := ?v8_u48) rfl (by kernel_rfl) (by kernel_rfl) (by kernel_rfl) (fun _ _ _ h => h) (Or.inl ⟨by kernel_rfl, ?h8_u48⟩) ?r8_u48; (case h8_u48 => (intro w9; go_simp; try with_reducible rfl)))
    (refine wpAny_take (i := 18) (v := ?v8_u49) rfl (by kernel_rfl) (by kernel_rfl) (by kernel_rfl) (fun _ _ _ h => h) (Or.inl ⟨by kernel_rfl, ?h8_u49⟩) ?r8_u49; (case h8_u49 => (intro w9; go_simp; try with_reducible rfl)))
    (refine wpAny_take (i := 19) (v := ?v8_u50) rfl (by kernel_rfl) (by kernel_rfl) (by kernel_rfl) (fun _ _ _ h => h) (Or.inl ⟨by kernel_rfl, ?h8_u50⟩) ?r8_u50; (case h8_u50 => (intro w9; go_simp; try with_reducible rfl)))
    (refine wpAny_take (i := 20) (v := ?v8_u51) rfl (by kernel_rfl) (by kernel_rfl) (by kernel_rfl) (fun _ _ _ h => h) (Or.inl ⟨by kernel_rfl, ?h8_u51⟩) ?r8_u51; (case h8_u51 => (intro w9; go_simp; try with_reducible rfl)))
    rw [← hR]
    refine R_norm (a' := ?a8_u52) ?n8_u52 ?_
    case n8_u52 => (simp [Act.put]; with_reducible rfl)
    rw [hR]
    refine wpAny_ready (rs := [21]) (by kernel_rfl) (by simp) ?_
    refine AllReady.cons rfl (fun K9 hK9 => ?_) AllReady.nil
    go_wp2_with fail
    (with_reducible refine (alive_any _).mono ?_); rintro e w2 ⟨rfl, hB⟩
    have zb := hB.size
    have zB := HB.size
    refine hK9 _ _ ?_
    clear hK9
    (refine wpAny_take (i := 22) (v := ?v8_u55) rfl (by kernel_rfl) (by kernel_rfl) (by kernel_rfl) (fun _ _ _ h => h) (Or.inl ⟨by kernel_rfl, ?h8_u55⟩) ?r8_u55; (case h8_u55 => (intro w9; go_simp; try with_reducible rfl)))
    (refine wpAny_take (i := 23) (v := ?v8_u56) rfl (by kernel_rfl) (by kernel_rfl) (by kernel_rfl) (fun _ _ _ h => h) (Or.inl ⟨by kernel_rfl, ?h8_u56⟩) ?r8_u56; (case h8_u56 => (intro w9; go_simp; try with_reducible rfl)))
    rw [← hR]
    refine R_norm (a' := ?a8_u57) ?n8_u57 ?_
    case n8_u57 => (simp [Act.put]; with_reducible rfl)
    rw [hR]
    refine wpAny_done (by kernel_rfl) ?_ _
    go_wp2_with fail
    go_ret
    exact ⟨rfl, (by repeat (first | ((with_reducible refine Below.setc ?_ ?_ _); focus (first | omega | (simp; done) | (simp; omega))) | ((with_reducible refine Below.allocc ?_ ?_ _); focus (first | omega | (simp; done) | (simp; omega))) | (with_reducible refine Below.drew ?_) | (with_reducible refine Below.drewn ?_) | (with_reducible assumption) | (with_reducible exact Below.refl _ _) | ((with_reducible refine Below.stepp (by with_reducible assumption) ?_ ?_); focus (first | omega | (simp; done) | (simp; omega)))))⟩
end Go.Proofs.Ytngmkflmjjkjaaa
