/- FnSlideHeap: the law's call returns true. -/
import Derived.Test.YtngmkflmjjkjaaaChecked
import Derived.Deep.QuietTactic
import Derived.BigQuiet
import Derived.Deep.RegionWith
import Derived.Test.YtngmkflmjjkjaaaDrawA
import Derived.Test.YtngmkflmjjkjaaaGrSame
import Derived.Test.YtngmkflmjjkjaaaCtx
import Derived.Test.YtngmkflmjjkjaaaRel
import Derived.Test.YtngmkflmjjkjaaaUsedC
import Derived.Test.YtngmkflmjjkjaaaGrMov
import Derived.Test.YtngmkflmjjkjaaaMovS
import Derived.Test.YtngmkflmjjkjaaaGrHeap
import Derived.Test.YtngmkflmjjkjaaaSlideY
import Derived.Test.YtngmkflmjjkjaaaGrIso
import Derived.Test.YtngmkflmjjkjaaaViewI
namespace Go.Proofs.Ytngmkflmjjkjaaa
open Go.RowKit
set_option maxRecDepth 100000
set_option linter.unusedSimpArgs false
set_option linter.unusedVariables false
set_option maxHeartbeats 8000000 in
theorem walkSlideHeap (C : Option Addr) (bs : List Int) (c : Nat) (w : World) (hr : RF fu w C bs) (hb : ∀ x ∈ bs, 0 ≤ x ∧ x < 256) (hc : bs.length ≤ c) (hc2 : c ≤ 9223372036854775807) :
    Calls Try.prog 9 #[.slice C bs.length c] w fun e w' => e = .returned (.bool true) ∧ Below w.heap.size w w' := by
  by_cases hbig : 1048576 < bs.length
  · go_enter Try.func9, Try.ntmps9
    go_wp2
    go_ret
    exact ⟨rfl, blw_⟩
  go_enter Try.func9, Try.ntmps9
  go_wp2_with fail
  (with_reducible refine (drawSlideHeap_any C bs c _ hr hb hc hc2).mono ?_); rintro e w1 ⟨v, h, rfl, hV, hB⟩
  obtain ⟨A, n, A', n', rfl⟩ := hV.parts
  have zB := hB.size
  clear hr hb
  go_wp2_with fail
  refine Calls.gen (fun W => Below w.heap.size w W ∧ RH W (.agg #[.slice A h.cells.length n, .slice A' h.roots.length n']) h ∧ Bx W w1.heap.size [.slice A h.cells.length n, .slice A' h.roots.length n']) ⟨blw_, hV.below blw_, Bx.new w1 [.slice A h.cells.length n, .slice A' h.roots.length n'] 28⟩ ?_
  generalize w1.heap.size = bh
  clear hB hV zB
  rintro W ⟨HB, HV, HH⟩
  obtain ⟨X, hX⟩ : ∃ X, Hid (X = slideHeapM h) := ⟨_, rfl⟩
  (with_reducible refine (implSlideHeap_any _ h _ HV).mono ?_); rw [← hX.out]; rintro e w2 ⟨v2, rfl, oH, hB⟩
  have hV2 := oH.rh
  obtain ⟨A2, n2, A2', n2', rfl⟩ := hV2.parts
  have HB := HB.trans (hB.mono HB.size)
  have zB := HB.size
  have HV := HV.below hB
  have HH := HH.below hB
  clear hB oH
  go_upto_region 5 with fail
  refine Code.gen (fun W => Below w.heap.size w W ∧ RH W (.agg #[.slice A h.cells.length n, .slice A' h.roots.length n']) h ∧ Bx W bh [.slice A h.cells.length n, .slice A' h.roots.length n'] ∧ RH W (.agg #[.slice A2 X.cells.length n2, .slice A2' X.roots.length n2']) X ∧ Bx W w2.heap.size [.slice A2 X.cells.length n2, .slice A2' X.roots.length n2']) ⟨blw_, HV.below blw_, HH.below blw_, hV2.below blw_, Bx.new _ _ _⟩ ?_
  generalize w2.heap.size = bx
  clear HB HV HH hV2 zB
  rintro W ⟨HB, HV, HH, HX, HBX⟩
  have hE : Hid (eqB X X = true) := eqB_of rfl
  refine wp_region_R (by kernel_rfl) (fun R wd hR hwd => ?_)
  have hBd : Below W.heap.size W wd := by rw [hwd]; exact blw_
  have HB := HB.trans (hBd.mono HB.size)
  have HV := HV.below hBd
  have HH := HH.below hBd
  have HX := HX.below hBd
  have HBX := HBX.below hBd
  clear hwd hBd
  refine rel_at (fr := ?fr_0) hR (fun f W => Below w.heap.size w W ∧ RH W (.agg #[.slice A h.cells.length n, .slice A' h.roots.length n']) h ∧ Bx W bh [.slice A h.cells.length n, .slice A' h.roots.length n'] ∧ RH W (.agg #[.slice A2 X.cells.length n2, .slice A2' X.roots.length n2']) X ∧ Bx W bx [.slice A2 X.cells.length n2, .slice A2' X.roots.length n2']) [(fun v W => v = (.agg #[.slice A2 X.cells.length n2, .slice A2' X.roots.length n2'])), (fun v W => v = (.agg #[.slice A h.cells.length n, .slice A' h.roots.length n'])), (fun v W => RH W v X), (fun v W => v = .bool true), tt] (fun W W' => Below W.heap.size W W') [(0, []), (1, []), (2, [1]), (3, [0, 2, 1]), (4, [0, 1, 2, 3])] [(14, 0), (15, 1), (16, 2), (17, 3)] [0, 1, 2, 3] #[true, true, true, true, false] 5 1 (by kernel_rfl) (by kernel_rfl) ?hfr_0 ?h0_0 ?mono_0 ?steps_0 ?_
  case hfr_0 => intro x; (simp [frOf, fill, Act.put, List.lookup]; with_reducible rfl)
  case h0_0 => exact ⟨HB, HV, HH, HX, HBX⟩
  case mono_0 => exact (Pm.cons (fun _ _ _ _ h => h) (Pm.cons (fun _ _ _ _ h => h) (Pm.cons (fun _ _ _ hG h => h.below hG) (Pm.cons (fun _ _ _ _ h => h) (Pm.cons (fun _ _ _ _ h => h) Pm.nil)))))
  case steps_0 =>
    refine Steps.cons (RStep.of rfl fun x W f hI hD K9 hK => ?_) ?_
    · clear hD
      have c0 := hI.2.2.2.2.c 0 _ rfl
      have c1 := hI.2.2.2.2.c 1 _ rfl
      go_simp
      exact hK ((.agg #[.slice A2 X.cells.length n2, .slice A2' X.roots.length n2'])) _ _ (by kernel_rfl) (Below.refl _ _) (hI) rfl
    refine Steps.cons (RStep.of rfl fun x W f hI hD K9 hK => ?_) ?_
    · clear hD
      have c0 := hI.2.2.1.c 0 _ rfl
      have c1 := hI.2.2.1.c 1 _ rfl
      go_simp
      exact hK ((.agg #[.slice A h.cells.length n, .slice A' h.roots.length n'])) _ _ (by kernel_rfl) (Below.refl _ _) (hI) rfl
    refine Steps.cons (RStep.of rfl fun x W f hI hD K9 hK => ?_) ?_
    · have e1 : x 1 = (.agg #[.slice A h.cells.length n, .slice A' h.roots.length n']) := hD 1 (by decide)
      clear hD
      simp only [e1] at hK ⊢
      go_wp2_with fail
      (with_reducible refine (specSlideHeap_any _ h _ hI.2.1).mono ?_); rw [← hX.out]
      rintro e w6 ⟨v6, rfl, oH, hB⟩
      exact hK v6 _ _ (by kernel_rfl) hB ⟨hI.1.trans (hB.mono hI.1.size), hI.2.1.below hB, hI.2.2.1.below hB, hI.2.2.2.1.below hB, hI.2.2.2.2.below hB⟩ oH.rh
    refine Steps.cons (RStep.of rfl fun x W f hI hD K9 hK => ?_) ?_
    · have e0 : x 0 = (.agg #[.slice A2 X.cells.length n2, .slice A2' X.roots.length n2']) := hD 0 (by decide)
      have h2 : (fun v W => RH W v X) (x 2) W := hD 2 (by decide)
      clear hD
      simp only [e0] at hK ⊢
      go_wp2_with fail
      (with_reducible refine (sameHeap_any _ (x 2) X X _ hI.2.2.2.1 h2).mono ?_); rw [hE.out]
      rintro e w6 ⟨rfl, hB⟩
      exact hK _ _ _ (by kernel_rfl) hB ⟨hI.1.trans (hB.mono hI.1.size), hI.2.1.below hB, hI.2.2.1.below hB, hI.2.2.2.1.below hB, hI.2.2.2.2.below hB⟩ rfl
    exact Steps.nil
  intro x W hI hV
  have e0 : x 0 = (.agg #[.slice A2 X.cells.length n2, .slice A2' X.roots.length n2']) := hV 0 (by decide)
  have e1 : x 1 = (.agg #[.slice A h.cells.length n, .slice A' h.roots.length n']) := hV 1 (by decide)
  have h2 : (fun v W => RH W v X) (x 2) W := hV 2 (by decide)
  have e3 : x 3 = .bool true := hV 3 (by decide)
  clear hV
  simp only [e0, e1, e3]
  clear h2
  obtain ⟨HB, HV, HH, HX, HBX⟩ := hI
  rw [hR]
  (refine wpAny_take (i := 4) (v := ?v8_u1) rfl (by kernel_rfl) (by kernel_rfl) (by kernel_rfl) (fun _ _ _ h => h) (Or.inl ⟨by kernel_rfl, ?h8_u1⟩) ?r8_u1; (case h8_u1 => (intro w9; go_simp; try with_reducible rfl)))
  rw [← hR]
  refine R_norm (a' := ?a8_u2) ?n8_u2 ?_
  case n8_u2 => (simp [Act.put]; with_reducible rfl)
  rw [hR]
  refine wpAny_done (by kernel_rfl) ?_ _
  clear hR
  have c0 := HH.c 0 _ rfl
  have c1 := HH.c 1 _ rfl
  go_wp2_with fail
  (with_reducible refine (specHeapValid_any _ h _ HV).mono ?_); rintro e w2 ⟨rfl, hB⟩
  have HB := HB.trans (hB.mono HB.size)
  have zB := HB.size
  have HV := HV.below hB
  have HH := HH.below hB
  have HX := HX.below hB
  have HBX := HBX.below hB
  clear hB c0 c1
  rcases bool_ft (validM h) with hva | hva
  · have hX0 : X.roots.length = 0 := by rw [hX.out]; unfold slideHeapM; rw [hva]; rfl
    have c1 := HBX.c 1 _ rfl
    rw [hX0] at c1
    rw [hva]
    clear hX0
    go_wp2_with fail
    (with_reducible refine (alive_any _).mono ?_); rintro e w3 ⟨rfl, hB⟩
    have zb := hB.size
    go_wp2_with fail
    go_ret
    exact ⟨rfl, blw_⟩
  have HL : Hid ((usedCellsM X).1 = (X.cells.length : Int) ∧ (usedCellsM X).2 = (X.cells.length : Int) ∧ sameViewM X h = true ∧ slideHeapM X = X ∧ X.cells.length = (copyHeapM h).cells.length) := by rw [hX.out]; exact law_SlideHeap hva
  rw [hva]
  have c0 := HBX.c 0 _ rfl
  have c1 := HBX.c 1 _ rfl
  clear hva
  go_wp2_with fail
  (with_reducible refine (usedCells_any _ X _ HX).mono ?_); rw [HL.out.1, HL.out.2.1]; rintro e w4 ⟨rfl, hB⟩
  have HB := HB.trans (hB.mono HB.size)
  have HV := HV.below hB
  have HH := HH.below hB
  have HX := HX.below hB
  have HBX := HBX.below hB
  clear hB c0 c1
  go_wp2_with fail
  refine wp_region_R (by kernel_rfl) (fun R wd hR hwd => ?_)
  have hBd : Below w4.heap.size w4 wd := by rw [hwd]; exact blw_
  have HB := HB.trans (hBd.mono HB.size)
  have HV := HV.below hBd
  have HH := HH.below hBd
  have HX := HX.below hBd
  have HBX := HBX.below hBd
  clear hwd hBd
  have c0 := HBX.c 0 _ rfl
  rw [hR]
  (refine wpAny_take (i := 0) (v := ?v8_u3) rfl (by kernel_rfl) (by kernel_rfl) (by kernel_rfl) (fun _ _ _ h => h) (Or.inl ⟨by kernel_rfl, ?h8_u3⟩) ?r8_u3; (case h8_u3 => (intro w9; go_simp; try with_reducible rfl)))
  (refine wpAny_take (i := 1) (v := ?v8_u4) rfl (by kernel_rfl) (by kernel_rfl) (by kernel_rfl) (fun _ _ _ h => h) (Or.inl ⟨by kernel_rfl, ?h8_u4⟩) ?r8_u4; (case h8_u4 => (intro w9; go_simp; try with_reducible rfl)))
  (refine wpAny_take (i := 2) (v := .bool true) rfl (by kernel_rfl) (by kernel_rfl) (by kernel_rfl) (fun _ _ _ h => h) (Or.inl ⟨by kernel_rfl, ?h8_u5⟩) ?r8_u5; (case h8_u5 => (intro w9; go_simp)))
  (refine wpAny_take (i := 3) (v := ?v8_u6) rfl (by kernel_rfl) (by kernel_rfl) (by kernel_rfl) (fun _ _ _ h => h) (Or.inl ⟨by kernel_rfl, ?h8_u6⟩) ?r8_u6; (case h8_u6 => (intro w9; go_simp; try with_reducible rfl)))
  (refine wpAny_take (i := 4) (v := ?v8_u7) rfl (by kernel_rfl) (by kernel_rfl) (by kernel_rfl) (fun _ _ _ h => h) (Or.inl ⟨by kernel_rfl, ?h8_u7⟩) ?r8_u7; (case h8_u7 => (intro w9; go_simp; try with_reducible rfl)))
  (refine wpAny_take (i := 5) (v := ?v8_u8) rfl (by kernel_rfl) (by kernel_rfl) (by kernel_rfl) (fun _ _ _ h => h) (Or.inl ⟨by kernel_rfl, ?h8_u8⟩) ?r8_u8; (case h8_u8 => (intro w9; go_simp; try with_reducible rfl)))
  rw [← hR]
  refine R_norm (a' := ?a8_u9) ?n8_u9 ?_
  case n8_u9 => (simp [Act.put]; with_reducible rfl)
  rw [hR]
  refine wpAny_ready (rs := [6]) (by kernel_rfl) (by simp) ?_
  refine AllReady.cons rfl (fun K9 hK9 => ?_) AllReady.nil
  go_simp
  refine hK9 _ _ ?_
  clear hK9
  (refine wpAny_take (i := 7) (v := ?v8_u12) rfl (by kernel_rfl) (by kernel_rfl) (by kernel_rfl) (fun _ _ _ h => h) (Or.inl ⟨by kernel_rfl, ?h8_u12⟩) ?r8_u12; (case h8_u12 => (intro w9; go_simp; try with_reducible rfl)))
  (refine wpAny_take (i := 8) (v := .bool true) rfl (by kernel_rfl) (by kernel_rfl) (by kernel_rfl) (fun _ _ _ h => h) (Or.inl ⟨by kernel_rfl, ?h8_u13⟩) ?r8_u13; (case h8_u13 => (intro w9; go_simp)))
  (refine wpAny_take (i := 9) (v := ?v8_u14) rfl (by kernel_rfl) (by kernel_rfl) (by kernel_rfl) (fun _ _ _ h => h) (Or.inl ⟨by kernel_rfl, ?h8_u14⟩) ?r8_u14; (case h8_u14 => (intro w9; go_simp; try with_reducible rfl)))
  (refine wpAny_take (i := 10) (v := ?v8_u15) rfl (by kernel_rfl) (by kernel_rfl) (by kernel_rfl) (fun _ _ _ h => h) (Or.inl ⟨by kernel_rfl, ?h8_u15⟩) ?r8_u15; (case h8_u15 => (intro w9; go_simp; try with_reducible rfl)))
  rw [← hR]
  refine R_norm (a' := ?a8_u16) ?n8_u16 ?_
  case n8_u16 => (simp [Act.put]; with_reducible rfl)
  rw [hR]
  rw [← hR]
  clear c0
  refine rel_at (fr := ?fr_17) hR (fun f W => Below w.heap.size w W ∧ RH W (.agg #[.slice A h.cells.length n, .slice A' h.roots.length n']) h ∧ Bx W bh [.slice A h.cells.length n, .slice A' h.roots.length n'] ∧ RH W (.agg #[.slice A2 X.cells.length n2, .slice A2' X.roots.length n2']) X ∧ Bx W bx [.slice A2 X.cells.length n2, .slice A2' X.roots.length n2']) [tt, tt, tt, tt, tt, tt, tt, tt, tt, tt, tt, (fun v W => v = (.agg #[.slice A2 X.cells.length n2, .slice A2' X.roots.length n2'])), (fun v W => v = (.agg #[.slice A h.cells.length n, .slice A' h.roots.length n'])), (fun v W => v = .bool true), tt, tt, tt, tt, tt, tt, tt, tt, tt, tt, tt, tt, tt, tt, tt, tt, tt, tt] (fun W W' => Below W.heap.size W W') [(11, []), (12, []), (13, [11, 12]), (14, [11, 12, 13]), (15, [11, 12, 13]), (16, [11, 12, 13]), (17, [11, 12, 13]), (18, [11, 12, 13]), (19, [11, 12, 13]), (20, [11, 12, 13]), (21, [11, 12, 13]), (22, [11, 12, 13]), (23, [11, 12, 13]), (24, [11, 12, 13]), (25, [11, 12, 13]), (26, [11, 12, 13]), (27, [11, 12, 13]), (28, [11, 12, 13]), (29, [11, 12, 13]), (30, [11, 12, 13]), (31, [11, 12, 13])] [(45, 11), (46, 12), (47, 13)] [11, 12, 13] #[true, true, true, true, true, true, true, true, true, true, true, true, true, true, false, false, false, false, false, false, false, false, false, false, false, false, false, false, false, false, false, false] 21 18 (by kernel_rfl) (by kernel_rfl) ?hfr_17 ?h0_17 ?mono_17 ?steps_17 ?_
  case hfr_17 => intro x; (simp [frOf, fill, Act.put, List.lookup]; with_reducible rfl)
  case h0_17 => exact ⟨HB, HV, HH, HX, HBX⟩
  case mono_17 => exact (Pm.cons (fun _ _ _ _ h => h) (Pm.cons (fun _ _ _ _ h => h) (Pm.cons (fun _ _ _ _ h => h) (Pm.cons (fun _ _ _ _ h => h) (Pm.cons (fun _ _ _ _ h => h) (Pm.cons (fun _ _ _ _ h => h) (Pm.cons (fun _ _ _ _ h => h) (Pm.cons (fun _ _ _ _ h => h) (Pm.cons (fun _ _ _ _ h => h) (Pm.cons (fun _ _ _ _ h => h) (Pm.cons (fun _ _ _ _ h => h) (Pm.cons (fun _ _ _ _ h => h) (Pm.cons (fun _ _ _ _ h => h) (Pm.cons (fun _ _ _ _ h => h) (Pm.cons (fun _ _ _ _ h => h) (Pm.cons (fun _ _ _ _ h => h) (Pm.cons (fun _ _ _ _ h => h) (Pm.cons (fun _ _ _ _ h => h) (Pm.cons (fun _ _ _ _ h => h) (Pm.cons (fun _ _ _ _ h => h) (Pm.cons (fun _ _ _ _ h => h) (Pm.cons (fun _ _ _ _ h => h) (Pm.cons (fun _ _ _ _ h => h) (Pm.cons (fun _ _ _ _ h => h) (Pm.cons (fun _ _ _ _ h => h) (Pm.cons (fun _ _ _ _ h => h) (Pm.cons (fun _ _ _ _ h => h) (Pm.cons (fun _ _ _ _ h => h) (Pm.cons (fun _ _ _ _ h => h) (Pm.cons (fun _ _ _ _ h => h) (Pm.cons (fun _ _ _ _ h => h) (Pm.cons (fun _ _ _ _ h => h) Pm.nil))))))))))))))))))))))))))))))))
  case steps_17 =>
    refine Steps.cons (RStep.of rfl fun x W f hI hD K9 hK => ?_) ?_
    · clear hD
      have c0 := hI.2.2.2.2.c 0 _ rfl
      have c1 := hI.2.2.2.2.c 1 _ rfl
      go_simp
      exact hK ((.agg #[.slice A2 X.cells.length n2, .slice A2' X.roots.length n2'])) _ _ (by kernel_rfl) (Below.refl _ _) (hI) rfl
    refine Steps.cons (RStep.of rfl fun x W f hI hD K9 hK => ?_) ?_
    · clear hD
      have c0 := hI.2.2.1.c 0 _ rfl
      have c1 := hI.2.2.1.c 1 _ rfl
      go_simp
      exact hK ((.agg #[.slice A h.cells.length n, .slice A' h.roots.length n'])) _ _ (by kernel_rfl) (Below.refl _ _) (hI) rfl
    refine Steps.cons (RStep.of rfl fun x W f hI hD K9 hK => ?_) ?_
    · have e11 : x 11 = (.agg #[.slice A2 X.cells.length n2, .slice A2' X.roots.length n2']) := hD 11 (by decide)
      have e12 : x 12 = (.agg #[.slice A h.cells.length n, .slice A' h.roots.length n']) := hD 12 (by decide)
      clear hD
      simp only [e11, e12] at hK ⊢
      go_wp2_with fail
      (with_reducible refine (sameView_any _ _ X h _ hI.2.2.2.1 hI.2.1).mono ?_); rw [HL.out.2.2.1]
      rintro e w6 ⟨rfl, hB⟩
      exact hK _ _ _ (by kernel_rfl) hB ⟨hI.1.trans (hB.mono hI.1.size), hI.2.1.below hB, hI.2.2.1.below hB, hI.2.2.2.1.below hB, hI.2.2.2.2.below hB⟩ rfl
    exact Steps.nil
  intro x W hI hV
  have e11 : x 11 = (.agg #[.slice A2 X.cells.length n2, .slice A2' X.roots.length n2']) := hV 11 (by decide)
  have e12 : x 12 = (.agg #[.slice A h.cells.length n, .slice A' h.roots.length n']) := hV 12 (by decide)
  have e13 : x 13 = .bool true := hV 13 (by decide)
  clear hV
  simp only [e11, e12, e13]
  obtain ⟨HB, HV, HH, HX, HBX⟩ := hI
  rw [hR]
  (refine wpAny_take (i := 14) (v := ?v8_u18) rfl (by kernel_rfl) (by kernel_rfl) (by kernel_rfl) (fun _ _ _ h => h) (Or.inl ⟨by kernel_rfl, ?h8_u18⟩) ?r8_u18; (case h8_u18 => (intro w9; go_simp; try with_reducible rfl)))
  (refine wpAny_take (i := 15) (v := ?v8_u19) rfl (by kernel_rfl) (by kernel_rfl) (by kernel_rfl) (fun _ _ _ h => h) (Or.inl ⟨by kernel_rfl, ?h8_u19⟩) ?r8_u19; (case h8_u19 => (intro w9; go_simp; try with_reducible rfl)))
  rw [← hR]
  refine R_norm (a' := ?a8_u20) ?n8_u20 ?_
  case n8_u20 => (simp [Act.put]; with_reducible rfl)
  rw [hR]
  rw [← hR]
  refine rel_at (fr := ?fr_21) hR (fun f W => Below w.heap.size w W ∧ RH W (.agg #[.slice A h.cells.length n, .slice A' h.roots.length n']) h ∧ Bx W bh [.slice A h.cells.length n, .slice A' h.roots.length n'] ∧ RH W (.agg #[.slice A2 X.cells.length n2, .slice A2' X.roots.length n2']) X ∧ Bx W bx [.slice A2 X.cells.length n2, .slice A2' X.roots.length n2']) [tt, tt, tt, tt, tt, tt, tt, tt, tt, tt, tt, tt, tt, tt, tt, tt, (fun v W => v = (.agg #[.slice A2 X.cells.length n2, .slice A2' X.roots.length n2'])), (fun v W => RH W v X), (fun v W => v = (.agg #[.slice A2 X.cells.length n2, .slice A2' X.roots.length n2'])), (fun v W => v = .bool true), tt, tt, tt, tt, tt, tt, tt, tt, tt, tt, tt, tt] (fun W W' => Below W.heap.size W W') [(16, []), (17, [16]), (18, []), (19, [17, 16, 18]), (20, [16, 17, 18, 19]), (21, [16, 17, 18, 19]), (22, [16, 17, 18, 19]), (23, [16, 17, 18, 19]), (24, [16, 17, 18, 19]), (25, [16, 17, 18, 19]), (26, [16, 17, 18, 19]), (27, [16, 17, 18, 19]), (28, [16, 17, 18, 19]), (29, [16, 17, 18, 19]), (30, [16, 17, 18, 19]), (31, [16, 17, 18, 19])] [(50, 16), (51, 17), (52, 18), (53, 19)] [16, 17, 18, 19] #[true, true, true, true, true, true, true, true, true, true, true, true, true, true, true, true, true, true, true, true, false, false, false, false, false, false, false, false, false, false, false, false] 16 12 (by kernel_rfl) (by kernel_rfl) ?hfr_21 ?h0_21 ?mono_21 ?steps_21 ?_
  case hfr_21 => intro x; (simp [frOf, fill, Act.put, List.lookup]; with_reducible rfl)
  case h0_21 => exact ⟨HB, HV, HH, HX, HBX⟩
  case mono_21 => exact (Pm.cons (fun _ _ _ _ h => h) (Pm.cons (fun _ _ _ _ h => h) (Pm.cons (fun _ _ _ _ h => h) (Pm.cons (fun _ _ _ _ h => h) (Pm.cons (fun _ _ _ _ h => h) (Pm.cons (fun _ _ _ _ h => h) (Pm.cons (fun _ _ _ _ h => h) (Pm.cons (fun _ _ _ _ h => h) (Pm.cons (fun _ _ _ _ h => h) (Pm.cons (fun _ _ _ _ h => h) (Pm.cons (fun _ _ _ _ h => h) (Pm.cons (fun _ _ _ _ h => h) (Pm.cons (fun _ _ _ _ h => h) (Pm.cons (fun _ _ _ _ h => h) (Pm.cons (fun _ _ _ _ h => h) (Pm.cons (fun _ _ _ _ h => h) (Pm.cons (fun _ _ _ _ h => h) (Pm.cons (fun _ _ _ hG h => h.below hG) (Pm.cons (fun _ _ _ _ h => h) (Pm.cons (fun _ _ _ _ h => h) (Pm.cons (fun _ _ _ _ h => h) (Pm.cons (fun _ _ _ _ h => h) (Pm.cons (fun _ _ _ _ h => h) (Pm.cons (fun _ _ _ _ h => h) (Pm.cons (fun _ _ _ _ h => h) (Pm.cons (fun _ _ _ _ h => h) (Pm.cons (fun _ _ _ _ h => h) (Pm.cons (fun _ _ _ _ h => h) (Pm.cons (fun _ _ _ _ h => h) (Pm.cons (fun _ _ _ _ h => h) (Pm.cons (fun _ _ _ _ h => h) (Pm.cons (fun _ _ _ _ h => h) Pm.nil))))))))))))))))))))))))))))))))
  case steps_21 =>
    refine Steps.cons (RStep.of rfl fun x W f hI hD K9 hK => ?_) ?_
    · clear hD
      have c0 := hI.2.2.2.2.c 0 _ rfl
      have c1 := hI.2.2.2.2.c 1 _ rfl
      go_simp
      exact hK ((.agg #[.slice A2 X.cells.length n2, .slice A2' X.roots.length n2'])) _ _ (by kernel_rfl) (Below.refl _ _) (hI) rfl
    refine Steps.cons (RStep.of rfl fun x W f hI hD K9 hK => ?_) ?_
    · have e16 : x 16 = (.agg #[.slice A2 X.cells.length n2, .slice A2' X.roots.length n2']) := hD 16 (by decide)
      clear hD
      simp only [e16] at hK ⊢
      go_wp2_with fail
      (with_reducible refine (implSlideHeap_any _ X _ hI.2.2.2.1).mono ?_); rw [HL.out.2.2.2.1]
      rintro e w6 ⟨v6, rfl, oH, hB⟩
      exact hK v6 _ _ (by kernel_rfl) hB ⟨hI.1.trans (hB.mono hI.1.size), hI.2.1.below hB, hI.2.2.1.below hB, hI.2.2.2.1.below hB, hI.2.2.2.2.below hB⟩ oH.rh
    refine Steps.cons (RStep.of rfl fun x W f hI hD K9 hK => ?_) ?_
    · clear hD
      have c0 := hI.2.2.2.2.c 0 _ rfl
      have c1 := hI.2.2.2.2.c 1 _ rfl
      go_simp
      exact hK ((.agg #[.slice A2 X.cells.length n2, .slice A2' X.roots.length n2'])) _ _ (by kernel_rfl) (Below.refl _ _) (hI) rfl
    refine Steps.cons (RStep.of rfl fun x W f hI hD K9 hK => ?_) ?_
    · have h17 : (fun v W => RH W v X) (x 17) W := hD 17 (by decide)
      have e18 : x 18 = (.agg #[.slice A2 X.cells.length n2, .slice A2' X.roots.length n2']) := hD 18 (by decide)
      clear hD
      simp only [e18] at hK ⊢
      go_wp2_with fail
      (with_reducible refine (sameHeap_any (x 17) _ X X _ h17 hI.2.2.2.1).mono ?_); rw [hE.out]
      rintro e w6 ⟨rfl, hB⟩
      exact hK _ _ _ (by kernel_rfl) hB ⟨hI.1.trans (hB.mono hI.1.size), hI.2.1.below hB, hI.2.2.1.below hB, hI.2.2.2.1.below hB, hI.2.2.2.2.below hB⟩ rfl
    exact Steps.nil
  intro x W hI hV
  have e16 : x 16 = (.agg #[.slice A2 X.cells.length n2, .slice A2' X.roots.length n2']) := hV 16 (by decide)
  have h17 : (fun v W => RH W v X) (x 17) W := hV 17 (by decide)
  have e18 : x 18 = (.agg #[.slice A2 X.cells.length n2, .slice A2' X.roots.length n2']) := hV 18 (by decide)
  have e19 : x 19 = .bool true := hV 19 (by decide)
  clear hV
  simp only [e16, e18, e19]
  clear h17
  obtain ⟨HB, HV, HH, HX, HBX⟩ := hI
  rw [hR]
  (refine wpAny_take (i := 20) (v := ?v8_u22) rfl (by kernel_rfl) (by kernel_rfl) (by kernel_rfl) (fun _ _ _ h => h) (Or.inl ⟨by kernel_rfl, ?h8_u22⟩) ?r8_u22; (case h8_u22 => (intro w9; go_simp; try with_reducible rfl)))
  (refine wpAny_take (i := 21) (v := ?v8_u23) rfl (by kernel_rfl) (by kernel_rfl) (by kernel_rfl) (fun _ _ _ h => h) (Or.inl ⟨by kernel_rfl, ?h8_u23⟩) ?r8_u23; (case h8_u23 => (intro w9; go_simp; try with_reducible rfl)))
  (refine wpAny_take (i := 22) (v := ?v8_u24) rfl (by kernel_rfl) (by kernel_rfl) (by kernel_rfl) (fun _ _ _ h => h) (Or.inl ⟨by kernel_rfl, ?h8_u24⟩) ?r8_u24; (case h8_u24 => (intro w9; go_simp; try with_reducible rfl)))
  rw [← hR]
  refine R_norm (a' := ?a8_u25) ?n8_u25 ?_
  case n8_u25 => (simp [Act.put]; with_reducible rfl)
  rw [hR]
  rw [← hR]
  refine rel_at (fr := ?fr_26) hR (fun f W => Below w.heap.size w W ∧ RH W (.agg #[.slice A h.cells.length n, .slice A' h.roots.length n']) h ∧ Bx W bh [.slice A h.cells.length n, .slice A' h.roots.length n'] ∧ RH W (.agg #[.slice A2 X.cells.length n2, .slice A2' X.roots.length n2']) X ∧ Bx W bx [.slice A2 X.cells.length n2, .slice A2' X.roots.length n2']) [tt, tt, tt, tt, tt, tt, tt, tt, tt, tt, tt, tt, tt, tt, tt, tt, tt, tt, tt, tt, tt, tt, tt, (fun v W => v = .slice A2 X.cells.length n2), (fun v W => v = .int .i64 (X.cells.length : Int)), (fun v W => v = (.agg #[.slice A h.cells.length n, .slice A' h.roots.length n'])), (fun v W => ∃ (B : Option Addr) (d : Nat) (u : Value), v = .agg #[.slice B X.cells.length d, u]), (fun v W => ∃ (B : Option Addr) (d : Nat), v = .slice B X.cells.length d), (fun v W => v = .int .i64 (X.cells.length : Int)), tt, tt, tt] (fun W W' => Below W.heap.size W W') [(23, []), (24, [23]), (25, []), (26, [25]), (27, [26, 25]), (28, [27, 26, 25]), (29, [23, 24, 25, 26, 27, 28]), (30, [23, 24, 25, 26, 27, 28]), (31, [23, 24, 25, 26, 27, 28])] [(57, 23), (58, 24), (59, 25), (60, 26), (61, 27), (62, 28)] [23, 24, 25, 26, 27, 28] #[true, true, true, true, true, true, true, true, true, true, true, true, true, true, true, true, true, true, true, true, true, true, true, true, true, true, true, true, true, false, false, false] 9 3 (by kernel_rfl) (by kernel_rfl) ?hfr_26 ?h0_26 ?mono_26 ?steps_26 ?_
  case hfr_26 => intro x; (simp [frOf, fill, Act.put, List.lookup]; with_reducible rfl)
  case h0_26 => exact ⟨HB, HV, HH, HX, HBX⟩
  case mono_26 => exact (Pm.cons (fun _ _ _ _ h => h) (Pm.cons (fun _ _ _ _ h => h) (Pm.cons (fun _ _ _ _ h => h) (Pm.cons (fun _ _ _ _ h => h) (Pm.cons (fun _ _ _ _ h => h) (Pm.cons (fun _ _ _ _ h => h) (Pm.cons (fun _ _ _ _ h => h) (Pm.cons (fun _ _ _ _ h => h) (Pm.cons (fun _ _ _ _ h => h) (Pm.cons (fun _ _ _ _ h => h) (Pm.cons (fun _ _ _ _ h => h) (Pm.cons (fun _ _ _ _ h => h) (Pm.cons (fun _ _ _ _ h => h) (Pm.cons (fun _ _ _ _ h => h) (Pm.cons (fun _ _ _ _ h => h) (Pm.cons (fun _ _ _ _ h => h) (Pm.cons (fun _ _ _ _ h => h) (Pm.cons (fun _ _ _ _ h => h) (Pm.cons (fun _ _ _ _ h => h) (Pm.cons (fun _ _ _ _ h => h) (Pm.cons (fun _ _ _ _ h => h) (Pm.cons (fun _ _ _ _ h => h) (Pm.cons (fun _ _ _ _ h => h) (Pm.cons (fun _ _ _ _ h => h) (Pm.cons (fun _ _ _ _ h => h) (Pm.cons (fun _ _ _ _ h => h) (Pm.cons (fun _ _ _ _ h => h) (Pm.cons (fun _ _ _ _ h => h) (Pm.cons (fun _ _ _ _ h => h) (Pm.cons (fun _ _ _ _ h => h) (Pm.cons (fun _ _ _ _ h => h) (Pm.cons (fun _ _ _ _ h => h) Pm.nil))))))))))))))))))))))))))))))))
  case steps_26 =>
    refine Steps.cons (RStep.of rfl fun x W f hI hD K9 hK => ?_) ?_
    · clear hD
      have c0 := hI.2.2.2.2.c 0 _ rfl
      go_simp
      exact hK (.slice A2 X.cells.length n2) _ _ (by kernel_rfl) (Below.refl _ _) (hI) rfl
    refine Steps.cons (RStep.of rfl fun x W f hI hD K9 hK => ?_) ?_
    · have e23 : x 23 = .slice A2 X.cells.length n2 := hD 23 (by decide)
      clear hD
      simp only [e23] at hK ⊢
      go_simp
      exact hK (.int .i64 (X.cells.length : Int)) _ _ (by kernel_rfl) (Below.refl _ _) (hI) rfl
    refine Steps.cons (RStep.of rfl fun x W f hI hD K9 hK => ?_) ?_
    · clear hD
      have c0 := hI.2.2.1.c 0 _ rfl
      have c1 := hI.2.2.1.c 1 _ rfl
      go_simp
      exact hK ((.agg #[.slice A h.cells.length n, .slice A' h.roots.length n'])) _ _ (by kernel_rfl) (Below.refl _ _) (hI) rfl
    refine Steps.cons (RStep.of rfl fun x W f hI hD K9 hK => ?_) ?_
    · have e25 : x 25 = (.agg #[.slice A h.cells.length n, .slice A' h.roots.length n']) := hD 25 (by decide)
      clear hD
      simp only [e25] at hK ⊢
      go_wp2_with fail
      (with_reducible refine (implCopyHeap_any _ h _ hI.2.1).mono ?_)
      rintro e w6 ⟨v6, rfl, oH, hB⟩
      obtain ⟨B, d, B', d', rfl⟩ := oH.rh.parts
      rw [← HL.out.2.2.2.2]
      exact hK (.agg #[.slice B X.cells.length d, .slice B' (copyHeapM h).roots.length d']) _ _ (by kernel_rfl) hB ⟨hI.1.trans (hB.mono hI.1.size), hI.2.1.below hB, hI.2.2.1.below hB, hI.2.2.2.1.below hB, hI.2.2.2.2.below hB⟩ ⟨B, d, _, rfl⟩
    refine Steps.cons (RStep.of rfl fun x W f hI hD K9 hK => ?_) ?_
    · have h26 : (fun v W => ∃ (B : Option Addr) (d : Nat) (u : Value), v = .agg #[.slice B X.cells.length d, u]) (x 26) W := hD 26 (by decide)
      clear hD
      obtain ⟨B, d, u, e26⟩ := h26
      simp only [e26] at hK ⊢
      go_simp
      exact hK (.slice B X.cells.length d) _ _ (by kernel_rfl) (Below.refl _ _) hI ⟨B, d, rfl⟩
    refine Steps.cons (RStep.of rfl fun x W f hI hD K9 hK => ?_) ?_
    · have h27 : (fun v W => ∃ (B : Option Addr) (d : Nat), v = .slice B X.cells.length d) (x 27) W := hD 27 (by decide)
      clear hD
      obtain ⟨B, d, e27⟩ := h27
      simp only [e27] at hK ⊢
      go_simp
      exact hK (.int .i64 (X.cells.length : Int)) _ _ (by kernel_rfl) (Below.refl _ _) hI rfl
    exact Steps.nil
  intro x W hI hV
  have e23 : x 23 = .slice A2 X.cells.length n2 := hV 23 (by decide)
  have e24 : x 24 = .int .i64 (X.cells.length : Int) := hV 24 (by decide)
  have e25 : x 25 = (.agg #[.slice A h.cells.length n, .slice A' h.roots.length n']) := hV 25 (by decide)
  have h26 : (fun v W => ∃ (B : Option Addr) (d : Nat) (u : Value), v = .agg #[.slice B X.cells.length d, u]) (x 26) W := hV 26 (by decide)
  have h27 : (fun v W => ∃ (B : Option Addr) (d : Nat), v = .slice B X.cells.length d) (x 27) W := hV 27 (by decide)
  have e28 : x 28 = .int .i64 (X.cells.length : Int) := hV 28 (by decide)
  clear hV
  simp only [e23, e24, e25, e28]
  clear h26 h27
  rw [hR]
  (refine wpAny_take (i := 29) (v := .bool true) rfl (by kernel_rfl) (by kernel_rfl) (by kernel_rfl) (fun _ _ _ h => h) (Or.inl ⟨by kernel_rfl, ?h8_u27⟩) ?r8_u27; (case h8_u27 => (intro w9; go_simp)))
  (refine wpAny_take (i := 30) (v := ?v8_u28) rfl (by kernel_rfl) (by kernel_rfl) (by kernel_rfl) (fun _ _ _ h => h) (Or.inl ⟨by kernel_rfl, ?h8_u28⟩) ?r8_u28; (case h8_u28 => (intro w9; go_simp; try with_reducible rfl)))
  (refine wpAny_take (i := 31) (v := ?v8_u29) rfl (by kernel_rfl) (by kernel_rfl) (by kernel_rfl) (fun _ _ _ h => h) (Or.inl ⟨by kernel_rfl, ?h8_u29⟩) ?r8_u29; (case h8_u29 => (intro w9; go_simp; try with_reducible rfl)))
  rw [← hR]
  refine R_norm (a' := ?a8_u30) ?n8_u30 ?_
  case n8_u30 => (simp [Act.put]; with_reducible rfl)
  rw [hR]
  refine wpAny_done (by kernel_rfl) ?_ _
  go_wp2_with fail
  go_ret
  exact ⟨rfl, hI.1⟩
end Go.Proofs.Ytngmkflmjjkjaaa
