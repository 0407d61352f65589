/- FnSweepCopy: the law's call returns true. -/
import Derived.Test.YtngmkflmjjkjaaaChecked
import Derived.Deep.QuietTactic
import Derived.BigQuiet
import Derived.Deep.RegionWith
import Derived.Test.YtngmkflmjjkjaaaDrawA
import Derived.Test.YtngmkflmjjkjaaaGrSame
import Derived.Test.YtngmkflmjjkjaaaCtx
import Derived.Test.YtngmkflmjjkjaaaRel
import Derived.Test.YtngmkflmjjkjaaaCloD
import Derived.Test.YtngmkflmjjkjaaaGrMov
import Derived.Test.YtngmkflmjjkjaaaGrIso
namespace Go.Proofs.Ytngmkflmjjkjaaa
open Go.RowKit
set_option maxRecDepth 100000
set_option linter.unusedSimpArgs false
set_option linter.unusedVariables false
set_option maxHeartbeats 8000000 in
theorem walkSweepCopy (C : Option Addr) (bs : List Int) (c : Nat) (w : World) (hr : RF fu w C bs) (hb : ∀ x ∈ bs, 0 ≤ x ∧ x < 256) (hc : bs.length ≤ c) (hc2 : c ≤ 9223372036854775807) :
    Calls Try.prog 11 #[.slice C bs.length c] w fun e w' => e = .returned (.bool true) ∧ Below w.heap.size w w' := by
  by_cases hbig : 1048576 < bs.length
  · go_enter Try.func11, Try.ntmps11
    go_wp2
    go_ret
    exact ⟨rfl, (by repeat (first | ((with_reducible refine Below.setc ?_ ?_ _); focus (first | omega | (simp; done) | (simp; omega))) | ((with_reducible refine Below.allocc ?_ ?_ _); focus (first | omega | (simp; done) | (simp; omega))) | (with_reducible refine Below.drew ?_) | (with_reducible refine Below.drewn ?_) | (with_reducible assumption) | (with_reducible exact Below.refl _ _) | ((with_reducible refine Below.stepp (by with_reducible assumption) ?_ ?_); focus (first | omega | (simp; done) | (simp; omega)))))⟩
  go_enter Try.func11, Try.ntmps11
  go_wp2_with fail
  (with_reducible refine (drawCollectSweep_any C bs c _ hr hb hc hc2).mono ?_); rintro e w1 ⟨v, h, rfl, hV, hB⟩
  obtain ⟨A, n, A', n', rfl⟩ := hV.parts
  have zB := hB.size
  clear hr hb
  go_wp2_with fail
  refine Calls.gen (fun W => Below w.heap.size w W ∧ RH W (.agg #[.slice A h.cells.length n, .slice A' h.roots.length n']) h ∧ Bx W w1.heap.size [.slice A h.cells.length n, .slice A' h.roots.length n']) ⟨(by repeat (first | ((with_reducible refine Below.setc ?_ ?_ _); focus (first | omega | (simp; done) | (simp; omega))) | ((with_reducible refine Below.allocc ?_ ?_ _); focus (first | omega | (simp; done) | (simp; omega))) | (with_reducible refine Below.drew ?_) | (with_reducible refine Below.drewn ?_) | (with_reducible assumption) | (with_reducible exact Below.refl _ _) | ((with_reducible refine Below.stepp (by with_reducible assumption) ?_ ?_); focus (first | omega | (simp; done) | (simp; omega))))), hV.below (by repeat (first | ((with_reducible refine Below.setc ?_ ?_ _); focus (first | omega | (simp; done) | (simp; omega))) | ((with_reducible refine Below.allocc ?_ ?_ _); focus (first | omega | (simp; done) | (simp; omega))) | (with_reducible refine Below.drew ?_) | (with_reducible refine Below.drewn ?_) | (with_reducible assumption) | (with_reducible exact Below.refl _ _) | ((with_reducible refine Below.stepp (by with_reducible assumption) ?_ ?_); focus (first | omega | (simp; done) | (simp; omega))))), Bx.new w1 [.slice A h.cells.length n, .slice A' h.roots.length n'] 28⟩ ?_
  generalize w1.heap.size = bh
  clear hB hV zB
  rintro W ⟨HB, HV, HH⟩
  obtain ⟨X, hX⟩ : ∃ X, Hid (X = collectSweepM h) := ⟨_, rfl⟩
  (with_reducible refine (implCollectSweep_any _ h _ HV).mono ?_); rw [← hX.out]; rintro e w2 ⟨v2, rfl, oH, hB⟩
  have hV2 := oH.rh
  obtain ⟨A2, n2, A2', n2', rfl⟩ := hV2.parts
  have HB := HB.trans (hB.mono HB.size)
  have zB := HB.size
  have HV := HV.below hB
  have HH := HH.below hB
  clear hB oH
  go_upto_region 5 with fail
  refine Code.gen (fun W => Below w.heap.size w W ∧ RH W (.agg #[.slice A h.cells.length n, .slice A' h.roots.length n']) h ∧ Bx W bh [.slice A h.cells.length n, .slice A' h.roots.length n'] ∧ RH W (.agg #[.slice A2 X.1.cells.length n2, .slice A2' X.1.roots.length n2']) X.1 ∧ Bx W w2.heap.size [.slice A2 X.1.cells.length n2, .slice A2' X.1.roots.length n2']) ⟨(by repeat (first | ((with_reducible refine Below.setc ?_ ?_ _); focus (first | omega | (simp; done) | (simp; omega))) | ((with_reducible refine Below.allocc ?_ ?_ _); focus (first | omega | (simp; done) | (simp; omega))) | (with_reducible refine Below.drew ?_) | (with_reducible refine Below.drewn ?_) | (with_reducible assumption) | (with_reducible exact Below.refl _ _) | ((with_reducible refine Below.stepp (by with_reducible assumption) ?_ ?_); focus (first | omega | (simp; done) | (simp; omega))))), HV.below (by repeat (first | ((with_reducible refine Below.setc ?_ ?_ _); focus (first | omega | (simp; done) | (simp; omega))) | ((with_reducible refine Below.allocc ?_ ?_ _); focus (first | omega | (simp; done) | (simp; omega))) | (with_reducible refine Below.drew ?_) | (with_reducible refine Below.drewn ?_) | (with_reducible assumption) | (with_reducible exact Below.refl _ _) | ((with_reducible refine Below.stepp (by with_reducible assumption) ?_ ?_); focus (first | omega | (simp; done) | (simp; omega))))), HH.below (by repeat (first | ((with_reducible refine Below.setc ?_ ?_ _); focus (first | omega | (simp; done) | (simp; omega))) | ((with_reducible refine Below.allocc ?_ ?_ _); focus (first | omega | (simp; done) | (simp; omega))) | (with_reducible refine Below.drew ?_) | (with_reducible refine Below.drewn ?_) | (with_reducible assumption) | (with_reducible exact Below.refl _ _) | ((with_reducible refine Below.stepp (by with_reducible assumption) ?_ ?_); focus (first | omega | (simp; done) | (simp; omega))))), hV2.below (by repeat (first | ((with_reducible refine Below.setc ?_ ?_ _); focus (first | omega | (simp; done) | (simp; omega))) | ((with_reducible refine Below.allocc ?_ ?_ _); focus (first | omega | (simp; done) | (simp; omega))) | (with_reducible refine Below.drew ?_) | (with_reducible refine Below.drewn ?_) | (with_reducible assumption) | (with_reducible exact Below.refl _ _) | ((with_reducible refine Below.stepp (by with_reducible assumption) ?_ ?_); focus (first | omega | (simp; done) | (simp; omega))))), Bx.new _ _ _⟩ ?_
  generalize w2.heap.size = bx
  clear HB HV HH hV2 zB
  rintro W ⟨HB, HV, HH, HX, HBX⟩
  have hE : Hid (eqB X.1 X.1 = true) := eqB_of rfl
  have c0 := HH.c 0 _ rfl
  have c1 := HH.c 1 _ rfl
  go_wp2_with fail
  (with_reducible refine (specCollectSweep_any _ h _ HV).mono ?_); rw [← hX.out]; rintro e w2 ⟨v2, rfl, oH, hB⟩
  have hV2 := oH.rh
  obtain ⟨A3, n3, A3', n3', rfl⟩ := hV2.parts
  have HB := HB.trans (hB.mono HB.size)
  have zB := HB.size
  have HV := HV.below hB
  have HH := HH.below hB
  have HX := HX.below hB
  have HBX := HBX.below hB
  clear hB oH c0 c1
  go_upto_region 6 with fail
  refine Code.gen (fun W => (Below w.heap.size w W ∧ RH W (.agg #[.slice A h.cells.length n, .slice A' h.roots.length n']) h ∧ Bx W bh [.slice A h.cells.length n, .slice A' h.roots.length n'] ∧ RH W (.agg #[.slice A2 X.1.cells.length n2, .slice A2' X.1.roots.length n2']) X.1 ∧ Bx W bx [.slice A2 X.1.cells.length n2, .slice A2' X.1.roots.length n2']) ∧ RH W (.agg #[.slice A3 X.1.cells.length n3, .slice A3' X.1.roots.length n3']) X.1 ∧ Bx W w2.heap.size [.slice A3 X.1.cells.length n3, .slice A3' X.1.roots.length n3']) ⟨⟨(by repeat (first | ((with_reducible refine Below.setc ?_ ?_ _); focus (first | omega | (simp; done) | (simp; omega))) | ((with_reducible refine Below.allocc ?_ ?_ _); focus (first | omega | (simp; done) | (simp; omega))) | (with_reducible refine Below.drew ?_) | (with_reducible refine Below.drewn ?_) | (with_reducible assumption) | (with_reducible exact Below.refl _ _) | ((with_reducible refine Below.stepp (by with_reducible assumption) ?_ ?_); focus (first | omega | (simp; done) | (simp; omega))))), HV.below (by repeat (first | ((with_reducible refine Below.setc ?_ ?_ _); focus (first | omega | (simp; done) | (simp; omega))) | ((with_reducible refine Below.allocc ?_ ?_ _); focus (first | omega | (simp; done) | (simp; omega))) | (with_reducible refine Below.drew ?_) | (with_reducible refine Below.drewn ?_) | (with_reducible assumption) | (with_reducible exact Below.refl _ _) | ((with_reducible refine Below.stepp (by with_reducible assumption) ?_ ?_); focus (first | omega | (simp; done) | (simp; omega))))), HH.below (by repeat (first | ((with_reducible refine Below.setc ?_ ?_ _); focus (first | omega | (simp; done) | (simp; omega))) | ((with_reducible refine Below.allocc ?_ ?_ _); focus (first | omega | (simp; done) | (simp; omega))) | (with_reducible refine Below.drew ?_) | (with_reducible refine Below.drewn ?_) | (with_reducible assumption) | (with_reducible exact Below.refl _ _) | ((with_reducible refine Below.stepp (by with_reducible assumption) ?_ ?_); focus (first | omega | (simp; done) | (simp; omega))))), HX.below (by repeat (first | ((with_reducible refine Below.setc ?_ ?_ _); focus (first | omega | (simp; done) | (simp; omega))) | ((with_reducible refine Below.allocc ?_ ?_ _); focus (first | omega | (simp; done) | (simp; omega))) | (with_reducible refine Below.drew ?_) | (with_reducible refine Below.drewn ?_) | (with_reducible assumption) | (with_reducible exact Below.refl _ _) | ((with_reducible refine Below.stepp (by with_reducible assumption) ?_ ?_); focus (first | omega | (simp; done) | (simp; omega))))), HBX.below (by repeat (first | ((with_reducible refine Below.setc ?_ ?_ _); focus (first | omega | (simp; done) | (simp; omega))) | ((with_reducible refine Below.allocc ?_ ?_ _); focus (first | omega | (simp; done) | (simp; omega))) | (with_reducible refine Below.drew ?_) | (with_reducible refine Below.drewn ?_) | (with_reducible assumption) | (with_reducible exact Below.refl _ _) | ((with_reducible refine Below.stepp (by with_reducible assumption) ?_ ?_); focus (first | omega | (simp; done) | (simp; omega)))))⟩, hV2.below (by repeat (first | ((with_reducible refine Below.setc ?_ ?_ _); focus (first | omega | (simp; done) | (simp; omega))) | ((with_reducible refine Below.allocc ?_ ?_ _); focus (first | omega | (simp; done) | (simp; omega))) | (with_reducible refine Below.drew ?_) | (with_reducible refine Below.drewn ?_) | (with_reducible assumption) | (with_reducible exact Below.refl _ _) | ((with_reducible refine Below.stepp (by with_reducible assumption) ?_ ?_); focus (first | omega | (simp; done) | (simp; omega))))), Bx.new _ _ _⟩ ?_
  generalize w2.heap.size = bw
  clear HB HV HH HX HBX hV2 zB
  rintro W ⟨⟨HB, HV, HH, HX, HBX⟩, HY, HBY⟩
  have c0 := HBX.c 0 _ rfl
  have c1 := HBX.c 1 _ rfl
  have d0 := HBY.c 0 _ rfl
  have d1 := HBY.c 1 _ rfl
  go_wp2_with fail
  (with_reducible refine (sameHeap_any _ _ X.1 X.1 _ HX HY).mono ?_); rw [hE.out]; rintro e w2 ⟨rfl, hB⟩
  have HB := HB.trans (hB.mono HB.size)
  have zB := HB.size
  have HV := HV.below hB
  have HH := HH.below hB
  have HX := HX.below hB
  have HBX := HBX.below hB
  clear hB c0 c1 d0 d1 HY HBY
  rcases bool_ft (validM h) with hva | hva
  · have hX2 : X.2 = -1 := by rw [hX.out, collectSweep_no hva]
    have hXn : X.2 < 0 := by omega
    clear hX2
    go_wp2_with fail
    (with_reducible refine (alive_any _).mono ?_); rintro e w3 ⟨rfl, hB⟩
    have zb := hB.size
    go_wp2_with fail
    go_ret
    exact ⟨rfl, (by repeat (first | ((with_reducible refine Below.setc ?_ ?_ _); focus (first | omega | (simp; done) | (simp; omega))) | ((with_reducible refine Below.allocc ?_ ?_ _); focus (first | omega | (simp; done) | (simp; omega))) | (with_reducible refine Below.drew ?_) | (with_reducible refine Below.drewn ?_) | (with_reducible assumption) | (with_reducible exact Below.refl _ _) | ((with_reducible refine Below.stepp (by with_reducible assumption) ?_ ?_); focus (first | omega | (simp; done) | (simp; omega)))))⟩
  have hXn : ¬ X.2 < 0 := by rw [hX.out, collectSweep_ok hva]; simp
  obtain ⟨Z, hZ⟩ : ∃ Z, Hid (Z = copyHeapM h) := ⟨_, rfl⟩
  have HL : Hid (copyHeapM X.1 = Z ∧ copyHeapM (slideHeapM h) = Z) := by rw [hX.out, hZ.out]; exact law_SweepCopy hva
  have hE2 : Hid (eqB Z Z = true) := eqB_of rfl
  have c0 := HH.c 0 _ rfl
  have c1 := HH.c 1 _ rfl
  clear hva
  go_wp2_with fail
  (with_reducible refine (implCopyHeap_any _ h _ HV).mono ?_); rw [← hZ.out]; rintro e w3 ⟨v3, rfl, oH, hB⟩
  have hV3 := oH.rh
  obtain ⟨A4, n4, A4', n4', rfl⟩ := hV3.parts
  have HB := HB.trans (hB.mono HB.size)
  have zB := HB.size
  have HV := HV.below hB
  have HH := HH.below hB
  have HX := HX.below hB
  have HBX := HBX.below hB
  clear hB oH c0 c1
  go_upto_region 11 with fail
  refine Code.gen (fun W => (Below w.heap.size w W ∧ RH W (.agg #[.slice A h.cells.length n, .slice A' h.roots.length n']) h ∧ Bx W bh [.slice A h.cells.length n, .slice A' h.roots.length n'] ∧ RH W (.agg #[.slice A2 X.1.cells.length n2, .slice A2' X.1.roots.length n2']) X.1 ∧ Bx W bx [.slice A2 X.1.cells.length n2, .slice A2' X.1.roots.length n2']) ∧ RH W (.agg #[.slice A4 Z.cells.length n4, .slice A4' Z.roots.length n4']) Z ∧ Bx W w3.heap.size [.slice A4 Z.cells.length n4, .slice A4' Z.roots.length n4']) ⟨⟨(by repeat (first | ((with_reducible refine Below.setc ?_ ?_ _); focus (first | omega | (simp; done) | (simp; omega))) | ((with_reducible refine Below.allocc ?_ ?_ _); focus (first | omega | (simp; done) | (simp; omega))) | (with_reducible refine Below.drew ?_) | (with_reducible refine Below.drewn ?_) | (with_reducible assumption) | (with_reducible exact Below.refl _ _) | ((with_reducible refine Below.stepp (by with_reducible assumption) ?_ ?_); focus (first | omega | (simp; done) | (simp; omega))))), HV.below (by repeat (first | ((with_reducible refine Below.setc ?_ ?_ _); focus (first | omega | (simp; done) | (simp; omega))) | ((with_reducible refine Below.allocc ?_ ?_ _); focus (first | omega | (simp; done) | (simp; omega))) | (with_reducible refine Below.drew ?_) | (with_reducible refine Below.drewn ?_) | (with_reducible assumption) | (with_reducible exact Below.refl _ _) | ((with_reducible refine Below.stepp (by with_reducible assumption) ?_ ?_); focus (first | omega | (simp; done) | (simp; omega))))), HH.below (by repeat (first | ((with_reducible refine Below.setc ?_ ?_ _); focus (first | omega | (simp; done) | (simp; omega))) | ((with_reducible refine Below.allocc ?_ ?_ _); focus (first | omega | (simp; done) | (simp; omega))) | (with_reducible refine Below.drew ?_) | (with_reducible refine Below.drewn ?_) | (with_reducible assumption) | (with_reducible exact Below.refl _ _) | ((with_reducible refine Below.stepp (by with_reducible assumption) ?_ ?_); focus (first | omega | (simp; done) | (simp; omega))))), HX.below (by repeat (first | ((with_reducible refine Below.setc ?_ ?_ _); focus (first | omega | (simp; done) | (simp; omega))) | ((with_reducible refine Below.allocc ?_ ?_ _); focus (first | omega | (simp; done) | (simp; omega))) | (with_reducible refine Below.drew ?_) | (with_reducible refine Below.drewn ?_) | (with_reducible assumption) | (with_reducible exact Below.refl _ _) | ((with_reducible refine Below.stepp (by with_reducible assumption) ?_ ?_); focus (first | omega | (simp; done) | (simp; omega))))), HBX.below (by repeat (first | ((with_reducible refine Below.setc ?_ ?_ _); focus (first | omega | (simp; done) | (simp; omega))) | ((with_reducible refine Below.allocc ?_ ?_ _); focus (first | omega | (simp; done) | (simp; omega))) | (with_reducible refine Below.drew ?_) | (with_reducible refine Below.drewn ?_) | (with_reducible assumption) | (with_reducible exact Below.refl _ _) | ((with_reducible refine Below.stepp (by with_reducible assumption) ?_ ?_); focus (first | omega | (simp; done) | (simp; omega)))))⟩, hV3.below (by repeat (first | ((with_reducible refine Below.setc ?_ ?_ _); focus (first | omega | (simp; done) | (simp; omega))) | ((with_reducible refine Below.allocc ?_ ?_ _); focus (first | omega | (simp; done) | (simp; omega))) | (with_reducible refine Below.drew ?_) | (with_reducible refine Below.drewn ?_) | (with_reducible assumption) | (with_reducible exact Below.refl _ _) | ((with_reducible refine Below.stepp (by with_reducible assumption) ?_ ?_); focus (first | omega | (simp; done) | (simp; omega))))), Bx.new _ _ _⟩ ?_
  generalize w3.heap.size = bz
  clear HB HV HH HX HBX hV3 zB
  rintro W ⟨⟨HB, HV, HH, HX, HBX⟩, HZ, HBZ⟩
  refine wp_region_R (by kernel_rfl) (fun R wd hR hwd => ?_)
  have hBd : Below W.heap.size W wd := by rw [hwd]; exact (by repeat (first | ((with_reducible refine Below.setc ?_ ?_ _); focus (first | omega | (simp; done) | (simp; omega))) | ((with_reducible refine Below.allocc ?_ ?_ _); focus (first | omega | (simp; done) | (simp; omega))) | (with_reducible refine Below.drew ?_) | (with_reducible refine Below.drewn ?_) | (with_reducible assumption) | (with_reducible exact Below.refl _ _) | ((with_reducible refine Below.stepp (by with_reducible assumption) ?_ ?_); focus (first | omega | (simp; done) | (simp; omega)))))
  have HB := HB.trans (hBd.mono HB.size)
  have HV := HV.below hBd
  have HH := HH.below hBd
  have HX := HX.below hBd
  have HBX := HBX.below hBd
  have HZ := HZ.below hBd
  have HBZ := HBZ.below hBd
  clear hwd hBd
  refine rel_at (fr := ?fr_0) hR (fun f W => (Below w.heap.size w W ∧ RH W (.agg #[.slice A h.cells.length n, .slice A' h.roots.length n']) h ∧ Bx W bh [.slice A h.cells.length n, .slice A' h.roots.length n'] ∧ RH W (.agg #[.slice A2 X.1.cells.length n2, .slice A2' X.1.roots.length n2']) X.1 ∧ Bx W bx [.slice A2 X.1.cells.length n2, .slice A2' X.1.roots.length n2']) ∧ RH W (.agg #[.slice A4 Z.cells.length n4, .slice A4' Z.roots.length n4']) Z ∧ Bx W bz [.slice A4 Z.cells.length n4, .slice A4' Z.roots.length n4']) [(fun v W => v = (.agg #[.slice A2 X.1.cells.length n2, .slice A2' X.1.roots.length n2'])), (fun v W => RH W v Z), (fun v W => v = (.agg #[.slice A4 Z.cells.length n4, .slice A4' Z.roots.length n4'])), (fun v W => v = .bool true), tt, tt, tt, tt, tt, tt, tt, tt] (fun W W' => Below W.heap.size W W') [(0, []), (1, [0]), (2, []), (3, [1, 0, 2]), (4, [0, 1, 2, 3]), (5, [0, 1, 2, 3]), (6, [0, 1, 2, 3]), (7, [0, 1, 2, 3]), (8, [0, 1, 2, 3]), (9, [0, 1, 2, 3]), (10, [0, 1, 2, 3]), (11, [0, 1, 2, 3])] [(38, 0), (39, 1), (40, 2), (41, 3)] [0, 1, 2, 3] #[true, true, true, true, false, false, false, false, false, false, false, false] 12 8 (by kernel_rfl) (by kernel_rfl) ?hfr_0 ?h0_0 ?mono_0 ?steps_0 ?_
  case hfr_0 => intro x; (simp [frOf, fill, Act.put, List.lookup]; with_reducible rfl)
  case h0_0 => exact ⟨⟨HB, HV, HH, HX, HBX⟩, HZ, HBZ⟩
  case mono_0 => exact (Pm.cons (fun _ _ _ _ h => h) (Pm.cons (fun _ _ _ hG h => h.below hG) (Pm.cons (fun _ _ _ _ h => h) (Pm.cons (fun _ _ _ _ h => h) (Pm.cons (fun _ _ _ _ h => h) (Pm.cons (fun _ _ _ _ h => h) (Pm.cons (fun _ _ _ _ h => h) (Pm.cons (fun _ _ _ _ h => h) (Pm.cons (fun _ _ _ _ h => h) (Pm.cons (fun _ _ _ _ h => h) (Pm.cons (fun _ _ _ _ h => h) (Pm.cons (fun _ _ _ _ h => h) Pm.nil))))))))))))
  case steps_0 =>
    refine Steps.cons (RStep.of rfl fun x W f hI hD K9 hK => ?_) ?_
    · clear hD
      have c0 := hI.1.2.2.2.2.c 0 _ rfl
      have c1 := hI.1.2.2.2.2.c 1 _ rfl
      go_simp
      exact hK ((.agg #[.slice A2 X.1.cells.length n2, .slice A2' X.1.roots.length n2'])) _ _ (by kernel_rfl) (Below.refl _ _) (hI) rfl
    refine Steps.cons (RStep.of rfl fun x W f hI hD K9 hK => ?_) ?_
    · have e0 : x 0 = (.agg #[.slice A2 X.1.cells.length n2, .slice A2' X.1.roots.length n2']) := hD 0 (by decide)
      clear hD
      simp only [e0] at hK ⊢
      go_wp2_with fail
      (with_reducible refine (implCopyHeap_any _ X.1 _ hI.1.2.2.2.1).mono ?_); rw [HL.out.1]
      rintro e w6 ⟨v6, rfl, oH, hB⟩
      exact hK v6 _ _ (by kernel_rfl) hB ⟨⟨hI.1.1.trans (hB.mono hI.1.1.size), hI.1.2.1.below hB, hI.1.2.2.1.below hB, hI.1.2.2.2.1.below hB, hI.1.2.2.2.2.below hB⟩, hI.2.1.below hB, hI.2.2.below hB⟩ oH.rh
    refine Steps.cons (RStep.of rfl fun x W f hI hD K9 hK => ?_) ?_
    · clear hD
      have c0 := hI.2.2.c 0 _ rfl
      have c1 := hI.2.2.c 1 _ rfl
      go_simp
      exact hK ((.agg #[.slice A4 Z.cells.length n4, .slice A4' Z.roots.length n4'])) _ _ (by kernel_rfl) (Below.refl _ _) (hI) rfl
    refine Steps.cons (RStep.of rfl fun x W f hI hD K9 hK => ?_) ?_
    · have h1 : (fun v W => RH W v Z) (x 1) W := hD 1 (by decide)
      have e2 : x 2 = (.agg #[.slice A4 Z.cells.length n4, .slice A4' Z.roots.length n4']) := hD 2 (by decide)
      clear hD
      simp only [e2] at hK ⊢
      go_wp2_with fail
      (with_reducible refine (sameHeap_any (x 1) _ Z Z _ h1 hI.2.1).mono ?_); rw [hE2.out]
      rintro e w6 ⟨rfl, hB⟩
      exact hK _ _ _ (by kernel_rfl) hB ⟨⟨hI.1.1.trans (hB.mono hI.1.1.size), hI.1.2.1.below hB, hI.1.2.2.1.below hB, hI.1.2.2.2.1.below hB, hI.1.2.2.2.2.below hB⟩, hI.2.1.below hB, hI.2.2.below hB⟩ rfl
    exact Steps.nil
  intro x W hI hV
  have e0 : x 0 = (.agg #[.slice A2 X.1.cells.length n2, .slice A2' X.1.roots.length n2']) := hV 0 (by decide)
  have h1 : (fun v W => RH W v Z) (x 1) W := hV 1 (by decide)
  have e2 : x 2 = (.agg #[.slice A4 Z.cells.length n4, .slice A4' Z.roots.length n4']) := hV 2 (by decide)
  have e3 : x 3 = .bool true := hV 3 (by decide)
  clear hV
  simp only [e0, e2, e3]
  clear h1
  rw [hR]
  (refine wpAny_take (i := 4) (v := ?v8_u1) rfl (by kernel_rfl) (by kernel_rfl) (by kernel_rfl) (fun _ _ _ h => h) (Or.inl ⟨by kernel_rfl, ?h8_u1⟩) ?r8_u1; (case h8_u1 => (intro w9; go_simp; try with_reducible rfl)))
  rw [← hR]
  refine R_norm (a' := ?a8_u2) ?n8_u2 ?_
  case n8_u2 => (simp [Act.put]; with_reducible rfl)
  rw [hR]
  rw [← hR]
  have hI0 := hI
  clear hI
  refine rel_at (fr := ?fr_3) hR (fun f W => (Below w.heap.size w W ∧ RH W (.agg #[.slice A h.cells.length n, .slice A' h.roots.length n']) h ∧ Bx W bh [.slice A h.cells.length n, .slice A' h.roots.length n'] ∧ RH W (.agg #[.slice A2 X.1.cells.length n2, .slice A2' X.1.roots.length n2']) X.1 ∧ Bx W bx [.slice A2 X.1.cells.length n2, .slice A2' X.1.roots.length n2']) ∧ RH W (.agg #[.slice A4 Z.cells.length n4, .slice A4' Z.roots.length n4']) Z ∧ Bx W bz [.slice A4 Z.cells.length n4, .slice A4' Z.roots.length n4']) [tt, tt, tt, tt, tt, (fun v W => v = (.agg #[.slice A h.cells.length n, .slice A' h.roots.length n'])), (fun v W => RH W v (slideHeapM h)), (fun v W => RH W v Z), (fun v W => v = (.agg #[.slice A4 Z.cells.length n4, .slice A4' Z.roots.length n4'])), (fun v W => v = .bool true), tt, tt] (fun W W' => Below W.heap.size W W') [(5, []), (6, [5]), (7, [6, 5]), (8, []), (9, [7, 6, 5, 8]), (10, [5, 6, 7, 8, 9]), (11, [5, 6, 7, 8, 9])] [(43, 5), (44, 6), (45, 7), (46, 8), (47, 9)] [5, 6, 7, 8, 9] #[true, true, true, true, true, true, true, true, true, true, false, false] 7 2 (by kernel_rfl) (by kernel_rfl) ?hfr_3 ?h0_3 ?mono_3 ?steps_3 ?_
  case hfr_3 => intro x; (simp [frOf, fill, Act.put, List.lookup]; with_reducible rfl)
  case h0_3 => exact hI0
  case mono_3 => exact (Pm.cons (fun _ _ _ _ h => h) (Pm.cons (fun _ _ _ _ h => h) (Pm.cons (fun _ _ _ _ h => h) (Pm.cons (fun _ _ _ _ h => h) (Pm.cons (fun _ _ _ _ h => h) (Pm.cons (fun _ _ _ _ h => h) (Pm.cons (fun _ _ _ hG h => h.below hG) (Pm.cons (fun _ _ _ hG h => h.below hG) (Pm.cons (fun _ _ _ _ h => h) (Pm.cons (fun _ _ _ _ h => h) (Pm.cons (fun _ _ _ _ h => h) (Pm.cons (fun _ _ _ _ h => h) Pm.nil))))))))))))
  case steps_3 =>
    refine Steps.cons (RStep.of rfl fun x W f hI hD K9 hK => ?_) ?_
    · clear hD
      have c0 := hI.1.2.2.1.c 0 _ rfl
      have c1 := hI.1.2.2.1.c 1 _ rfl
      go_simp
      exact hK ((.agg #[.slice A h.cells.length n, .slice A' h.roots.length n'])) _ _ (by kernel_rfl) (Below.refl _ _) (hI) rfl
    refine Steps.cons (RStep.of rfl fun x W f hI hD K9 hK => ?_) ?_
    · have e5 : x 5 = (.agg #[.slice A h.cells.length n, .slice A' h.roots.length n']) := hD 5 (by decide)
      clear hD
      simp only [e5] at hK ⊢
      go_wp2_with fail
      (with_reducible refine (implSlideHeap_any _ h _ hI.1.2.1).mono ?_)
      rintro e w6 ⟨v6, rfl, oH, hB⟩
      exact hK v6 _ _ (by kernel_rfl) hB ⟨⟨hI.1.1.trans (hB.mono hI.1.1.size), hI.1.2.1.below hB, hI.1.2.2.1.below hB, hI.1.2.2.2.1.below hB, hI.1.2.2.2.2.below hB⟩, hI.2.1.below hB, hI.2.2.below hB⟩ oH.rh
    refine Steps.cons (RStep.of rfl fun x W f hI hD K9 hK => ?_) ?_
    · have h6 : (fun v W => RH W v (slideHeapM h)) (x 6) W := hD 6 (by decide)
      clear hD
      go_wp2_with fail
      (with_reducible refine (implCopyHeap_any (x 6) (slideHeapM h) _ h6).mono ?_); rw [HL.out.2]
      rintro e w6 ⟨v6, rfl, oH, hB⟩
      exact hK v6 _ _ (by kernel_rfl) hB ⟨⟨hI.1.1.trans (hB.mono hI.1.1.size), hI.1.2.1.below hB, hI.1.2.2.1.below hB, hI.1.2.2.2.1.below hB, hI.1.2.2.2.2.below hB⟩, hI.2.1.below hB, hI.2.2.below hB⟩ oH.rh
    refine Steps.cons (RStep.of rfl fun x W f hI hD K9 hK => ?_) ?_
    · clear hD
      have c0 := hI.2.2.c 0 _ rfl
      have c1 := hI.2.2.c 1 _ rfl
      go_simp
      exact hK ((.agg #[.slice A4 Z.cells.length n4, .slice A4' Z.roots.length n4'])) _ _ (by kernel_rfl) (Below.refl _ _) (hI) rfl
    refine Steps.cons (RStep.of rfl fun x W f hI hD K9 hK => ?_) ?_
    · have h7 : (fun v W => RH W v Z) (x 7) W := hD 7 (by decide)
      have e8 : x 8 = (.agg #[.slice A4 Z.cells.length n4, .slice A4' Z.roots.length n4']) := hD 8 (by decide)
      clear hD
      simp only [e8] at hK ⊢
      go_wp2_with fail
      (with_reducible refine (sameHeap_any (x 7) _ Z Z _ h7 hI.2.1).mono ?_); rw [hE2.out]
      rintro e w6 ⟨rfl, hB⟩
      exact hK _ _ _ (by kernel_rfl) hB ⟨⟨hI.1.1.trans (hB.mono hI.1.1.size), hI.1.2.1.below hB, hI.1.2.2.1.below hB, hI.1.2.2.2.1.below hB, hI.1.2.2.2.2.below hB⟩, hI.2.1.below hB, hI.2.2.below hB⟩ rfl
    exact Steps.nil
  intro x W hI hV
  have e5 : x 5 = (.agg #[.slice A h.cells.length n, .slice A' h.roots.length n']) := hV 5 (by decide)
  have h6 : (fun v W => RH W v (slideHeapM h)) (x 6) W := hV 6 (by decide)
  have h7 : (fun v W => RH W v Z) (x 7) W := hV 7 (by decide)
  have e8 : x 8 = (.agg #[.slice A4 Z.cells.length n4, .slice A4' Z.roots.length n4']) := hV 8 (by decide)
  have e9 : x 9 = .bool true := hV 9 (by decide)
  clear hV
  simp only [e5, e8, e9]
  clear h6 h7
  rw [hR]
  (refine wpAny_take (i := 10) (v := ?v8_u4) rfl (by kernel_rfl) (by kernel_rfl) (by kernel_rfl) (fun _ _ _ h => h) (Or.inl ⟨by kernel_rfl, ?h8_u4⟩) ?r8_u4; (case h8_u4 => (intro w9; go_simp; try with_reducible rfl)))
  (refine wpAny_take (i := 11) (v := ?v8_u5) rfl (by kernel_rfl) (by kernel_rfl) (by kernel_rfl) (fun _ _ _ h => h) (Or.inl ⟨by kernel_rfl, ?h8_u5⟩) ?r8_u5; (case h8_u5 => (intro w9; go_simp; try with_reducible rfl)))
  rw [← hR]
  refine R_norm (a' := ?a8_u6) ?n8_u6 ?_
  case n8_u6 => (simp [Act.put]; with_reducible rfl)
  rw [hR]
  refine wpAny_done (by kernel_rfl) ?_ _
  go_wp2_with fail
  go_ret
  exact ⟨rfl, hI.1.1⟩
end Go.Proofs.Ytngmkflmjjkjaaa
