/- The reference's drawing: heaps. -/
import Derived.Test.YtkikeanpbffpkaaChecked
import Derived.Deep.QuietTactic
import Derived.BigQuiet
import Derived.IntWalk
import Derived.Deep.RegionWith
import Derived.Deep.DeepCutAuto
import Derived.Deep.CutBlock
import Derived.Test.YtkikeanpbffpkaaGrDraw
import Derived.Test.YtkikeanpbffpkaaDrawH
import Derived.Test.YtkikeanpbffpkaaGrCtx
import Derived.Test.YtkikeanpbffpkaaAppC
import Derived.Test.YtkikeanpbffpkaaRunH
import Derived.Test.YtkikeanpbffpkaaCloD
import Derived.Test.YtkikeanpbffpkaaGrData
import Derived.Test.YtkikeanpbffpkaaGrIso
namespace Go.Proofs.Ytkikeanpbffpkaa
open Go.RowKit
set_option maxRecDepth 100000
set_option linter.unusedSimpArgs false
set_option linter.unusedVariables false
theorem valid_refs {os : List OCell} {rs : List Int} (h : validM ⟨os.map (·.c), rs⟩ = true) {o : OCell} (ho : o ∈ os) : o.c.refs.length ≤ 1048576 := by
  simp only [validM, Bool.and_eq_true, List.all_eq_true] at h
  have h1 := h.1 o.c (List.mem_map_of_mem ho)
  unfold cellOkM at h1
  split at h1
  · simp at h1; omega
  · simp at h1; rw [h1.2]; simp
theorem refs_set {os : List OCell} {k : Nat} {o p : OCell} {B : Nat} (h : ∀ x ∈ os, x.c.refs.length ≤ B) (ho : o ∈ os) (hp : p.c.refs.length = o.c.refs.length) : ∀ x ∈ os.set k p, x.c.refs.length ≤ B := by
  intro x hx
  rcases List.mem_or_eq_of_mem_set hx with hx | rfl
  · exact h x hx
  · rw [hp]; exact h o ho
theorem OH.parts {lo : Nat} {w : World} {v : Value} {h : HeapM} (hh : OH lo w v h) : ∃ A c A' c' os, v = .agg #[.slice A os.length c, .slice A' h.roots.length c'] ∧ os.map (·.c) = h.cells ∧ OHs w A c A' c' os h.roots ∧ ∀ g ∈ hblks A os A', lo ≤ g := by
  obtain ⟨A, c, A', c', os, rfl, hm, hO, hlo⟩ := hh
  exact ⟨A, c, A', c', os, by rw [← hm]; simp, hm, hO, hlo⟩
set_option maxHeartbeats 8000000 in
theorem l20Heap_any (lo g K : Nat) (n : Int) (w : World) (h : Rd lo w g (K + 1200)) (hn1 : 0 ≤ n) (hn2 : n ≤ 1048576) :
    Calls Try.prog 60 #[.pointer (some ⟨g, 0, none⟩), .int .i64 n] w fun e w' => ∃ v hm, e = .returned v ∧ SR w.heap.size w' v hm ∧ Only [g] w w' ∧ Rd lo w' g K := by
  have H := Lib.hid h
  clear h
  have hlt := H.out.lt
  go_enter Try.func60, Try.ntmps60
  go_wp2_with fail
  (with_reducible refine (l20Program_any lo g (K + 200) 0 _ (H.out.below blw_) (by omega) (by omega)).mono ?_); rintro e w1 ⟨L, S, cS, rfl, hS, hSB, hL, hok, hO1, hR1⟩
  have hv1 : Hid (validM (runM L) = true) := valid_run (hok rfl)
  have hz1 := hO1.size
  have hzz : w.heap.size < w1.heap.size := by simp at hz1; omega
  have HR1 := Lib.hid hR1
  have HO1 : Hid (Only [g] w w1) := (Only.alloc (Only.refl _ _) _).trans hO1
  have hq : w1.heap[w.heap.size]? = _ := (hO1.block w.heap.size (by simp) (by simp; omega)).trans (heap_alloc_at _ _ _ (by simp))
  have HQ := Lib.hid hq
  have HS1 := Lib.hid hS.ro
  clear hS hSB hok hO1 hR1 hq
  go_wp2_with fail
  (with_reducible refine (specRunHeap_any S L cS _ HS1.out (by omega)).mono ?_); rintro e w2 ⟨v2, rfl, oH, hB2⟩
  obtain ⟨A, c, A', c', os, rfl, hmap, hOH, hlo⟩ := oH.parts
  have hr4 : Hid ((runM L).roots.length = 4) := by have := hv1.out; unfold validM at this; simp at this; unfold Hid; omega
  have hc40 : os.length ≤ 40 := by have := hv1.out; unfold validM at this; simp at this; rw [← hmap] at this; simp at this; omega
  have hz2 := hB2.size
  generalize hrs : (runM L).roots = rs at *
  clear oH
  go_wp2_with fail
  refine Calls.gen (fun W => HS g w.heap.size w2.heap.size W A c A' c' os rs ∧ Only [g] w W ∧ Rd lo W g (K + 200)) ?_ ?_
  · have hB3 : Below w1.heap.size w1 (w2.alloc (.cells #[.slice A os.length c, .slice A' rs.length c'] 26)) := blw_
    have hB4 : Below w2.heap.size w2 (w2.alloc (.cells #[.slice A os.length c, .slice A' rs.length c'] 26)) := blw_
    have hq := (hB3.block w.heap.size hzz).trans HQ.out
    refine ⟨⟨hOH.below hB4, fun x hx => ?_, by simp [go_sem], by simp [go_sem], fun o => by simp [go_sem], ?_, ?_, fun o => ?_, hlt.1, by omega, by simp⟩, HO1.out.trans (Only.of_below hB3), HR1.out.below hB3⟩
    · have h1 := hlo x hx
      have h2 := hOH.lt x hx
      omega
    · exact cell_of_row _ _ 0 _ _ _ hq
    · exact cell_of_row _ _ 1 _ _ _ hq
    · simp [World.frozen?, hq]
  have hm1 : Hid (validM ⟨os.map (·.c), rs⟩ = true) := by have h9 := hv1.out; unfold Hid; rw [hmap, ← hrs]; exact h9
  generalize w2.heap.size = b5
  clear hB2 hOH hlo hmap hr4 hc40 HQ HS1 HO1 HR1 hz1 hzz hz2 hv1
  clear hrs
  rintro W ⟨HH, HO, HR⟩
  (with_reducible refine (pick_any lo g (K + 199) 3 _ HR (by omega) (by omega)).mono ?_); rintro e w3 ⟨x, rfl, hx, -, hO1, hR1⟩
  have HH1 := HH.only hO1
  have HO2 := HO.trans hO1
  have hx3 := hx (by omega)
  clear HH HO HR hx hO1
  go_upto_if 14 with fail
  go_cut [] (fun W => ∃ A c A' c' os rs, HS g w.heap.size b5 W A c A' c' os rs ∧ Only [g] w W ∧ Rd lo W g (K + 199) ∧ Hid (validM ⟨os.map (·.c), rs⟩ = true))
  case first =>
    rcases (by omega : x = 0 ∨ 0 < x) with hx0 | hx0
    · subst hx0
      have p0 := HH1.p0
      have p1 := HH1.p1
      go_wp2_with fail
      (with_reducible refine (specCollectSweep_any _ ⟨os.map (·.c), rs⟩ _ HH1.sr.now).mono ?_); rintro e w4 ⟨v4, rfl, oH, hB⟩
      obtain ⟨A2, c2, A2', c2', os2, rfl, hmap, hOH, hlo⟩ := oH.parts
      have zb := hB.size
      have f0 := HH1.pf 0
      have f1 := HH1.pf 1
      have fb0 := (bcell hB).2.1 b5 0 HH1.d3
      have fb1 := (bcell hB).2.1 b5 1 HH1.d3
      have p0 := cell_below p0 hB
      have p1 := cell_below p1 hB
      go_wp2_with fail
      go_meet
      have HH4 := HH1.below hB
      have h2 := HH1.d1
      have h3 := HH1.d2
      have h4 := HH1.d3
      refine ⟨A2, c2, A2', c2', os2, _, HH4.put hOH (fun y hy => ?_), HH4.put_only _ _ (HO2.trans (Only.of_below hB)) (by have := HH4.d2; omega), (hR1.below hB).keep blw_, ?_⟩
      · have h1 := hlo y hy
        omega
      · have h9 := collectSweep_valid hm1.out
        unfold Hid
        rw [hmap]
        exact h9
    · have hx1 : ((x : Int) == 0) = false := by rw [beq_eq_false_iff_ne]; omega
      go_wp2_with fail
      go_meet
      exact ⟨A, c, A', c', os, rs, HH1, HO2, hR1, hm1⟩
  case rest =>
    obtain ⟨A, c, A', c', os, rs, HH, HO, HR, hm1⟩ := hcut
    have hr4 : Hid (rs.length = 4) := by have := hm1.out; unfold validM at this; simp at this; unfold Hid; omega
    have hc40 : os.length ≤ 40 := by have := hm1.out; unfold validM at this; simp at this; omega
    have hrl : Hid (∀ o ∈ os, o.c.refs.length ≤ 1048576) := fun o ho => valid_refs hm1.out ho
    clear hm1
    go_wp2_with fail
    (with_reducible refine (pick_any lo g (K + 198) 6 _ HR (by omega) (by omega)).mono ?_); rintro e w3 ⟨x, rfl, hx, -, hO1, hR1⟩
    have hx6 := hx (by omega)
    have HH1 := HH.only hO1
    have HO2 := HO.trans hO1
    clear HH HO HR hx hO1
    go_upto_block 0 with fail
    go_cut [6, 7, 8] (fun s6 s7 s8 W => ∃ A c A' c' os rs, HS g w.heap.size b5 W A c A' c' os rs ∧ Only [g] w W ∧ Rd lo W g (K + 20) ∧ Hid (rs.length = 4) ∧ os.length ≤ 40)
    case first =>
      go_wp2_with fail
      go_loopw [6] (fun s6 W => ∃ (j : Nat) (A : Option Addr) (c : Nat) (A' : Option Addr) (c' : Nat) (os : List OCell) (rs : List Int), s6 = .int .i64 (j : Int) ∧ j ≤ 5 ∧ HS g w.heap.size b5 W A c A' c' os rs ∧ Only [g] w W ∧ Rd lo W g (K + 20 + 30 * j) ∧ Hid (rs.length = 4) ∧ os.length ≤ 40 ∧ Hid (∀ o ∈ os, o.c.refs.length ≤ 1048576)) (fun s6 _ => (intOf s6).toNat)
      case atStart => exact ⟨x, A, c, A', c', os, rs, rfl, by omega, HH1, HO2, hR1.le (by omega), hr4, hc40, hrl⟩
      case round =>
        clear HH1 HO2 hR1 hr4 hc40 hrl hx6
        obtain ⟨j, A, c, A', c', os, rs, rfl, hj, HH, HO, HR, hr4, hc40, hrl⟩ := hrel
        have p0 := HH.p0
        by_cases hgo : 0 < j ∧ 0 < os.length
        · obtain ⟨hj0, hl0⟩ := hgo
          have hl0i : (0 : Int) < (os.length : Int) := by omega
          have hj0i : (0 : Int) < (j : Int) := by omega
          go_wp2_with fail
          (with_reducible refine (pick_any lo g (K + 19 + 30 * j) os.length _ (HR.le (by omega)) (by omega) (by omega)).mono ?_); rintro e w3 ⟨at_, rfl, hx, -, hO1, hR1⟩
          have hat := hx (by omega)
          have HH1 := HH.only hO1
          have HO1 := HO.trans hO1
          clear HH HO HR hx hO1 p0
          have p0 := HH1.p0
          go_wp2_with fail
          (with_reducible refine (pick_any lo g (K + 18 + 30 * j) os.length _ (hR1.le (by omega)) (by omega) (by omega)).mono ?_); rintro e w4 ⟨to_, rfl, hx, -, hO2, hR2⟩
          have hto := hx (by omega)
          have HH2 := HH1.only hO2
          have HO2 := HO1.trans hO2
          clear HH1 HO1 hR1 hx hO2 p0
          have p0 := HH2.p0
          obtain ⟨o, ho⟩ : ∃ o, os[at_]? = some o := ⟨os[at_]'(by omega), List.getElem?_eq_getElem _⟩
          obtain ⟨o2, ho2⟩ : ∃ o, os[to_]? = some o := ⟨os[to_]'(by omega), List.getElem?_eq_getElem _⟩
          obtain ⟨gA, hA⟩ := HH2.some_ (by omega)
          subst hA
          obtain ⟨a0, a1, a2⟩ := HH2.at_ ho
          obtain ⟨b0, b1, b2⟩ := HH2.at_ ho2
          have ia : (0 : Int) ≤ (at_ : Int) ∧ (at_ : Int) < (os.length : Int) := by omega
          have ib : (0 : Int) ≤ (to_ : Int) ∧ (to_ : Int) < (os.length : Int) := by omega
          have Ho := Lib.hid ho
          clear ho ho2 b1 b2 a1
          rcases bool_ft o.c.used with hu | hu
          · rw [hu] at a0
            go_wp2_with fail
            go_roundw
            case rel => exact ⟨j - 1, some ⟨gA, 0, none⟩, c, A', c', os, rs, by rw [show ((j - 1 : Nat) : Int) = (j : Int) - 1 by omega], by omega, HH2, HO2, hR2.le (by omega), hr4, hc40, hrl⟩
            case measure => simp [intOf]; omega
          rcases bool_ft o2.c.used with hu2 | hu2
          · rw [hu] at a0
            rw [hu2] at b0
            go_wp2_with fail
            go_roundw
            case rel => exact ⟨j - 1, some ⟨gA, 0, none⟩, c, A', c', os, rs, by rw [show ((j - 1 : Nat) : Int) = (j : Int) - 1 by omega], by omega, HH2, HO2, hR2.le (by omega), hr4, hc40, hrl⟩
            case measure => simp [intOf]; omega
          by_cases hrz : o.c.refs.length = 0
          · rw [hu] at a0
            rw [hu2] at b0
            rw [hrz] at a2
            go_wp2_with fail
            go_roundw
            case rel => exact ⟨j - 1, some ⟨gA, 0, none⟩, c, A', c', os, rs, by rw [show ((j - 1 : Nat) : Int) = (j : Int) - 1 by omega], by omega, HH2, HO2, hR2.le (by omega), hr4, hc40, hrl⟩
            case measure => simp [intOf]; omega
          rw [hu] at a0
          rw [hu2] at b0
          have hrl1 : (0 : Int) < (o.c.refs.length : Int) := by omega
          have hcapr := hrl.out o (List.mem_of_getElem? Ho.out)
          go_wp2_with fail
          obtain ⟨gr, hAr⟩ := HH2.refs_ Ho.out (by omega)
          have HAr := Lib.hid hAr
          refine wp_region_R (by kernel_rfl) (fun R wd hR hwd => ?_)
          have HH3 : HS g w.heap.size b5 wd (some ⟨gA, 0, none⟩) c A' c' os rs := by rw [hwd]; exact HH2.below blw_
          have HO3 : Only [g] w wd := by rw [hwd]; exact HO2.drew
          have HR3 : Rd lo wd g (K + 18 + 30 * j) := by rw [hwd]; exact hR2.below blw_
          clear HH2 HO2 hR2 hwd a0 a2 b0 p0 hAr
          rw [hR]
          (refine wpAny_take (i := 0) (v := ?v9_0_u0) rfl (by kernel_rfl) (by kernel_rfl) (by kernel_rfl) (fun _ _ _ h => h) (Or.inl ⟨by kernel_rfl, ?h9_0_u0⟩) ?r9_0_u0; (case h9_0_u0 => (intro w9; go_simp; try with_reducible rfl)))
          (refine wpAny_take (i := 2) (v := ?v9_2_u0) rfl (by kernel_rfl) (by kernel_rfl) (by kernel_rfl) (fun _ _ _ h => h) (Or.inl ⟨by kernel_rfl, ?h9_2_u0⟩) ?r9_2_u0; (case h9_2_u0 => (intro w9; go_simp; try with_reducible rfl)))
          (refine wpAny_take (i := 6) (v := ?v9_6_u0) rfl (by kernel_rfl) (by kernel_rfl) (by kernel_rfl) (fun _ _ _ h => h) (Or.inl ⟨by kernel_rfl, ?h9_6_u0⟩) ?r9_6_u0; (case h9_6_u0 => (intro w9; go_simp; try with_reducible rfl)))
          (refine wpAny_take (i := 7) (v := ?v9_7_u0) rfl (by kernel_rfl) (by kernel_rfl) (by kernel_rfl) (fun _ _ _ h => h) (Or.inl ⟨by kernel_rfl, ?h9_7_u0⟩) ?r9_7_u0; (case h9_7_u0 => (intro w9; go_simp; try with_reducible rfl)))
          (refine wpAny_take (i := 9) (v := ?v9_9_u0) rfl (by kernel_rfl) (by kernel_rfl) (by kernel_rfl) (fun _ _ _ h => h) (Or.inl ⟨by kernel_rfl, ?h9_9_u0⟩) ?r9_9_u0; (case h9_9_u0 => (intro w9; go_simp; try with_reducible rfl)))
          (refine wpAny_take (i := 15) (v := ?v9_15_u0) rfl (by kernel_rfl) (by kernel_rfl) (by kernel_rfl) (fun _ _ _ h => h) (Or.inl ⟨by kernel_rfl, ?h9_15_u0⟩) ?r9_15_u0; (case h9_15_u0 => (intro w9; go_simp; try with_reducible rfl)))
          rw [← hR]
          refine rel_at (fr := ?fr_0) hR (fun f W => HS g w.heap.size b5 W (some ⟨gA, 0, none⟩) c A' c' os rs ∧ Only [g] w W ∧ Rd lo W g (K + 30 * j + f)) [tt, (fun v W => v = .slice (some ⟨gA, 0, none⟩) os.length c), tt, (fun v W => v = .pointer (some ⟨gA, at_ * 3, none⟩)), (fun v W => v = .pointer (some ⟨gA, at_ * 3 + 2, none⟩)), (fun v W => v = .slice o.A o.c.refs.length o.cap), tt, tt, (fun v W => v = .slice (some ⟨gA, 0, none⟩) os.length c), tt, (fun v W => v = .pointer (some ⟨gA, at_ * 3, none⟩)), (fun v W => v = .pointer (some ⟨gA, at_ * 3 + 2, none⟩)), (fun v W => v = .slice o.A o.c.refs.length o.cap), (fun v W => v = .int .i64 (o.c.refs.length : Int)), (fun v W => ∃ k : Nat, v = .int .i64 (k : Int) ∧ k < o.c.refs.length), tt, tt, tt] (fun W W' => Only [g] W W') [(1, []), (3, [1]), (4, [3, 1]), (5, [4, 3, 1]), (8, []), (10, [8]), (11, [10, 8]), (12, [11, 10, 8]), (13, [12, 11, 10, 8]), (14, [13, 12, 11, 10, 8]), (16, [1, 3, 4, 5, 8, 10, 11, 12, 13, 14]), (17, [1, 3, 4, 5, 8, 10, 11, 12, 13, 14])] [(67, 1), (69, 3), (70, 4), (71, 5), (74, 8), (76, 10), (77, 11), (78, 12), (79, 13), (80, 14), (22, 1022), (23, 1023), (24, 1024), (25, 1025), (26, 1026), (27, 1027), (28, 1028), (29, 1029), (30, 1030), (31, 1031), (32, 1032), (33, 1033), (34, 1034), (35, 1035), (36, 1036), (37, 1037), (38, 1038), (39, 1039), (40, 1040), (41, 1041), (42, 1042), (43, 1043), (44, 1044), (45, 1045), (46, 1046), (47, 1047), (48, 1048), (49, 1049), (50, 1050), (51, 1051), (52, 1052), (53, 1053), (54, 1054), (55, 1055), (56, 1056), (57, 1057), (58, 1058), (59, 1059), (60, 1060), (61, 1061), (62, 1062), (63, 1063), (64, 1064), (65, 1065)] [1, 3, 4, 5, 8, 10, 11, 12, 13, 14] #[true, true, true, true, true, true, true, true, true, true, true, true, true, true, true, true, false, false] 12 2 (by kernel_rfl) (by kernel_rfl) ?hfr_0 ?h0_0 ?mono_0 ?steps_0 ?_
          case hfr_0 => intro x; (simp [frOf, fill, Act.put, List.lookup]; with_reducible rfl)
          case h0_0 => exact ⟨HH3, HO3, HR3.le (by omega)⟩
          case mono_0 => exact (Pm.cons (fun _ _ _ _ h => h) (Pm.cons (fun _ _ _ _ h => h) (Pm.cons (fun _ _ _ _ h => h) (Pm.cons (fun _ _ _ _ h => h) (Pm.cons (fun _ _ _ _ h => h) (Pm.cons (fun _ _ _ _ h => h) (Pm.cons (fun _ _ _ _ h => h) (Pm.cons (fun _ _ _ _ h => h) (Pm.cons (fun _ _ _ _ h => h) (Pm.cons (fun _ _ _ _ h => h) (Pm.cons (fun _ _ _ _ h => h) (Pm.cons (fun _ _ _ _ h => h) (Pm.cons (fun _ _ _ _ h => h) (Pm.cons (fun _ _ _ _ h => h) (Pm.cons (fun _ _ _ _ h => h) (Pm.cons (fun _ _ _ _ h => h) (Pm.cons (fun _ _ _ _ h => h) (Pm.cons (fun _ _ _ _ h => h) Pm.nil))))))))))))))))))
          case steps_0 =>
            refine Steps.cons (RStep.of rfl fun x W f hI hD K9 hK => ?_) ?_
            · clear hD
              have p0 := hI.1.p0
              go_simp
              exact hK (.slice (some ⟨gA, 0, none⟩) os.length c) _ _ (by kernel_rfl) (Only.refl _ _) (⟨hI.1, hI.2.1, hI.2.2.le (by omega)⟩) rfl
            refine Steps.cons (RStep.of rfl fun x W f hI hD K9 hK => ?_) ?_
            · have e1 : x 1 = .slice (some ⟨gA, 0, none⟩) os.length c := hD 1 (by decide)
              clear hD
              simp only [e1] at hK ⊢
              go_simp
              exact hK (.pointer (some ⟨gA, at_ * 3, none⟩)) _ _ (by kernel_rfl) (Only.refl _ _) (⟨hI.1, hI.2.1, hI.2.2.le (by omega)⟩) rfl
            refine Steps.cons (RStep.of rfl fun x W f hI hD K9 hK => ?_) ?_
            · have e3 : x 3 = .pointer (some ⟨gA, at_ * 3, none⟩) := hD 3 (by decide)
              clear hD
              simp only [e3] at hK ⊢
              go_simp
              exact hK (.pointer (some ⟨gA, at_ * 3 + 2, none⟩)) _ _ (by kernel_rfl) (Only.refl _ _) (⟨hI.1, hI.2.1, hI.2.2.le (by omega)⟩) rfl
            refine Steps.cons (RStep.of rfl fun x W f hI hD K9 hK => ?_) ?_
            · have e4 : x 4 = .pointer (some ⟨gA, at_ * 3 + 2, none⟩) := hD 4 (by decide)
              clear hD
              have a2 := (hI.1.at_ Ho.out).2.2
              simp only [e4] at hK ⊢
              go_simp
              exact hK (.slice o.A o.c.refs.length o.cap) _ _ (by kernel_rfl) (Only.refl _ _) (⟨hI.1, hI.2.1, hI.2.2.le (by omega)⟩) rfl
            refine Steps.cons (RStep.of rfl fun x W f hI hD K9 hK => ?_) ?_
            · clear hD
              have p0 := hI.1.p0
              go_simp
              exact hK (.slice (some ⟨gA, 0, none⟩) os.length c) _ _ (by kernel_rfl) (Only.refl _ _) (⟨hI.1, hI.2.1, hI.2.2.le (by omega)⟩) rfl
            refine Steps.cons (RStep.of rfl fun x W f hI hD K9 hK => ?_) ?_
            · have e8 : x 8 = .slice (some ⟨gA, 0, none⟩) os.length c := hD 8 (by decide)
              clear hD
              simp only [e8] at hK ⊢
              go_simp
              exact hK (.pointer (some ⟨gA, at_ * 3, none⟩)) _ _ (by kernel_rfl) (Only.refl _ _) (⟨hI.1, hI.2.1, hI.2.2.le (by omega)⟩) rfl
            refine Steps.cons (RStep.of rfl fun x W f hI hD K9 hK => ?_) ?_
            · have e10 : x 10 = .pointer (some ⟨gA, at_ * 3, none⟩) := hD 10 (by decide)
              clear hD
              simp only [e10] at hK ⊢
              go_simp
              exact hK (.pointer (some ⟨gA, at_ * 3 + 2, none⟩)) _ _ (by kernel_rfl) (Only.refl _ _) (⟨hI.1, hI.2.1, hI.2.2.le (by omega)⟩) rfl
            refine Steps.cons (RStep.of rfl fun x W f hI hD K9 hK => ?_) ?_
            · have e11 : x 11 = .pointer (some ⟨gA, at_ * 3 + 2, none⟩) := hD 11 (by decide)
              clear hD
              have a2 := (hI.1.at_ Ho.out).2.2
              simp only [e11] at hK ⊢
              go_simp
              exact hK (.slice o.A o.c.refs.length o.cap) _ _ (by kernel_rfl) (Only.refl _ _) (⟨hI.1, hI.2.1, hI.2.2.le (by omega)⟩) rfl
            refine Steps.cons (RStep.of rfl fun x W f hI hD K9 hK => ?_) ?_
            · have e12 : x 12 = .slice o.A o.c.refs.length o.cap := hD 12 (by decide)
              clear hD
              simp only [e12] at hK ⊢
              go_simp
              exact hK (.int .i64 (o.c.refs.length : Int)) _ _ (by kernel_rfl) (Only.refl _ _) (⟨hI.1, hI.2.1, hI.2.2.le (by omega)⟩) rfl
            refine Steps.cons (RStep.of rfl fun x W f hI hD K9 hK => ?_) ?_
            · have e13 : x 13 = .int .i64 (o.c.refs.length : Int) := hD 13 (by decide)
              clear hD
              simp only [e13] at hK ⊢
              go_wp2_with fail
              (with_reducible refine (pick_any lo g (K + 30 * j + f) o.c.refs.length _ hI.2.2 (by omega) (by omega)).mono ?_)
              rintro e w6 ⟨k, rfl, hk, -, hO, hR6⟩
              exact hK (.int .i64 (k : Int)) _ _ (by kernel_rfl) hO ⟨hI.1.only hO, hI.2.1.trans hO, hR6⟩ ⟨k, rfl, by have := hk (by omega); omega⟩
            exact Steps.nil
          intro x W hI hV
          have e1 : x 1 = .slice (some ⟨gA, 0, none⟩) os.length c := hV 1 (by decide)
          have e3 : x 3 = .pointer (some ⟨gA, at_ * 3, none⟩) := hV 3 (by decide)
          have e4 : x 4 = .pointer (some ⟨gA, at_ * 3 + 2, none⟩) := hV 4 (by decide)
          have e5 : x 5 = .slice o.A o.c.refs.length o.cap := hV 5 (by decide)
          have e8 : x 8 = .slice (some ⟨gA, 0, none⟩) os.length c := hV 8 (by decide)
          have e10 : x 10 = .pointer (some ⟨gA, at_ * 3, none⟩) := hV 10 (by decide)
          have e11 : x 11 = .pointer (some ⟨gA, at_ * 3 + 2, none⟩) := hV 11 (by decide)
          have e12 : x 12 = .slice o.A o.c.refs.length o.cap := hV 12 (by decide)
          have e13 : x 13 = .int .i64 (o.c.refs.length : Int) := hV 13 (by decide)
          have h14 : (fun v W => ∃ k : Nat, v = .int .i64 (k : Int) ∧ k < o.c.refs.length) (x 14) W := hV 14 (by decide)
          clear hV
          simp only [e1, e3, e4, e5, e8, e10, e11, e12, e13]
          obtain ⟨k, e14, hk⟩ := h14
          simp only [e14]
          clear e1 e3 e4 e5 e8 e10 e11 e12 e13 e14
          have hki : (0 : Int) ≤ (k : Int) ∧ (k : Int) < (o.c.refs.length : Int) := by omega
          obtain ⟨⟨y, hy⟩, hyf⟩ := hI.1.refat Ho.out HAr.out hk
          have hAo := HAr.out
          rw [hAo]
          rw [hR]
          refine wpAny_ready (rs := [16]) (by kernel_rfl) (by simp) ?_
          refine AllReady.cons rfl (fun K9 hK9 => ?_) AllReady.nil
          go_simp
          refine hK9 _ _ ?_
          clear hK9
          refine wpAny_ready (rs := [17]) (by kernel_rfl) (by simp) ?_
          refine AllReady.cons rfl (fun K9 hK9 => ?_) AllReady.nil
          go_simp
          refine hK9 _ _ ?_
          clear hK9
          refine wpAny_done (by kernel_rfl) ?_ _
          have HH4 := hI.1.ref Ho.out HAr.out k (to_ : Int)
          have HO4 : Only [g] w (W.setCell ⟨gr, k, none⟩ (.int .i64 (to_ : Int))) := hI.2.1.setCell (.inr (by have := hI.1.refge Ho.out HAr.out; simp only; omega)) _
          have HR4 : Rd lo (W.setCell ⟨gr, k, none⟩ (.int .i64 (to_ : Int))) g (K + 30 * j + 2) := hI.2.2.keep (by have := hI.1.refge Ho.out HAr.out; exact (Below.refl _ _).setCell (by simp only; omega) _)
          go_wp2_with fail
          go_roundw
          case rel => exact ⟨j - 1, some ⟨gA, 0, none⟩, c, A', c', _, rs, by rw [show ((j - 1 : Nat) : Int) = (j : Int) - 1 by omega], by omega, by simpa using HH4, HO4, HR4.le (by omega), hr4, by simpa using hc40, refs_set hrl.out (List.mem_of_getElem? Ho.out) (by simp)⟩
          case measure => simp [intOf]; omega
        · have hstop : j = 0 ∨ (0 < j ∧ os.length = 0) := by omega
          have Hr := Lib.hid HR
          have HJ : Hid (j ≤ 5) := hj
          have hnj : ¬ ((0 : Int) < (j : Int)) ∨ ((0 : Int) < (j : Int) ∧ ¬ ((0 : Int) < (os.length : Int))) := by omega
          clear hgo hstop HR hj
          rcases hnj with h9 | ⟨h9, h8⟩
          all_goals
            go_wp2_with fail
            go_meet
            exact ⟨A, c, A', c', os, rs, HH, HO, Hr.out.le (by omega), hr4, hc40⟩
    case rest =>
      clear HH1 HO2 hR1 hr4 hc40 hrl hx6
      obtain ⟨A, c, A', c', os, rs, HH, HO, HR, hr4, hc40⟩ := hcut
      go_wp2_with fail
      (with_reducible refine (odd_any lo g (K + 19) n _ HR hn1 hn2).mono ?_); rintro e w4 ⟨b, rfl, -, hO4, hR4⟩
      have HH2 := HH.only hO4
      have HO3 := HO.trans hO4
      clear HH HO HR hO4
      cases b with
      | false =>
        have p0 := HH2.p0
        have p1 := HH2.p1
        have q0 := HH2.q0
        have q1 := HH2.q1
        have qf0 := HH2.qf 0
        have qf1 := HH2.qf 1
        go_wp2_with fail
        refine bodyPost_ret (v := .agg #[.slice A os.length c, .slice A' rs.length c']) (by simp [results, Try.results60, go_sem, q0, q1]) rfl ⟨_, _, rfl, (HH2.sb.step (((Only.refl _ _).setCell (.inl (by simp)) _).setCell (.inl (by simp)) _)).sr, (HO3.setCell (.inr (by simp)) _).setCell (.inr (by simp)) _, ((hR4.keep ?_)).le (by omega)⟩
        have h1 := HH2.d1
        exact ((Below.refl _ _).setCell (by simp only; omega) _).setCell (by simp only; omega) _
      | true =>
        go_wp2_with fail
        (with_reducible refine (pick_any lo g (K + 18) 5 _ hR4 (by omega) (by omega)).mono ?_); rintro e w5 ⟨k, rfl, hk, -, hO5, hR5⟩
        have hk5 := hk (by omega)
        have HH5 := HH2.only hO5
        have HO5 := HO3.trans hO5
        clear HH2 HO3 hk hO5 hR4
        rcases (by omega : k = 0 ∨ k = 1 ∨ k = 2 ∨ k = 3 ∨ k = 4) with rfl | rfl | rfl | rfl | rfl
        · have hr4o := hr4.out
          obtain ⟨gr, hgr, hcc, hgr1, hgr2⟩ := HH5.root_ (by omega)
          subst hgr
          have p0 := HH5.p0
          have p1 := HH5.p1
          have q0 := HH5.q0
          have q1 := HH5.q1
          have qf0 := HH5.qf 0
          have qf1 := HH5.qf 1
          have pf1 := HH5.pf 1
          have d1 := HH5.d1
          have d2 := HH5.d2
          rw [hr4o] at hcc p1
          have hcc1 : (4 : Int) ≤ (c' : Int) := by omega
          clear hr4o
          go_wp2_with fail
          have n1 : b5 ≠ w.heap.size := by omega
          have n2 : w.heap.size ≠ b5 := by omega
          refine bodyPost_ret (v := .agg #[.slice A os.length c, .slice (some ⟨gr, 1, none⟩) 3 (c' - 1)]) (by simp [results, Try.results60, go_sem, q0, q1, n1, n2]) rfl ⟨_, _, rfl, ((HH5.sbt hr4.out).step (by repeat (first | (with_reducible exact Only.refl _ _) | (refine Only.setCell ?_ (.inl (by simp)) _)))).sr, (by repeat (first | (with_reducible assumption) | (refine Only.setCell ?_ (.inr (by simp only; omega)) _))), (hR5.keep (by repeat (first | (with_reducible exact Below.refl _ _) | (refine Below.setCell ?_ (by simp only; omega) _)))).le (by omega)⟩
        · have hr4o := hr4.out
          obtain ⟨gr, hgr, hcc, hgr1, hgr2⟩ := HH5.root_ (by omega)
          subst hgr
          have hb45 := HH5.d1
          have hb45' := HH5.d2
          clear hr4o
          go_wp2_with fail
          refine wp_region_R (by kernel_rfl) (fun R wd hR hwd => ?_)
          have HH6 : HS g w.heap.size b5 wd A c (some ⟨gr, 0, none⟩) c' os rs := by rw [hwd]; exact HH5.below blw_
          have HO6 : Only [g] w wd := by rw [hwd]; exact HO5.drew
          have HR6 : Rd lo wd g (K + 17) := by rw [hwd]; exact (hR5.below blw_).le (by omega)
          clear HH5 HO5 hR5 hwd
          rw [hR]
          (refine wpAny_take (i := 0) (v := ?v9_0_u1) rfl (by kernel_rfl) (by kernel_rfl) (by kernel_rfl) (fun _ _ _ h => h) (Or.inl ⟨by kernel_rfl, ?h9_0_u1⟩) ?r9_0_u1; (case h9_0_u1 => (intro w9; go_simp; try with_reducible rfl)))
          (refine wpAny_take (i := 2) (v := ?v9_2_u1) rfl (by kernel_rfl) (by kernel_rfl) (by kernel_rfl) (fun _ _ _ h => h) (Or.inl ⟨by kernel_rfl, ?h9_2_u1⟩) ?r9_2_u1; (case h9_2_u1 => (intro w9; go_simp; try with_reducible rfl)))
          (refine wpAny_take (i := 4) (v := ?v9_4_u1) rfl (by kernel_rfl) (by kernel_rfl) (by kernel_rfl) (fun _ _ _ h => h) (Or.inl ⟨by kernel_rfl, ?h9_4_u1⟩) ?r9_4_u1; (case h9_4_u1 => (intro w9; go_simp; try with_reducible rfl)))
          (refine wpAny_take (i := 8) (v := ?v9_8_u1) rfl (by kernel_rfl) (by kernel_rfl) (by kernel_rfl) (fun _ _ _ h => h) (Or.inl ⟨by kernel_rfl, ?h9_8_u1⟩) ?r9_8_u1; (case h9_8_u1 => (intro w9; go_simp; try with_reducible rfl)))
          rw [← hR]
          refine rel_at (fr := ?fr_1) hR (fun f W => HS g w.heap.size b5 W A c (some ⟨gr, 0, none⟩) c' os rs ∧ Only [g] w W ∧ Rd lo W g (K + f)) [tt, (fun v W => v = .slice (some ⟨gr, 0, none⟩) 4 c'), tt, (fun v W => ∃ k : Nat, v = .int .i64 (k : Int) ∧ k < 4), tt, (fun v W => v = .slice A os.length c), (fun v W => v = .int .i64 (os.length : Int)), (fun v W => ∃ b : Nat, v = .slice (some ⟨b, 0, none⟩) 2 2 ∧ (∃ y : Int, W.cell? ⟨b, 0, none⟩ = some (.int .i64 y)) ∧ (∃ y : Int, W.cell? ⟨b, 1, none⟩ = some (.int .i64 y)) ∧ g < b), tt, (fun v W => ∃ k : Nat, v = .int .i64 (k : Int) ∧ k < 2), (fun v W => ∃ (b k : Nat), v = .pointer (some ⟨b, k, none⟩) ∧ (∃ y : Int, W.cell? ⟨b, k, none⟩ = some (.int .i64 y)) ∧ g < b), (fun v W => ∃ y : Int, v = .int .i64 y), tt, tt] (fun W W' => Only [g] W W') [(1, []), (3, []), (5, []), (6, [5]), (7, [6, 5]), (9, []), (10, [7, 6, 5, 9]), (11, [10, 7, 6, 5, 9]), (12, [1, 3, 5, 6, 7, 9, 10, 11]), (13, [1, 3, 5, 6, 7, 9, 10, 11])] [(108, 1), (110, 3), (112, 5), (113, 6), (114, 7), (116, 9), (117, 10), (118, 11), (9, 1009), (10, 1010), (11, 1011), (12, 1012), (13, 1013), (14, 1014), (15, 1015), (16, 1016), (17, 1017), (18, 1018), (19, 1019), (20, 1020), (21, 1021), (22, 1022), (23, 1023), (24, 1024), (25, 1025), (26, 1026), (27, 1027), (28, 1028), (29, 1029), (30, 1030), (31, 1031), (32, 1032), (33, 1033), (34, 1034), (35, 1035), (36, 1036), (37, 1037), (38, 1038), (39, 1039), (40, 1040), (41, 1041), (42, 1042), (43, 1043), (44, 1044), (45, 1045), (46, 1046), (47, 1047), (48, 1048), (49, 1049), (50, 1050), (51, 1051), (52, 1052), (53, 1053), (54, 1054), (55, 1055), (56, 1056), (57, 1057), (58, 1058), (59, 1059), (60, 1060), (61, 1061), (62, 1062), (63, 1063), (64, 1064), (65, 1065), (66, 1066), (67, 1067), (68, 1068), (69, 1069), (70, 1070), (71, 1071), (72, 1072), (73, 1073), (74, 1074), (75, 1075), (76, 1076), (77, 1077), (78, 1078), (79, 1079), (80, 1080), (81, 1081), (82, 1082), (83, 1083), (84, 1084), (85, 1085), (86, 1086), (87, 1087), (88, 1088), (89, 1089), (90, 1090), (91, 1091), (92, 1092), (93, 1093), (94, 1094), (95, 1095), (96, 1096), (97, 1097), (98, 1098), (99, 1099), (100, 1100), (101, 1101), (102, 1102), (103, 1103), (104, 1104), (105, 1105), (106, 1106)] [1, 3, 5, 6, 7, 9, 10, 11] #[true, true, true, true, true, true, true, true, true, true, true, true, false, false] 10 2 (by kernel_rfl) (by kernel_rfl) ?hfr_1 ?h0_1 ?mono_1 ?steps_1 ?_
          case hfr_1 => intro x; (simp [frOf, fill, Act.put, List.lookup]; with_reducible rfl)
          case h0_1 => exact ⟨HH6, HO6, HR6.le (by omega)⟩
          case mono_1 => exact (Pm.cons (fun _ _ _ _ h => h) (Pm.cons (fun _ _ _ _ h => h) (Pm.cons (fun _ _ _ _ h => h) (Pm.cons (fun _ _ _ _ h => h) (Pm.cons (fun _ _ _ _ h => h) (Pm.cons (fun _ _ _ _ h => h) (Pm.cons (fun _ _ _ _ h => h) (Pm.cons (fun _ _ _ hG ⟨b, e, ⟨y, h1⟩, ⟨y2, h2⟩, h3⟩ => ⟨b, e, ⟨y, hG.cell h1 (by simp; omega)⟩, ⟨y2, hG.cell h2 (by simp; omega)⟩, h3⟩) (Pm.cons (fun _ _ _ _ h => h) (Pm.cons (fun _ _ _ _ h => h) (Pm.cons (fun _ _ _ hG ⟨b, k, e, ⟨y, h1⟩, h3⟩ => ⟨b, k, e, ⟨y, hG.cell h1 (by simp; omega)⟩, h3⟩) (Pm.cons (fun _ _ _ _ h => h) (Pm.cons (fun _ _ _ _ h => h) (Pm.cons (fun _ _ _ _ h => h) Pm.nil))))))))))))))
          case steps_1 =>
            refine Steps.cons (RStep.of rfl fun x W f hI hD K9 hK => ?_) ?_
            · clear hD
              have p1 := hI.1.p1
              rw [hr4.out] at p1
              go_simp
              exact hK (.slice (some ⟨gr, 0, none⟩) 4 c') _ _ (by kernel_rfl) (Only.refl _ _) (⟨hI.1, hI.2.1, hI.2.2.le (by omega)⟩) rfl
            refine Steps.cons (RStep.of rfl fun x W f hI hD K9 hK => ?_) ?_
            · clear hD
              go_wp2_with fail
              (with_reducible refine (pick_any lo g (K + f) 4 _ hI.2.2 (by omega) (by omega)).mono ?_)
              rintro e w6 ⟨k, rfl, hk, -, hO, hR6⟩
              exact hK (.int .i64 (k : Int)) _ _ (by kernel_rfl) hO ⟨hI.1.only hO, hI.2.1.trans hO, hR6⟩ ⟨k, rfl, by have := hk (by omega); omega⟩
            refine Steps.cons (RStep.of rfl fun x W f hI hD K9 hK => ?_) ?_
            · clear hD
              have p0 := hI.1.p0
              go_simp
              exact hK (.slice A os.length c) _ _ (by kernel_rfl) (Only.refl _ _) (⟨hI.1, hI.2.1, hI.2.2.le (by omega)⟩) rfl
            refine Steps.cons (RStep.of rfl fun x W f hI hD K9 hK => ?_) ?_
            · have e5 : x 5 = .slice A os.length c := hD 5 (by decide)
              clear hD
              simp only [e5] at hK ⊢
              go_simp
              exact hK (.int .i64 (os.length : Int)) _ _ (by kernel_rfl) (Only.refl _ _) (⟨hI.1, hI.2.1, hI.2.2.le (by omega)⟩) rfl
            refine Steps.cons (RStep.of rfl fun x W f hI hD K9 hK => ?_) ?_
            · have e6 : x 6 = .int .i64 (os.length : Int) := hD 6 (by decide)
              clear hD
              simp only [e6] at hK ⊢
              have hgW := hI.1.d3
              go_simp
              exact hK (.slice (some ⟨W.heap.size, 0, none⟩) 2 2) _ _ (by kernel_rfl) (Only.al _ _) ⟨hI.1.only (Only.al _ _), hI.2.1.trans (Only.al _ _), (hI.2.2.below ((Below.refl _ _).alloc (Nat.le_refl _) _)).le (by omega)⟩ ⟨_, rfl, ⟨_, by simp [go_sem]; rfl⟩, ⟨_, by simp [go_sem]; rfl⟩, by omega⟩
            refine Steps.cons (RStep.of rfl fun x W f hI hD K9 hK => ?_) ?_
            · clear hD
              go_wp2_with fail
              (with_reducible refine (pick_any lo g (K + f) 2 _ hI.2.2 (by omega) (by omega)).mono ?_)
              rintro e w6 ⟨k, rfl, hk, -, hO, hR6⟩
              exact hK (.int .i64 (k : Int)) _ _ (by kernel_rfl) hO ⟨hI.1.only hO, hI.2.1.trans hO, hR6⟩ ⟨k, rfl, by have := hk (by omega); omega⟩
            refine Steps.cons (RStep.of rfl fun x W f hI hD K9 hK => ?_) ?_
            · have h7 : (fun v W => ∃ b : Nat, v = .slice (some ⟨b, 0, none⟩) 2 2 ∧ (∃ y : Int, W.cell? ⟨b, 0, none⟩ = some (.int .i64 y)) ∧ (∃ y : Int, W.cell? ⟨b, 1, none⟩ = some (.int .i64 y)) ∧ g < b) (x 7) W := hD 7 (by decide)
              have h9 : (fun v W => ∃ k : Nat, v = .int .i64 (k : Int) ∧ k < 2) (x 9) W := hD 9 (by decide)
              clear hD
              obtain ⟨b, e7, c0, c1, hgb⟩ := h7
              obtain ⟨k, e9, hk⟩ := h9
              simp only [e7, e9] at hK ⊢
              have hki : (0 : Int) ≤ (k : Int) ∧ (k : Int) < 2 := by omega
              go_simp
              refine hK (.pointer (some ⟨b, k, none⟩)) _ _ (by kernel_rfl) (Only.refl _ _) ⟨hI.1, hI.2.1, hI.2.2.le (by omega)⟩ ⟨b, k, rfl, ?_, hgb⟩
              rcases (by omega : k = 0 ∨ k = 1) with rfl | rfl
              · exact c0
              · exact c1
            refine Steps.cons (RStep.of rfl fun x W f hI hD K9 hK => ?_) ?_
            · have h10 : (fun v W => ∃ (b k : Nat), v = .pointer (some ⟨b, k, none⟩) ∧ (∃ y : Int, W.cell? ⟨b, k, none⟩ = some (.int .i64 y)) ∧ g < b) (x 10) W := hD 10 (by decide)
              clear hD
              obtain ⟨b, k, e10, ⟨y, hy⟩, hgb⟩ := h10
              simp only [e10] at hK ⊢
              go_simp
              exact hK (.int .i64 y) _ _ (by kernel_rfl) (Only.refl _ _) ⟨hI.1, hI.2.1, hI.2.2.le (by omega)⟩ ⟨y, rfl⟩
            exact Steps.nil
          intro x W hI hV
          have e1 : x 1 = .slice (some ⟨gr, 0, none⟩) 4 c' := hV 1 (by decide)
          have h3 : (fun v W => ∃ k : Nat, v = .int .i64 (k : Int) ∧ k < 4) (x 3) W := hV 3 (by decide)
          have e5 : x 5 = .slice A os.length c := hV 5 (by decide)
          have e6 : x 6 = .int .i64 (os.length : Int) := hV 6 (by decide)
          have h7 : (fun v W => ∃ b : Nat, v = .slice (some ⟨b, 0, none⟩) 2 2 ∧ (∃ y : Int, W.cell? ⟨b, 0, none⟩ = some (.int .i64 y)) ∧ (∃ y : Int, W.cell? ⟨b, 1, none⟩ = some (.int .i64 y)) ∧ g < b) (x 7) W := hV 7 (by decide)
          have h9 : (fun v W => ∃ k : Nat, v = .int .i64 (k : Int) ∧ k < 2) (x 9) W := hV 9 (by decide)
          have h10 : (fun v W => ∃ (b k : Nat), v = .pointer (some ⟨b, k, none⟩) ∧ (∃ y : Int, W.cell? ⟨b, k, none⟩ = some (.int .i64 y)) ∧ g < b) (x 10) W := hV 10 (by decide)
          have h11 : (fun v W => ∃ y : Int, v = .int .i64 y) (x 11) W := hV 11 (by decide)
          clear hV
          simp only [e1, e5, e6]
          obtain ⟨k, e3, hk⟩ := h3
          obtain ⟨y, e11⟩ := h11
          simp only [e3, e11]
          clear h7 h9 h10 e1 e5 e6 e3 e11
          have hki : (0 : Int) ≤ (k : Int) ∧ (k : Int) < 4 := by omega
          obtain ⟨⟨z, hz⟩, hzf⟩ := hI.1.rootat (j := k) (by have := hr4.out; omega)
          have p0 := hI.1.p0
          have p1 := hI.1.p1
          have q0 := hI.1.q0
          have q1 := hI.1.q1
          have qf0 := hI.1.qf 0
          have qf1 := hI.1.qf 1
          rw [hR]
          refine wpAny_ready (rs := [12]) (by kernel_rfl) (by simp) ?_
          refine AllReady.cons rfl (fun K9 hK9 => ?_) AllReady.nil
          go_simp
          refine hK9 _ _ ?_
          clear hK9
          refine wpAny_ready (rs := [13]) (by kernel_rfl) (by simp) ?_
          refine AllReady.cons rfl (fun K9 hK9 => ?_) AllReady.nil
          go_simp
          refine hK9 _ _ ?_
          clear hK9
          refine wpAny_done (by kernel_rfl) ?_ _
          have HH7 := hI.1.root rfl k y
          have HB7 : SB g w.heap.size b5 (W.setCell ⟨gr, k, none⟩ (.int .i64 y)) (.agg #[.slice A os.length c, .slice (some ⟨gr, 0, none⟩) rs.length c']) ⟨os.map (·.c), rs.set k y⟩ := by have h9 := HH7.sb; rwa [List.length_set] at h9
          have HO7 : Only [g] w (W.setCell ⟨gr, k, none⟩ (.int .i64 y)) := hI.2.1.setCell (.inr (by simp only; omega)) _
          have HR7 : Rd lo (W.setCell ⟨gr, k, none⟩ (.int .i64 y)) g (K + 2) := hI.2.2.keep (by exact (Below.refl _ _).setCell (by simp only; omega) _)
          have n1 : b5 ≠ w.heap.size := by omega
          have n2 : w.heap.size ≠ b5 := by omega
          go_wp2_with fail
          have n3 : gr ≠ w.heap.size := by omega
          refine bodyPost_ret (v := .agg #[.slice A os.length c, .slice (some ⟨gr, 0, none⟩) rs.length c']) (by simp [results, Try.results60, go_sem, q0, q1, n1, n2, n3]) rfl ⟨_, _, rfl, (HB7.step (by repeat (first | (with_reducible exact Only.refl _ _) | (refine Only.setCell ?_ (.inl (by simp)) _)))).sr, ?_, ?_⟩
          · clear hI
            exact (by repeat (first | (with_reducible assumption) | (refine Only.setCell ?_ (.inr (by simp only; omega)) _)))
          · exact (HR7.keep (by repeat (first | (with_reducible exact Below.refl _ _) | (refine Below.setCell ?_ (by simp only; omega) _)))).le (by omega)
        · have p0 := HH5.p0
          have d1 := HH5.d1
          have d2 := HH5.d2
          have n1 : b5 ≠ w.heap.size := by omega
          have n2 : w.heap.size ≠ b5 := by omega
          have HO9 := HO5
          have hR9 := hR5
          clear HO5 hR5
          go_wp2_with (at_builtin; (refine wpList_appc rfl (.tmp 123) (.tmp 125) rfl rfl rfl (HH5.own.cells.below blw_) ⟨⟨false, 5, []⟩, none, 0⟩ OF.nil (by simp) (by simp [go_sem]) (by simp [go_sem]) (by simp [go_sem]) (by omega) ?_); intro S5 c5 w6 hC5 hOn5 hg5; obtain ⟨HSB, p0, p1, pf, q0, q1, qf, hB9⟩ := HH5.app blw_ hC5 hOn5 hg5 (by simp [blk]) (by omega); have pf0 := pf 0; have pf1 := pf 1; have qf0 := qf 0; have qf1 := qf 1)
          refine bodyPost_ret (v := .agg #[.slice S5 (os ++ [(⟨⟨false, 5, []⟩, none, 0⟩ : OCell)]).length c5, .slice A' rs.length c']) (by simp [results, Try.results60, go_sem, q0, q1, n1, n2]) rfl ⟨_, _, rfl, (HSB.step (by repeat (first | (with_reducible exact Only.refl _ _) | (refine Only.setCell ?_ (.inl (by simp)) _)))).sr, ?_, ?_⟩
          · have HOf : Only [g] w w6 := HO9.thenb (B := w.heap.size) (hB9.mono (by omega)) (Nat.le_refl _)
            clear HO9
            exact (by repeat (first | (with_reducible assumption) | (refine Only.setCell ?_ (.inr (by simp only; omega)) _)))
          · have HRf : Rd lo w6 g (K + 1) := (hR9.keep (hB9.mono (by omega))).le (by omega)
            exact (HRf.keep (by repeat (first | (with_reducible exact Below.refl _ _) | (refine Below.setCell ?_ (by simp only; omega) _)))).le (by omega)
        · have p0 := HH5.p0
          have d1 := HH5.d1
          have d2 := HH5.d2
          have n1 : b5 ≠ w.heap.size := by omega
          have n2 : w.heap.size ≠ b5 := by omega
          have HO9 := HO5
          have hR9 := hR5
          clear HO5 hR5
          have hOl : (os.length : Int) + 1 < 9223372036854775807 := by omega
          go_wp2_with (at_builtin; (refine wpList_appc rfl (.tmp 131) (.tmp 138) rfl rfl rfl (HH5.own.cells.below blw_) ⟨⟨true, 0, [(os.length : Int) + 1]⟩, some ⟨w5.heap.size, 0, none⟩, 1⟩ (OF.of_blkn rfl (by rw [Below.heap_alloc _ _ _ (by simp)]; exact heap_alloc_at _ _ _ rfl) (by simp [maxLen])) (by simp) (by simp [go_sem]) (by simp [go_sem]) (by simp [go_sem]) (by omega) ?_); intro S5 c5 w6 hC5 hOn5 hg5; obtain ⟨HSB, p0, p1, pf, q0, q1, qf, hB9⟩ := HH5.app blw_ hC5 hOn5 hg5 (by simp [blk]) (by omega); have pf0 := pf 0; have pf1 := pf 1; have qf0 := qf 0; have qf1 := qf 1)
          refine bodyPost_ret (v := .agg #[.slice S5 (os ++ [(⟨⟨true, 0, [(os.length : Int) + 1]⟩, some ⟨w5.heap.size, 0, none⟩, 1⟩ : OCell)]).length c5, .slice A' rs.length c']) (by simp [results, Try.results60, go_sem, q0, q1, n1, n2]) rfl ⟨_, _, rfl, (HSB.step (by repeat (first | (with_reducible exact Only.refl _ _) | (refine Only.setCell ?_ (.inl (by simp)) _)))).sr, ?_, ?_⟩
          · have HOf : Only [g] w w6 := HO9.thenb (B := w.heap.size) (hB9.mono (by omega)) (Nat.le_refl _)
            clear HO9
            exact (by repeat (first | (with_reducible assumption) | (refine Only.setCell ?_ (.inr (by simp only; omega)) _)))
          · have HRf : Rd lo w6 g (K + 1) := (hR9.keep (hB9.mono (by omega))).le (by omega)
            exact (HRf.keep (by repeat (first | (with_reducible exact Below.refl _ _) | (refine Below.setCell ?_ (by simp only; omega) _)))).le (by omega)
        · have p0 := HH5.p0
          have d1 := HH5.d1
          have d2 := HH5.d2
          have n1 : b5 ≠ w.heap.size := by omega
          have n2 : w.heap.size ≠ b5 := by omega
          go_wp2_with fail
          refine wp_region_R (by kernel_rfl) (fun R wd hR hwd => ?_)
          have HH6 : HS g w.heap.size b5 wd A c A' c' os rs := by rw [hwd]; exact HH5.below blw_
          have HO6 : Only [g] w wd := by rw [hwd]; exact HO5.drew
          have HR6 : Rd lo wd g (K + 17) := by rw [hwd]; exact (hR5.below blw_).le (by omega)
          clear HH5 HO5 hR5 hwd
          rw [hR]
          (refine wpAny_take (i := 0) (v := ?v9_0_u2) rfl (by kernel_rfl) (by kernel_rfl) (by kernel_rfl) (fun _ _ _ h => h) (Or.inl ⟨by kernel_rfl, ?h9_0_u2⟩) ?r9_0_u2; (case h9_0_u2 => (intro w9; go_simp; try with_reducible rfl)))
          (refine wpAny_take (i := 3) (v := ?v9_3_u2) rfl (by kernel_rfl) (by kernel_rfl) (by kernel_rfl) (fun _ _ _ h => h) (Or.inl ⟨by kernel_rfl, ?h9_3_u2⟩) ?r9_3_u2; (case h9_3_u2 => (intro w9; go_simp; try with_reducible rfl)))
          rw [← hR]
          refine rel_at (fr := ?fr_2) hR (fun f W => HS g w.heap.size b5 W A c A' c' os rs ∧ Only [g] w W ∧ Rd lo W g (K + f)) [tt, (fun v W => v = .slice A os.length c), (fun v W => ∃ b : Nat, v = .slice (some ⟨b, 0, none⟩) 2 2 ∧ (∃ y : Int, W.cell? ⟨b, 0, none⟩ = some (.int .i64 y)) ∧ (∃ y : Int, W.cell? ⟨b, 1, none⟩ = some (.int .i64 y)) ∧ g < b), tt, (fun v W => ∃ k : Nat, v = .int .i64 (k : Int) ∧ k < 2), (fun v W => ∃ (b k : Nat), v = .pointer (some ⟨b, k, none⟩) ∧ (∃ y : Int, W.cell? ⟨b, k, none⟩ = some (.int .i64 y)) ∧ g < b), (fun v W => ∃ y : Int, v = .int .i64 y), (fun v W => ∃ y : Int, v = .agg #[.bool true, .int .i64 y, .slice none 0 0]), (fun v W => ∃ (b : Nat) (y : Int), v = .slice (some ⟨b, 0, none⟩) 1 1 ∧ W.cell? ⟨b, 0, none⟩ = some (.bool true) ∧ W.cell? ⟨b, 1, none⟩ = some (.int .i64 y) ∧ W.cell? ⟨b, 2, none⟩ = some (.slice none 0 0) ∧ g < b), tt, tt, tt] (fun W W' => Only [g] W W') [(1, []), (2, []), (4, []), (5, [2, 4]), (6, [5, 2, 4]), (7, [6, 5, 2, 4]), (8, [7, 6, 5, 2, 4]), (9, [1, 2, 4, 5, 6, 7, 8]), (10, [1, 2, 4, 5, 6, 7, 8]), (11, [1, 2, 4, 5, 6, 7, 8])] [(89, 1), (90, 2), (92, 4), (93, 5), (94, 6), (95, 7), (96, 8), (9, 1009), (10, 1010), (11, 1011), (12, 1012), (13, 1013), (14, 1014), (15, 1015), (16, 1016), (17, 1017), (18, 1018), (19, 1019), (20, 1020), (21, 1021), (22, 1022), (23, 1023), (24, 1024), (25, 1025), (26, 1026), (27, 1027), (28, 1028), (29, 1029), (30, 1030), (31, 1031), (32, 1032), (33, 1033), (34, 1034), (35, 1035), (36, 1036), (37, 1037), (38, 1038), (39, 1039), (40, 1040), (41, 1041), (42, 1042), (43, 1043), (44, 1044), (45, 1045), (46, 1046), (47, 1047), (48, 1048), (49, 1049), (50, 1050), (51, 1051), (52, 1052), (53, 1053), (54, 1054), (55, 1055), (56, 1056), (57, 1057), (58, 1058), (59, 1059), (60, 1060), (61, 1061), (62, 1062), (63, 1063), (64, 1064), (65, 1065), (66, 1066), (67, 1067), (68, 1068), (69, 1069), (70, 1070), (71, 1071), (72, 1072), (73, 1073), (74, 1074), (75, 1075), (76, 1076), (77, 1077), (78, 1078), (79, 1079), (80, 1080), (81, 1081), (82, 1082), (83, 1083), (84, 1084), (85, 1085), (86, 1086), (87, 1087)] [1, 2, 4, 5, 6, 7, 8] #[true, true, true, true, true, true, true, true, true, false, false, false] 10 3 (by kernel_rfl) (by kernel_rfl) ?hfr_2 ?h0_2 ?mono_2 ?steps_2 ?_
          case hfr_2 => intro x; (simp [frOf, fill, Act.put, List.lookup]; with_reducible rfl)
          case h0_2 => exact ⟨HH6, HO6, HR6.le (by omega)⟩
          case mono_2 => exact (Pm.cons (fun _ _ _ _ h => h) (Pm.cons (fun _ _ _ _ h => h) (Pm.cons (fun _ _ _ hG ⟨b, e, ⟨y, h1⟩, ⟨y2, h2⟩, h3⟩ => ⟨b, e, ⟨y, hG.cell h1 (by simp; omega)⟩, ⟨y2, hG.cell h2 (by simp; omega)⟩, h3⟩) (Pm.cons (fun _ _ _ _ h => h) (Pm.cons (fun _ _ _ _ h => h) (Pm.cons (fun _ _ _ hG ⟨b, k, e, ⟨y, h1⟩, h3⟩ => ⟨b, k, e, ⟨y, hG.cell h1 (by simp; omega)⟩, h3⟩) (Pm.cons (fun _ _ _ _ h => h) (Pm.cons (fun _ _ _ _ h => h) (Pm.cons (fun _ _ _ hG ⟨b, y, e, h0, h1, h2, h3⟩ => ⟨b, y, e, hG.cell h0 (by simp; omega), hG.cell h1 (by simp; omega), hG.cell h2 (by simp; omega), h3⟩) (Pm.cons (fun _ _ _ _ h => h) (Pm.cons (fun _ _ _ _ h => h) (Pm.cons (fun _ _ _ _ h => h) Pm.nil))))))))))))
          case steps_2 =>
            refine Steps.cons (RStep.of rfl fun x W f hI hD K9 hK => ?_) ?_
            · clear hD
              have p0 := hI.1.p0
              go_simp
              exact hK (.slice A os.length c) _ _ (by kernel_rfl) (Only.refl _ _) (⟨hI.1, hI.2.1, hI.2.2.le (by omega)⟩) rfl
            refine Steps.cons (RStep.of rfl fun x W f hI hD K9 hK => ?_) ?_
            · clear hD
              have hgW := hI.1.d3
              go_simp
              exact hK (.slice (some ⟨W.heap.size, 0, none⟩) 2 2) _ _ (by kernel_rfl) (Only.al _ _) ⟨hI.1.only (Only.al _ _), hI.2.1.trans (Only.al _ _), (hI.2.2.below ((Below.refl _ _).alloc (Nat.le_refl _) _)).le (by omega)⟩ ⟨_, rfl, ⟨_, by simp [go_sem]; rfl⟩, ⟨_, by simp [go_sem]; rfl⟩, by omega⟩
            refine Steps.cons (RStep.of rfl fun x W f hI hD K9 hK => ?_) ?_
            · clear hD
              go_wp2_with fail
              (with_reducible refine (pick_any lo g (K + f) 2 _ hI.2.2 (by omega) (by omega)).mono ?_)
              rintro e w6 ⟨k, rfl, hk, -, hO, hR6⟩
              exact hK (.int .i64 (k : Int)) _ _ (by kernel_rfl) hO ⟨hI.1.only hO, hI.2.1.trans hO, hR6⟩ ⟨k, rfl, by have := hk (by omega); omega⟩
            refine Steps.cons (RStep.of rfl fun x W f hI hD K9 hK => ?_) ?_
            · have h2 : (fun v W => ∃ b : Nat, v = .slice (some ⟨b, 0, none⟩) 2 2 ∧ (∃ y : Int, W.cell? ⟨b, 0, none⟩ = some (.int .i64 y)) ∧ (∃ y : Int, W.cell? ⟨b, 1, none⟩ = some (.int .i64 y)) ∧ g < b) (x 2) W := hD 2 (by decide)
              have h4 : (fun v W => ∃ k : Nat, v = .int .i64 (k : Int) ∧ k < 2) (x 4) W := hD 4 (by decide)
              clear hD
              obtain ⟨b, e7, c0, c1, hgb⟩ := h2
              obtain ⟨k, e9, hk⟩ := h4
              simp only [e7, e9] at hK ⊢
              have hki : (0 : Int) ≤ (k : Int) ∧ (k : Int) < 2 := by omega
              go_simp
              refine hK (.pointer (some ⟨b, k, none⟩)) _ _ (by kernel_rfl) (Only.refl _ _) ⟨hI.1, hI.2.1, hI.2.2.le (by omega)⟩ ⟨b, k, rfl, ?_, hgb⟩
              rcases (by omega : k = 0 ∨ k = 1) with rfl | rfl
              · exact c0
              · exact c1
            refine Steps.cons (RStep.of rfl fun x W f hI hD K9 hK => ?_) ?_
            · have h5 : (fun v W => ∃ (b k : Nat), v = .pointer (some ⟨b, k, none⟩) ∧ (∃ y : Int, W.cell? ⟨b, k, none⟩ = some (.int .i64 y)) ∧ g < b) (x 5) W := hD 5 (by decide)
              clear hD
              obtain ⟨b, k, e10, ⟨y, hy⟩, hgb⟩ := h5
              simp only [e10] at hK ⊢
              go_simp
              exact hK (.int .i64 y) _ _ (by kernel_rfl) (Only.refl _ _) ⟨hI.1, hI.2.1, hI.2.2.le (by omega)⟩ ⟨y, rfl⟩
            refine Steps.cons (RStep.of rfl fun x W f hI hD K9 hK => ?_) ?_
            · have h6 : (fun v W => ∃ y : Int, v = .int .i64 y) (x 6) W := hD 6 (by decide)
              clear hD
              obtain ⟨y, e6⟩ := h6
              simp only [e6] at hK ⊢
              go_simp
              exact hK (.agg #[.bool true, .int .i64 y, .slice none 0 0]) _ _ (by kernel_rfl) (Only.refl _ _) ⟨hI.1, hI.2.1, hI.2.2.le (by omega)⟩ ⟨y, rfl⟩
            refine Steps.cons (RStep.of rfl fun x W f hI hD K9 hK => ?_) ?_
            · have h7 : (fun v W => ∃ y : Int, v = .agg #[.bool true, .int .i64 y, .slice none 0 0]) (x 7) W := hD 7 (by decide)
              clear hD
              obtain ⟨y, e7⟩ := h7
              simp only [e7] at hK ⊢
              have hgW := hI.1.d3
              go_simp
              exact hK (.slice (some ⟨W.heap.size, 0, none⟩) 1 1) _ _ (by kernel_rfl) (Only.al _ _) ⟨hI.1.only (Only.al _ _), hI.2.1.trans (Only.al _ _), (hI.2.2.below ((Below.refl _ _).alloc (Nat.le_refl _) _)).le (by omega)⟩ ⟨_, y, rfl, by simp [go_sem], by simp [go_sem], by simp [go_sem], by omega⟩
            exact Steps.nil
          intro x W hI hV
          have e1 : x 1 = .slice A os.length c := hV 1 (by decide)
          have h2 : (fun v W => ∃ b : Nat, v = .slice (some ⟨b, 0, none⟩) 2 2 ∧ (∃ y : Int, W.cell? ⟨b, 0, none⟩ = some (.int .i64 y)) ∧ (∃ y : Int, W.cell? ⟨b, 1, none⟩ = some (.int .i64 y)) ∧ g < b) (x 2) W := hV 2 (by decide)
          have h4 : (fun v W => ∃ k : Nat, v = .int .i64 (k : Int) ∧ k < 2) (x 4) W := hV 4 (by decide)
          have h5 : (fun v W => ∃ (b k : Nat), v = .pointer (some ⟨b, k, none⟩) ∧ (∃ y : Int, W.cell? ⟨b, k, none⟩ = some (.int .i64 y)) ∧ g < b) (x 5) W := hV 5 (by decide)
          have h6 : (fun v W => ∃ y : Int, v = .int .i64 y) (x 6) W := hV 6 (by decide)
          have h7 : (fun v W => ∃ y : Int, v = .agg #[.bool true, .int .i64 y, .slice none 0 0]) (x 7) W := hV 7 (by decide)
          have h8 : (fun v W => ∃ (b : Nat) (y : Int), v = .slice (some ⟨b, 0, none⟩) 1 1 ∧ W.cell? ⟨b, 0, none⟩ = some (.bool true) ∧ W.cell? ⟨b, 1, none⟩ = some (.int .i64 y) ∧ W.cell? ⟨b, 2, none⟩ = some (.slice none 0 0) ∧ g < b) (x 8) W := hV 8 (by decide)
          clear hV
          simp only [e1]
          obtain ⟨b, y, e8, t0, t1, t2, hgb⟩ := h8
          simp only [e8]
          clear h2 h4 h5 h6 h7 e1 e8
          obtain ⟨HH5, HO9, hR9⟩ := hI
          rw [hR]
          refine wpAny_ready (rs := [9]) (by kernel_rfl) (by simp) ?_
          refine AllReady.cons rfl (fun K9 hK9 => ?_) AllReady.nil
          refine step_appc rfl (.tmp 89) (.tmp 96) rfl rfl rfl HH5.own.cells ⟨⟨true, y, []⟩, none, 0⟩ OF.nil (by simp) t0 t1 t2 (by omega) ?_
          intro S5 c5 w6 hC5 hOn5 hg5
          obtain ⟨HSB, p0, p1, pf, q0, q1, qf, hB9⟩ := HH5.app (Below.refl _ _) hC5 hOn5 hg5 (by simp [blk]) (by omega)
          have pf0 := pf 0
          have pf1 := pf 1
          have qf0 := qf 0
          have qf1 := qf 1
          refine hK9 _ _ ?_
          clear hK9
          refine wpAny_ready (rs := [10]) (by kernel_rfl) (by simp) ?_
          refine AllReady.cons rfl (fun K9 hK9 => ?_) AllReady.nil
          go_simp
          refine hK9 _ _ ?_
          clear hK9
          refine wpAny_ready (rs := [11]) (by kernel_rfl) (by simp) ?_
          refine AllReady.cons rfl (fun K9 hK9 => ?_) AllReady.nil
          go_simp
          refine hK9 _ _ ?_
          clear hK9
          refine wpAny_done (by kernel_rfl) ?_ _
          go_wp2_with fail
          refine bodyPost_ret (v := .agg #[.slice S5 (os ++ [(⟨⟨true, y, []⟩, none, 0⟩ : OCell)]).length c5, .slice A' rs.length c']) (by simp [results, Try.results60, go_sem, q0, q1, n1, n2]) rfl ⟨_, _, rfl, (HSB.step (by repeat (first | (with_reducible exact Only.refl _ _) | (refine Only.setCell ?_ (.inl (by simp)) _)))).sr, ?_, ?_⟩
          · have HOf : Only [g] w w6 := HO9.thenb (B := w.heap.size) (hB9.mono (by omega)) (Nat.le_refl _)
            clear HO9
            exact (by repeat (first | (with_reducible assumption) | (refine Only.setCell ?_ (.inr (by simp only; omega)) _)))
          · have HRf : Rd lo w6 g (K + 1) := (hR9.keep (hB9.mono (by omega))).le (by omega)
            exact (HRf.keep (by repeat (first | (with_reducible exact Below.refl _ _) | (refine Below.setCell ?_ (by simp only; omega) _)))).le (by omega)
end Go.Proofs.Ytkikeanpbffpkaa
