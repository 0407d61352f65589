/- Texts of one family, one behind the other: SweepS. -/
import Derived.Test.YtkikeanpbffpkaaChecked
import Derived.Deep.DeepCutAuto
import Derived.Test.YtkikeanpbffpkaaGrData
import Derived.Test.YtkikeanpbffpkaaSmall
import Derived.Test.YtkikeanpbffpkaaGrHeap
import Derived.Test.YtkikeanpbffpkaaGrCopy
import Derived.Test.YtkikeanpbffpkaaGrExec
/- The reference's SweepCells returns sweepM, in new memory. -/
namespace Go.Proofs.Ytkikeanpbffpkaa
open Go.RowKit
set_option maxRecDepth 100000
set_option linter.unusedSimpArgs false
set_option linter.unusedVariables false
theorem sweep_bad {h : HeapM} {marks : List Bool} (hv : validM h = false) : sweepM h marks = (zeroH, -1) := sweep_no (fun hh => by rw [hv] at hh; cases hh.1)
theorem sweep_len {h : HeapM} {marks : List Bool} (hl : marks.length ≠ h.cells.length) : sweepM h marks = (zeroH, -1) := sweep_no (fun hh => hl hh.2.1)
theorem sweep_open {h : HeapM} {marks : List Bool} (hv : validM (dropM h (nots marks)) = false) : sweepM h marks = (zeroH, -1) := by unfold sweepM; rw [hv]; simp
theorem sweep_ok {h : HeapM} {marks : List Bool} (h1 : validM h = true) (h2 : marks.length = h.cells.length) (hv : validM (dropM h (nots marks)) = true) : sweepM h marks = (dropM h (nots marks), (freedN h.cells (nots marks) : Int)) := by unfold sweepM; rw [h1, hv]; simp [h2]
set_option maxHeartbeats 4000000 in
theorem specSweepCells_any (v : Value) (h : HeapM) (A2 : Option Addr) (marks : List Bool) (c2 : Nat) (w : World) (hv : RH w v h) (hm : RF fb w A2 marks) (hml : marks.length ≤ 9223372036854775807) :
    Calls Try.prog 97 #[v, .slice A2 marks.length c2] w fun e w' => ∃ v', e = .returned (.tuple #[v', .int .i64 (sweepM h marks).2]) ∧ OH w.heap.size w' v' (sweepM h marks).1 ∧ Below w.heap.size w w' := by
  have hv0 := hv
  obtain ⟨A, c, A', c', rfl, hc, hr, hl1, hl2⟩ := hv
  have h0 : (((w.alloc (.cells #[.slice A h.cells.length c, .slice A' h.roots.length c'] 26)).alloc (.cells #[.slice none 0 0, .slice none 0 0] 26))).cell? ⟨w.heap.size, 0, none⟩ = some (.slice A h.cells.length c) := by simp [go_sem]
  have h1 : (((w.alloc (.cells #[.slice A h.cells.length c, .slice A' h.roots.length c'] 26)).alloc (.cells #[.slice none 0 0, .slice none 0 0] 26))).cell? ⟨w.heap.size, 1, none⟩ = some (.slice A' h.roots.length c') := by simp [go_sem]
  have n0 : (((w.alloc (.cells #[.slice A h.cells.length c, .slice A' h.roots.length c'] 26)).alloc (.cells #[.slice none 0 0, .slice none 0 0] 26))).cell? ⟨w.heap.size + 1, 0, none⟩ = some (.slice none 0 0) := by simp [go_sem]
  have n1 : (((w.alloc (.cells #[.slice A h.cells.length c, .slice A' h.roots.length c'] 26)).alloc (.cells #[.slice none 0 0, .slice none 0 0] 26))).cell? ⟨w.heap.size + 1, 1, none⟩ = some (.slice none 0 0) := by simp [go_sem]
  have nf : ∀ o, (((w.alloc (.cells #[.slice A h.cells.length c, .slice A' h.roots.length c'] 26)).alloc (.cells #[.slice none 0 0, .slice none 0 0] 26))).frozen? ⟨w.heap.size + 1, o, none⟩ = false := fun o => by simp [go_sem]
  have z3 : w.heap.size + 1 < (((w.alloc (.cells #[.slice A h.cells.length c, .slice A' h.roots.length c'] 26)).alloc (.cells #[.slice none 0 0, .slice none 0 0] 26))).heap.size := by simp
  have HW : Hid (Below w.heap.size w (((w.alloc (.cells #[.slice A h.cells.length c, .slice A' h.roots.length c'] 26)).alloc (.cells #[.slice none 0 0, .slice none 0 0] 26)))) := by unfold Hid; exact blw_
  cases hva : validM h
  · have HV := Lib.hid hva
    have HE := Lib.hid (sweep_bad (marks := marks) hva)
    clear hva
    go_enter Try.func97, Try.ntmps97
    go_wp2_with fail
    ((with_reducible refine (specHeapValid_any _ h _ (hv0.below blw_)).mono ?_); rw [HV.out]; rintro e w1 ⟨rfl, hB1⟩; have Y1 : Below (((w.alloc (.cells #[.slice A h.cells.length c, .slice A' h.roots.length c'] 26)).alloc (.cells #[.slice none 0 0, .slice none 0 0] 26))).heap.size ((w.alloc (.cells #[.slice A h.cells.length c, .slice A' h.roots.length c'] 26)).alloc (.cells #[.slice none 0 0, .slice none 0 0] 26)) w1 := blw_; have X1 : Below w.heap.size w w1 := HW.out.trans (Y1.mono HW.out.size); have sX1 := X1.size; have sY1 := Y1.size; clear hB1; have a0 := cell_below h0 Y1; have a1 := cell_below h1 Y1; have r0 := cell_below n0 Y1; have r1 := cell_below n1 Y1; have RFZ : Hid (∀ o, w1.frozen? ⟨w.heap.size + 1, o, none⟩ = false) := (fun o => ((bcell Y1).2.1 _ _ z3).trans (nf o)); have rf0 := RFZ.out 0; have rf1 := RFZ.out 1)
    go_wp2_with fail
    refine bodyPost_ret (v := .tuple #[.agg #[.slice none 0 0, .slice none 0 0], .int .i64 (-1)]) (by simp [results, Try.results97, go_sem, r0, r1]) rfl ⟨_, by rw [HE.out], ?_, (X1.setCell (by simp) _).setCell (by simp) _⟩
    rw [HE.out]
    exact OH.zer
  have HV := Lib.hid hva
  obtain ⟨v1, v2, v3⟩ := valid_small hva
  have HV3 := Lib.hid v3
  have v2' : h.roots.length ≤ 4 := by omega
  clear v3 v2
  by_cases hlen : marks.length = h.cells.length
  case neg =>
    have HE := Lib.hid (sweep_len hlen)
    clear hva
    go_enter Try.func97, Try.ntmps97
    go_wp2_with fail
    ((with_reducible refine (specHeapValid_any _ h _ (hv0.below blw_)).mono ?_); rw [HV.out]; rintro e w1 ⟨rfl, hB1⟩; have Y1 : Below (((w.alloc (.cells #[.slice A h.cells.length c, .slice A' h.roots.length c'] 26)).alloc (.cells #[.slice none 0 0, .slice none 0 0] 26))).heap.size ((w.alloc (.cells #[.slice A h.cells.length c, .slice A' h.roots.length c'] 26)).alloc (.cells #[.slice none 0 0, .slice none 0 0] 26)) w1 := blw_; have X1 : Below w.heap.size w w1 := HW.out.trans (Y1.mono HW.out.size); have sX1 := X1.size; have sY1 := Y1.size; clear hB1; have a0 := cell_below h0 Y1; have a1 := cell_below h1 Y1; have r0 := cell_below n0 Y1; have r1 := cell_below n1 Y1; have RFZ : Hid (∀ o, w1.frozen? ⟨w.heap.size + 1, o, none⟩ = false) := (fun o => ((bcell Y1).2.1 _ _ z3).trans (nf o)); have rf0 := RFZ.out 0; have rf1 := RFZ.out 1)
    go_wp2_with fail
    refine bodyPost_ret (v := .tuple #[.agg #[.slice none 0 0, .slice none 0 0], .int .i64 (-1)]) (by simp [results, Try.results97, go_sem, r0, r1]) rfl ⟨_, by rw [HE.out], ?_, (X1.setCell (by simp) _).setCell (by simp) _⟩
    rw [HE.out]
    exact OH.zer
  have HL := Lib.hid hlen
  have hm40 : marks.length ≤ 40 := by omega
  have hlenI : (marks.length : Int) = (h.cells.length : Int) := by omega
  clear hva hlen
  go_enter Try.func97, Try.ntmps97
  go_wp2_with fail
  ((with_reducible refine (specHeapValid_any _ h _ (hv0.below blw_)).mono ?_); rw [HV.out]; rintro e w1 ⟨rfl, hB1⟩; have Y1 : Below (((w.alloc (.cells #[.slice A h.cells.length c, .slice A' h.roots.length c'] 26)).alloc (.cells #[.slice none 0 0, .slice none 0 0] 26))).heap.size ((w.alloc (.cells #[.slice A h.cells.length c, .slice A' h.roots.length c'] 26)).alloc (.cells #[.slice none 0 0, .slice none 0 0] 26)) w1 := blw_; have X1 : Below w.heap.size w w1 := HW.out.trans (Y1.mono HW.out.size); have sX1 := X1.size; have sY1 := Y1.size; clear hB1; have a0 := cell_below h0 Y1; have a1 := cell_below h1 Y1; have r0 := cell_below n0 Y1; have r1 := cell_below n1 Y1; have RFZ : Hid (∀ o, w1.frozen? ⟨w.heap.size + 1, o, none⟩ = false) := (fun o => ((bcell Y1).2.1 _ _ z3).trans (nf o)); have rf0 := RFZ.out 0; have rf1 := RFZ.out 1)
  go_wp2
  go_loopw [6, 7, 8] (fun s6 s7 s8 wr => ∃ (j fr : Nat) (S : Option Addr) (cS : Nat) (ds : List Bool), j ≤ marks.length ∧ s8 = .int .i64 j ∧ s7 = .int .i64 fr ∧ s6 = .slice S ds.length cS ∧ Hid (ds = (nots marks).take j) ∧ Hid (fr = freedN (h.cells.take j) ((nots marks).take j)) ∧ OF 4 fb wr S cS ds ∧ (∀ b ∈ blk S, w1.heap.size ≤ b) ∧ Below w1.heap.size w1 wr) (fun _ _ i _ => marks.length - (intOf i).toNat)
  case atStart => exact ⟨0, 0, some ⟨w1.heap.size, 0, none⟩, 0, [], by omega, rfl, rfl, rfl, rfl, rfl, OF.fresh0 (heap_alloc_at _ _ _ rfl), fun b hb => by rw [mem_blk_some hb]; exact Nat.le_refl _, blw_⟩
  case round =>
    obtain ⟨j, fr, S, cS, ds, hj, rfl, rfl, rfl, HDS, HFR, hO, hSl, hBl⟩ := hrel
    have hBls := hBl.size
    have Xr : Below w.heap.size w wr := X1.trans (hBl.mono sX1)
    have hdl : ds.length = j := by rw [HDS.out, List.length_take, nots_len]; omega
    have HDL := Lib.hid hdl
    have hfle : fr ≤ 40 := by have h9 := sfreed_le (h.cells.take j) ((nots marks).take j); rw [← HFR.out, List.length_take] at h9; omega
    have b0 := cell_below a0 hBl
    have b1 := cell_below a1 hBl
    by_cases hlt : j < marks.length
    · obtain ⟨b, o, x, rfl, gx, c1, hb⟩ := (hm.below Xr).at_ hlt
      obtain ⟨b', o', cc, Ar, cr, rfl, gc, d0, d1, d2, -, -, hb'⟩ := (hc.below Xr).at_ (k := j) (by rw [← HL.out]; exact hlt)
      have HSN := Lib.hid (sfreed_snoc gc (nots_at gx))
      have HWN := Lib.hid (take_snoc_of (nots_at gx))
      have hjc : j < h.cells.length := by rw [← HL.out]; exact hlt
      have XM := Lib.hid (show w1.cell? ⟨b, o + j, none⟩ = some (.bool x) from by
        obtain ⟨b9, o9, x9, e9, g9, c9, -⟩ := (hm.below X1).at_ hlt
        injection e9 with e9; injection e9 with e91 e92; subst e91; subst e92
        rw [gx] at g9; injection g9 with g9; subst g9; exact c9)
      obtain ⟨u, hu⟩ : ∃ u, u = cc.used := ⟨_, rfl⟩
      have XU := Lib.hid (show w1.cell? ⟨b', o' + j * 3, none⟩ = some (.bool u) from by
        obtain ⟨b9, o9, x9, Ar9, cr9, e9, g9, c9, -⟩ := (hc.below X1).at_ hjc
        injection e9 with e9; injection e9 with e91 e92; subst e91; subst e92
        rw [gc] at g9; injection g9 with g9; subst g9; rw [hu]; exact c9)
      rw [← hu] at d0 HSN
      have A0 := Lib.hid a0
      have c1' : wr.cell? ⟨b, o + j, none⟩ = some (.bool x) := c1
      have hW2 : Hid (∀ W, Below w1.heap.size w1 W → W.cell? ⟨w.heap.size, 0, none⟩ = some (.slice (some ⟨b', o', none⟩) h.cells.length c) ∧ W.cell? ⟨b, o + j, none⟩ = some (.bool x) ∧ W.cell? ⟨b', o' + j * 3, none⟩ = some (.bool u)) := fun W hW =>
        ⟨cell_below A0.out hW, cell_below XM.out hW, cell_below XU.out hW⟩
      have HO := Lib.hid hO
      have HSL := Lib.hid hSl
      have hds40 : ds.length ≤ 40 := by omega
      clear gx gc d1 d2 c1 hu hdl hO hSl hm hc
      rcases bool_ft x with rfl | rfl
      · rcases bool_ft u with rfl | rfl
        · go_wp2_with (at_builtin; refine wpList_appb rfl (.tmp 29) (.tmp 35) rfl ds rfl rfl (HO.out.below blw_) (RF.single (x := true) (by simp [go_sem, fb])) (by simp; omega) ?_; intro S' cS' w' hO' hOn' hg'; have hB' : Below w1.heap.size w1 w' := Below.trans blw_ (hOn'.below (by have := hBl.size; simp; omega) HSL.out); have HSL' : ∀ b' ∈ blk S', w1.heap.size ≤ b' := (fun b' hb' => by have h8 := hBl.size; rcases hg' b' hb' with h9 | h9; exact HSL.out b' h9; simp at h9; omega); obtain ⟨y0, yc, yu⟩ := hW2.out w' hB'); go_roundw
          case rel => exact ⟨j + 1, fr, S', cS', ds ++ [true], by omega, by go_num, rfl, by simp, by unfold Hid; rw [HWN.out, ← HDS.out]; rfl, by unfold Hid; rw [HSN.out, ← HFR.out]; simp, hO', HSL', hB'⟩
          case measure => simp [intOf]; omega
        · go_wp2_with (at_builtin; refine wpList_appb rfl (.tmp 29) (.tmp 35) rfl ds rfl rfl (HO.out.below blw_) (RF.single (x := true) (by simp [go_sem, fb])) (by simp; omega) ?_; intro S' cS' w' hO' hOn' hg'; have hB' : Below w1.heap.size w1 w' := Below.trans blw_ (hOn'.below (by have := hBl.size; simp; omega) HSL.out); have HSL' : ∀ b' ∈ blk S', w1.heap.size ≤ b' := (fun b' hb' => by have h8 := hBl.size; rcases hg' b' hb' with h9 | h9; exact HSL.out b' h9; simp at h9; omega); obtain ⟨y0, yc, yu⟩ := hW2.out w' hB'); go_roundw
          case rel => exact ⟨j + 1, fr + 1, S', cS', ds ++ [true], by omega, by go_num, by go_num, by simp, by unfold Hid; rw [HWN.out, ← HDS.out]; rfl, by unfold Hid; rw [HSN.out, ← HFR.out]; simp, hO', HSL', hB'⟩
          case measure => simp [intOf]; omega
      · go_wp2_with (at_builtin; refine wpList_appb rfl (.tmp 29) (.tmp 35) rfl ds rfl rfl (HO.out.below blw_) (RF.single (x := false) (by simp [go_sem, fb])) (by simp; omega) ?_; intro S' cS' w' hO' hOn' hg'; have hB' : Below w1.heap.size w1 w' := Below.trans blw_ (hOn'.below (by have := hBl.size; simp; omega) HSL.out); have HSL' : ∀ b' ∈ blk S', w1.heap.size ≤ b' := (fun b' hb' => by have h8 := hBl.size; rcases hg' b' hb' with h9 | h9; exact HSL.out b' h9; simp at h9; omega); obtain ⟨y0, yc, yu⟩ := hW2.out w' hB'); go_roundw
        case rel => exact ⟨j + 1, fr, S', cS', ds ++ [false], by omega, by go_num, rfl, by simp, by unfold Hid; rw [HWN.out, ← HDS.out]; rfl, by unfold Hid; rw [HSN.out, ← HFR.out]; simp, hO', HSL', hB'⟩
        case measure => simp [intOf]; omega
    · have hke : j = marks.length := by omega
      have hdw : ds = nots marks := by rw [HDS.out, hke, ← nots_len marks, List.take_length]
      have hcw : h.cells.take marks.length = h.cells := by rw [HL.out, List.take_length]
      have hww : (nots marks).take marks.length = nots marks := by rw [← nots_len marks, List.take_length]
      have hfw : fr = freedN h.cells (nots marks) := by rw [HFR.out, hke, hcw, hww]
      have HDC : Hid (ds.length = h.cells.length) := by unfold Hid; rw [hdw, nots_len, HL.out]
      have hds40 : ds.length ≤ 40 := by omega
      have hrh := hv0.below Xr
      have hOR := hO.rf
      have r0' := cell_below r0 hBl
      have r1' := cell_below r1 hBl
      have z1 : w.heap.size + 1 < w1.heap.size := by simp at sY1; omega
      have RFR : Hid (∀ o, wr.frozen? ⟨w.heap.size + 1, o, none⟩ = false) := fun o => ((bcell hBl).2.1 _ _ z1).trans (RFZ.out o)
      have HDW := Lib.hid hdw
      have HFW := Lib.hid hfw
      cases hvd : validM (dropM h ds)
      all_goals
        have HVD := Lib.hid hvd
        clear hke hdw hcw hww hfw hdl hO hvd hm hc hr h0 h1 n0 n1 nf z3 a0 a1 r0 r1 rf0 rf1 Y1 hlenI
        go_wp2_with fail
        (with_reducible refine (l11Drop_any _ h S ds cS _ (hrh.below blw_) (hOR.below blw_) HDC.out (by omega) (fun d hd => Nat.le_trans (HV3.out d hd) (by omega)) (by omega)).mono ?_)
        rintro e w3 ⟨v3, rfl, ⟨B, d, B', d', os, rfl, hm3, hO3, hlo3⟩, hB3⟩
        have Y3 : Below wr.heap.size wr w3 := blw_
        have s0 := cell_below r0' Y3
        have s1 := cell_below r1' Y3
        have sf : ∀ o, w3.frozen? ⟨w.heap.size + 1, o, none⟩ = false := fun o => ((bcell Y3).2.1 _ _ (by omega)).trans (RFR.out o)
        have HM3 := Lib.hid hm3
        have HO3 := Lib.hid hO3
        have HLO3 := Lib.hid hlo3
        have hrh3 := Lib.hid ((hO3.rhs hm3).rh d d')
        have z3 := Y3.size
        clear hB3 r0' r1' b0 b1 hm3 hO3 hlo3
        go_wp2_with fail
        (with_reducible refine (specHeapValid_any _ (dropM h ds) _ (hrh3.out.below blw_)).mono ?_)
        rw [HVD.out]
        rintro e w4 ⟨rfl, hB4⟩
        have Y4 : Below w3.heap.size w3 w4 := blw_
        have zz4 : w3.heap.size < w4.heap.size := by have := hB4.size; simp at this; omega
        have t0 := cell_below s0 Y4
        have t1 := cell_below s1 Y4
        have tf : ∀ o, w4.frozen? ⟨w.heap.size + 1, o, none⟩ = false := fun o => ((bcell Y4).2.1 _ _ (by omega)).trans (sf o)
        have tf0 := tf 0
        have tf1 := tf 1
        have p0 : w4.cell? ⟨w3.heap.size, 0, none⟩ = some (.slice B (dropM h ds).cells.length d) := by rw [(bcell hB4).1 _ _ (by simp)]; simp [go_sem]
        have p1 : w4.cell? ⟨w3.heap.size, 1, none⟩ = some (.slice B' (dropM h ds).roots.length d') := by rw [(bcell hB4).1 _ _ (by simp)]; simp [go_sem]
        have X4 : Below w.heap.size w w4 := Xr.trans ((Y3.trans (Y4.mono z3)).mono Xr.size)
        have hO4 := Lib.hid (HO3.out.below Y4)
        clear hB4 s0 s1 sf tf Y3 Y4
        go_wp2_with fail
      · have HE : Hid (sweepM h marks = (zeroH, -1)) := sweep_open (by rw [← HDW.out]; exact HVD.out)
        refine bodyPost_ret (v := .tuple #[.agg #[.slice none 0 0, .slice none 0 0], .int .i64 (-1)]) (by simp [results, Try.results97, go_sem, t0, t1]) rfl ⟨_, by rw [HE.out], ?_, (X4.setCell (by simp) _).setCell (by simp) _⟩
        rw [HE.out]
        exact OH.zer
      · have HE : Hid (sweepM h marks = (dropM h ds, (fr : Int))) := by unfold Hid; rw [HFW.out, HDW.out]; exact sweep_ok HV.out HL.out (by rw [← HDW.out]; exact HVD.out)
        refine bodyPost_ret (v := .tuple #[.agg #[.slice B (dropM h ds).cells.length d, .slice B' (dropM h ds).roots.length d'], .int .i64 fr]) (by simp [results, Try.results97, go_sem, t0, t1]) rfl ⟨_, by rw [HE.out], ?_, (X4.setCell (by simp) _).setCell (by simp) _⟩
        rw [HE.out]
        have hlo3 := HLO3.out
        exact ((OH.setlow (OH.setlow (lo := wr.heap.size) ⟨B, d, B', d', os, rfl, HM3.out, hO4.out, fun b hb => by have h7 := hlo3 b hb; (try simp only [World.size_alloc, World.size_setCell, World.size_drew, World.heap_drewN] at h7); omega⟩ (a := ⟨w.heap.size + 1, 0, none⟩) (by simp; omega) (.slice B (dropM h ds).cells.length d)) (a := ⟨w.heap.size + 1, 1, none⟩) (by simp; omega) (.slice B' (dropM h ds).roots.length d')).lo_ (by have := Xr.size; omega))
end Go.Proofs.Ytkikeanpbffpkaa
