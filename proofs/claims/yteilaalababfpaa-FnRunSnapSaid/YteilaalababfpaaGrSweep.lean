/- Texts of one family, one behind the other: SweepS, SweepI, SweepJ. -/
import Derived.Test.YteilaalababfpaaChecked
import Derived.Deep.DeepCutAuto
import Derived.Test.YteilaalababfpaaGrData
import Derived.Test.YteilaalababfpaaSmall
import Derived.Test.YteilaalababfpaaGrHeap
import Derived.Test.YteilaalababfpaaGrCopy
import Derived.Test.YteilaalababfpaaGrExec
import Derived.Test.YteilaalababfpaaSnapV
import Derived.Lib.QuietBelow
/- The reference's SweepCells returns sweepM, in new memory. -/
namespace Go.Proofs.Yteilaalababfpaa
open Go.RowKit
set_option maxRecDepth 100000
set_option linter.all false
theorem sweep_bad {h : HeapM} {marks : List Bool} (hv : validM h = false) : sweepM h marks = (zeroH, -1) := sweep_no (fun hh => by rw [hv] at hh; cases hh.1)
theorem sweep_len {h : HeapM} {marks : List Bool} (hl : marks.length ≠ h.cells.length) : sweepM h marks = (zeroH, -1) := sweep_no (fun hh => hl hh.2.1)
theorem sweep_open {h : HeapM} {marks : List Bool} (hv : validM (dropM h (nots marks)) = false) : sweepM h marks = (zeroH, -1) := by unfold sweepM; rw [hv]; simp
theorem sweep_ok {h : HeapM} {marks : List Bool} (h1 : validM h = true) (h2 : marks.length = h.cells.length) (hv : validM (dropM h (nots marks)) = true) : sweepM h marks = (dropM h (nots marks), (freedN h.cells (nots marks) : Int)) := by unfold sweepM; rw [h1, hv]; simp [h2]
set_option maxHeartbeats 4000000 in
theorem specSweepCells_any (v : Value) (h : HeapM) (A2 : Option Addr) (marks : List Bool) (c2 : Nat) (w : World) (hv : RH w v h) (hm : RF fb w A2 marks) (hml : marks.length ≤ 9223372036854775807) :
    Calls Try.prog 92 #[v, .slice A2 marks.length c2] w fun e w' => ∃ v', e = .returned (.tuple #[v', .int .i64 (sweepM h marks).2]) ∧ OH w.heap.size w' v' (sweepM h marks).1 ∧ Below w.heap.size w w' := by
  have hv0 := hv
  obtain ⟨A, c, A', c', rfl, hc, hr, hl1, hl2⟩ := hv
  have h0 : (((w.alloc (.cells #[.slice A h.cells.length c, .slice A' h.roots.length c'] 26)).alloc (.cells #[.slice none 0 0, .slice none 0 0] 26))).cell? ⟨w.heap.size, 0, none⟩ = some (.slice A h.cells.length c) := by simp [go_sem]
  have h1 : (((w.alloc (.cells #[.slice A h.cells.length c, .slice A' h.roots.length c'] 26)).alloc (.cells #[.slice none 0 0, .slice none 0 0] 26))).cell? ⟨w.heap.size, 1, none⟩ = some (.slice A' h.roots.length c') := by simp [go_sem]
  have n0 : (((w.alloc (.cells #[.slice A h.cells.length c, .slice A' h.roots.length c'] 26)).alloc (.cells #[.slice none 0 0, .slice none 0 0] 26))).cell? ⟨w.heap.size + 1, 0, none⟩ = some (.slice none 0 0) := by simp [go_sem]
  have n1 : (((w.alloc (.cells #[.slice A h.cells.length c, .slice A' h.roots.length c'] 26)).alloc (.cells #[.slice none 0 0, .slice none 0 0] 26))).cell? ⟨w.heap.size + 1, 1, none⟩ = some (.slice none 0 0) := by simp [go_sem]
  have nf : ∀ o, (((w.alloc (.cells #[.slice A h.cells.length c, .slice A' h.roots.length c'] 26)).alloc (.cells #[.slice none 0 0, .slice none 0 0] 26))).frozen? ⟨w.heap.size + 1, o, none⟩ = false := fun o => by simp [go_sem]
  have z3 : w.heap.size + 1 < (((w.alloc (.cells #[.slice A h.cells.length c, .slice A' h.roots.length c'] 26)).alloc (.cells #[.slice none 0 0, .slice none 0 0] 26))).heap.size := by simp
  have HW : Hid (Below w.heap.size w (((w.alloc (.cells #[.slice A h.cells.length c, .slice A' h.roots.length c'] 26)).alloc (.cells #[.slice none 0 0, .slice none 0 0] 26)))) := by unfold Hid; exact blw_
  cases hva : validM h
  · have HV := Lib.hid hva
    have HE := Lib.hid (sweep_bad (marks := marks) hva)
    clear hva
    go_enter Try.func92, Try.ntmps92
    go_wp2_with fail
    ((with_reducible refine (specHeapValid_any _ h _ (hv0.below blw_)).mono ?_); rw [HV.out]; rintro e w1 ⟨rfl, hB1⟩; have Y1 : Below (((w.alloc (.cells #[.slice A h.cells.length c, .slice A' h.roots.length c'] 26)).alloc (.cells #[.slice none 0 0, .slice none 0 0] 26))).heap.size ((w.alloc (.cells #[.slice A h.cells.length c, .slice A' h.roots.length c'] 26)).alloc (.cells #[.slice none 0 0, .slice none 0 0] 26)) w1 := blw_; have X1 : Below w.heap.size w w1 := HW.out.trans (Y1.mono HW.out.size); have sX1 := X1.size; have sY1 := Y1.size; clear hB1; have a0 := cell_below h0 Y1; have a1 := cell_below h1 Y1; have r0 := cell_below n0 Y1; have r1 := cell_below n1 Y1; have RFZ : Hid (∀ o, w1.frozen? ⟨w.heap.size + 1, o, none⟩ = false) := (fun o => ((bcell Y1).2.1 _ _ z3).trans (nf o)); have rf0 := RFZ.out 0; have rf1 := RFZ.out 1)
    go_wp2_with fail
    refine bodyPost_ret (v := .tuple #[.agg #[.slice none 0 0, .slice none 0 0], .int .i64 (-1)]) (by simp [results, Try.results92, go_sem, r0, r1]) rfl ⟨_, by rw [HE.out], ?_, (X1.setCell (by simp) _).setCell (by simp) _⟩
    rw [HE.out]
    exact OH.zer
  have HV := Lib.hid hva
  obtain ⟨v1, v2, v3⟩ := valid_small hva
  have HV3 := Lib.hid v3
  have v2' : h.roots.length ≤ 4 := by omega
  clear v3 v2
  by_cases hlen : marks.length = h.cells.length
  case neg =>
    have HE := Lib.hid (sweep_len hlen)
    clear hva
    go_enter Try.func92, Try.ntmps92
    go_wp2_with fail
    ((with_reducible refine (specHeapValid_any _ h _ (hv0.below blw_)).mono ?_); rw [HV.out]; rintro e w1 ⟨rfl, hB1⟩; have Y1 : Below (((w.alloc (.cells #[.slice A h.cells.length c, .slice A' h.roots.length c'] 26)).alloc (.cells #[.slice none 0 0, .slice none 0 0] 26))).heap.size ((w.alloc (.cells #[.slice A h.cells.length c, .slice A' h.roots.length c'] 26)).alloc (.cells #[.slice none 0 0, .slice none 0 0] 26)) w1 := blw_; have X1 : Below w.heap.size w w1 := HW.out.trans (Y1.mono HW.out.size); have sX1 := X1.size; have sY1 := Y1.size; clear hB1; have a0 := cell_below h0 Y1; have a1 := cell_below h1 Y1; have r0 := cell_below n0 Y1; have r1 := cell_below n1 Y1; have RFZ : Hid (∀ o, w1.frozen? ⟨w.heap.size + 1, o, none⟩ = false) := (fun o => ((bcell Y1).2.1 _ _ z3).trans (nf o)); have rf0 := RFZ.out 0; have rf1 := RFZ.out 1)
    go_wp2_with fail
    refine bodyPost_ret (v := .tuple #[.agg #[.slice none 0 0, .slice none 0 0], .int .i64 (-1)]) (by simp [results, Try.results92, go_sem, r0, r1]) rfl ⟨_, by rw [HE.out], ?_, (X1.setCell (by simp) _).setCell (by simp) _⟩
    rw [HE.out]
    exact OH.zer
  have HL := Lib.hid hlen
  have hm40 : marks.length ≤ 40 := by omega
  have hlenI : (marks.length : Int) = (h.cells.length : Int) := by omega
  clear hva hlen
  go_enter Try.func92, Try.ntmps92
  go_wp2_with fail
  ((with_reducible refine (specHeapValid_any _ h _ (hv0.below blw_)).mono ?_); rw [HV.out]; rintro e w1 ⟨rfl, hB1⟩; have Y1 : Below (((w.alloc (.cells #[.slice A h.cells.length c, .slice A' h.roots.length c'] 26)).alloc (.cells #[.slice none 0 0, .slice none 0 0] 26))).heap.size ((w.alloc (.cells #[.slice A h.cells.length c, .slice A' h.roots.length c'] 26)).alloc (.cells #[.slice none 0 0, .slice none 0 0] 26)) w1 := blw_; have X1 : Below w.heap.size w w1 := HW.out.trans (Y1.mono HW.out.size); have sX1 := X1.size; have sY1 := Y1.size; clear hB1; have a0 := cell_below h0 Y1; have a1 := cell_below h1 Y1; have r0 := cell_below n0 Y1; have r1 := cell_below n1 Y1; have RFZ : Hid (∀ o, w1.frozen? ⟨w.heap.size + 1, o, none⟩ = false) := (fun o => ((bcell Y1).2.1 _ _ z3).trans (nf o)); have rf0 := RFZ.out 0; have rf1 := RFZ.out 1)
  go_wp2
  go_loopw [6, 7, 8] (fun s6 s7 s8 wr => ∃ (j fr : Nat) (S : Option Addr) (cS : Nat) (ds : List Bool), j ≤ marks.length ∧ s8 = .int .i64 j ∧ s7 = .int .i64 fr ∧ s6 = .slice S ds.length cS ∧ Hid (ds = (nots marks).take j) ∧ Hid (fr = freedN (h.cells.take j) ((nots marks).take j)) ∧ OF 4 fb wr S cS ds ∧ (∀ b ∈ blk S, w1.heap.size ≤ b) ∧ Below w1.heap.size w1 wr) (fun _ _ i _ => marks.length - (intOf i).toNat)
  case atStart => exact ⟨0, 0, some ⟨w1.heap.size, 0, none⟩, 0, [], by omega, rfl, rfl, rfl, rfl, rfl, OF.fresh0 (heap_alloc_at _ _ _ rfl), fun b hb => by rw [mem_blk_some hb]; exact Nat.le_refl _, blw_⟩
  case round =>
    obtain ⟨j, fr, S, cS, ds, hj, rfl, rfl, rfl, HDS, HFR, hO, hSl, hBl⟩ := hrel
    have hBls := hBl.size
    have Xr : Below w.heap.size w wr := X1.trans (hBl.mono sX1)
    have hdl : ds.length = j := by rw [HDS.out, List.length_take, nots_len]; omega
    have HDL := Lib.hid hdl
    have hfle : fr ≤ 40 := by have h9 := sfreed_le (h.cells.take j) ((nots marks).take j); rw [← HFR.out, List.length_take] at h9; omega
    have b0 := cell_below a0 hBl
    have b1 := cell_below a1 hBl
    by_cases hlt : j < marks.length
    · obtain ⟨b, o, x, rfl, gx, c1, hb⟩ := (hm.below Xr).at_ hlt
      obtain ⟨b', o', cc, Ar, cr, rfl, gc, d0, d1, d2, -, -, hb'⟩ := (hc.below Xr).at_ (k := j) (by rw [← HL.out]; exact hlt)
      have HSN := Lib.hid (sfreed_snoc gc (nots_at gx))
      have HWN := Lib.hid (take_snoc_of (nots_at gx))
      have hjc : j < h.cells.length := by rw [← HL.out]; exact hlt
      have XM := Lib.hid (show w1.cell? ⟨b, o + j, none⟩ = some (.bool x) from by
        obtain ⟨b9, o9, x9, e9, g9, c9, -⟩ := (hm.below X1).at_ hlt
        injection e9 with e9; injection e9 with e91 e92; subst e91; subst e92
        rw [gx] at g9; injection g9 with g9; subst g9; exact c9)
      obtain ⟨u, hu⟩ : ∃ u, u = cc.used := ⟨_, rfl⟩
      have XU := Lib.hid (show w1.cell? ⟨b', o' + j * 3, none⟩ = some (.bool u) from by
        obtain ⟨b9, o9, x9, Ar9, cr9, e9, g9, c9, -⟩ := (hc.below X1).at_ hjc
        injection e9 with e9; injection e9 with e91 e92; subst e91; subst e92
        rw [gc] at g9; injection g9 with g9; subst g9; rw [hu]; exact c9)
      rw [← hu] at d0 HSN
      have A0 := Lib.hid a0
      have c1' : wr.cell? ⟨b, o + j, none⟩ = some (.bool x) := c1
      have hW2 : Hid (∀ W, Below w1.heap.size w1 W → W.cell? ⟨w.heap.size, 0, none⟩ = some (.slice (some ⟨b', o', none⟩) h.cells.length c) ∧ W.cell? ⟨b, o + j, none⟩ = some (.bool x) ∧ W.cell? ⟨b', o' + j * 3, none⟩ = some (.bool u)) := fun W hW =>
        ⟨cell_below A0.out hW, cell_below XM.out hW, cell_below XU.out hW⟩
      have HO := Lib.hid hO
      have HSL := Lib.hid hSl
      have hds40 : ds.length ≤ 40 := by omega
      clear gx gc d1 d2 c1 hu hdl hO hSl hm hc
      rcases bool_ft x with rfl | rfl
      · rcases bool_ft u with rfl | rfl
        · go_wp2_with (at_builtin; refine wpList_appb rfl (.tmp 29) (.tmp 35) rfl ds rfl rfl (HO.out.below blw_) (RF.single (x := true) (by simp [go_sem, fb])) (by simp; omega) ?_; intro S' cS' w' hO' hOn' hg'; have hB' : Below w1.heap.size w1 w' := Below.trans blw_ (hOn'.below (by have := hBl.size; simp; omega) HSL.out); have HSL' : ∀ b' ∈ blk S', w1.heap.size ≤ b' := (fun b' hb' => by have h8 := hBl.size; rcases hg' b' hb' with h9 | h9; exact HSL.out b' h9; simp at h9; omega); obtain ⟨y0, yc, yu⟩ := hW2.out w' hB'); go_roundw
          case rel => exact ⟨j + 1, fr, S', cS', ds ++ [true], by omega, by go_num, rfl, by simp, by unfold Hid; rw [HWN.out, ← HDS.out]; rfl, by unfold Hid; rw [HSN.out, ← HFR.out]; simp, hO', HSL', hB'⟩
          case measure => simp [intOf]; omega
        · go_wp2_with (at_builtin; refine wpList_appb rfl (.tmp 29) (.tmp 35) rfl ds rfl rfl (HO.out.below blw_) (RF.single (x := true) (by simp [go_sem, fb])) (by simp; omega) ?_; intro S' cS' w' hO' hOn' hg'; have hB' : Below w1.heap.size w1 w' := Below.trans blw_ (hOn'.below (by have := hBl.size; simp; omega) HSL.out); have HSL' : ∀ b' ∈ blk S', w1.heap.size ≤ b' := (fun b' hb' => by have h8 := hBl.size; rcases hg' b' hb' with h9 | h9; exact HSL.out b' h9; simp at h9; omega); obtain ⟨y0, yc, yu⟩ := hW2.out w' hB'); go_roundw
          case rel => exact ⟨j + 1, fr + 1, S', cS', ds ++ [true], by omega, by go_num, by go_num, by simp, by unfold Hid; rw [HWN.out, ← HDS.out]; rfl, by unfold Hid; rw [HSN.out, ← HFR.out]; simp, hO', HSL', hB'⟩
          case measure => simp [intOf]; omega
      · go_wp2_with (at_builtin; refine wpList_appb rfl (.tmp 29) (.tmp 35) rfl ds rfl rfl (HO.out.below blw_) (RF.single (x := false) (by simp [go_sem, fb])) (by simp; omega) ?_; intro S' cS' w' hO' hOn' hg'; have hB' : Below w1.heap.size w1 w' := Below.trans blw_ (hOn'.below (by have := hBl.size; simp; omega) HSL.out); have HSL' : ∀ b' ∈ blk S', w1.heap.size ≤ b' := (fun b' hb' => by have h8 := hBl.size; rcases hg' b' hb' with h9 | h9; exact HSL.out b' h9; simp at h9; omega); obtain ⟨y0, yc, yu⟩ := hW2.out w' hB'); go_roundw
        case rel => exact ⟨j + 1, fr, S', cS', ds ++ [false], by omega, by go_num, rfl, by simp, by unfold Hid; rw [HWN.out, ← HDS.out]; rfl, by unfold Hid; rw [HSN.out, ← HFR.out]; simp, hO', HSL', hB'⟩
        case measure => simp [intOf]; omega
    · have hke : j = marks.length := by omega
      have hdw : ds = nots marks := by rw [HDS.out, hke, ← nots_len marks, List.take_length]
      have hcw : h.cells.take marks.length = h.cells := by rw [HL.out, List.take_length]
      have hww : (nots marks).take marks.length = nots marks := by rw [← nots_len marks, List.take_length]
      have hfw : fr = freedN h.cells (nots marks) := by rw [HFR.out, hke, hcw, hww]
      have HDC : Hid (ds.length = h.cells.length) := by unfold Hid; rw [hdw, nots_len, HL.out]
      have hds40 : ds.length ≤ 40 := by omega
      have hrh := hv0.below Xr
      have hOR := hO.rf
      have r0' := cell_below r0 hBl
      have r1' := cell_below r1 hBl
      have z1 : w.heap.size + 1 < w1.heap.size := by simp at sY1; omega
      have RFR : Hid (∀ o, wr.frozen? ⟨w.heap.size + 1, o, none⟩ = false) := fun o => ((bcell hBl).2.1 _ _ z1).trans (RFZ.out o)
      have HDW := Lib.hid hdw
      have HFW := Lib.hid hfw
      cases hvd : validM (dropM h ds)
      all_goals
        have HVD := Lib.hid hvd
        clear hke hdw hcw hww hfw hdl hO hvd hm hc hr h0 h1 n0 n1 nf z3 a0 a1 r0 r1 rf0 rf1 Y1 hlenI
        go_wp2_with fail
        (with_reducible refine (l11Drop_any _ h S ds cS _ (hrh.below blw_) (hOR.below blw_) HDC.out (by omega) (fun d hd => Nat.le_trans (HV3.out d hd) (by omega)) (by omega)).mono ?_)
        rintro e w3 ⟨v3, rfl, ⟨B, d, B', d', os, rfl, hm3, hO3, hlo3⟩, hB3⟩
        have Y3 : Below wr.heap.size wr w3 := blw_
        have s0 := cell_below r0' Y3
        have s1 := cell_below r1' Y3
        have sf : ∀ o, w3.frozen? ⟨w.heap.size + 1, o, none⟩ = false := fun o => ((bcell Y3).2.1 _ _ (by omega)).trans (RFR.out o)
        have HM3 := Lib.hid hm3
        have HO3 := Lib.hid hO3
        have HLO3 := Lib.hid hlo3
        have hrh3 := Lib.hid ((hO3.rhs hm3).rh d d')
        have z3 := Y3.size
        clear hB3 r0' r1' b0 b1 hm3 hO3 hlo3
        go_wp2_with fail
        (with_reducible refine (specHeapValid_any _ (dropM h ds) _ (hrh3.out.below blw_)).mono ?_)
        rw [HVD.out]
        rintro e w4 ⟨rfl, hB4⟩
        have Y4 : Below w3.heap.size w3 w4 := blw_
        have zz4 : w3.heap.size < w4.heap.size := by have := hB4.size; simp at this; omega
        have t0 := cell_below s0 Y4
        have t1 := cell_below s1 Y4
        have tf : ∀ o, w4.frozen? ⟨w.heap.size + 1, o, none⟩ = false := fun o => ((bcell Y4).2.1 _ _ (by omega)).trans (sf o)
        have tf0 := tf 0
        have tf1 := tf 1
        have p0 : w4.cell? ⟨w3.heap.size, 0, none⟩ = some (.slice B (dropM h ds).cells.length d) := by rw [(bcell hB4).1 _ _ (by simp)]; simp [go_sem]
        have p1 : w4.cell? ⟨w3.heap.size, 1, none⟩ = some (.slice B' (dropM h ds).roots.length d') := by rw [(bcell hB4).1 _ _ (by simp)]; simp [go_sem]
        have X4 : Below w.heap.size w w4 := Xr.trans ((Y3.trans (Y4.mono z3)).mono Xr.size)
        have hO4 := Lib.hid (HO3.out.below Y4)
        clear hB4 s0 s1 sf tf Y3 Y4
        go_wp2_with fail
      · have HE : Hid (sweepM h marks = (zeroH, -1)) := sweep_open (by rw [← HDW.out]; exact HVD.out)
        refine bodyPost_ret (v := .tuple #[.agg #[.slice none 0 0, .slice none 0 0], .int .i64 (-1)]) (by simp [results, Try.results92, go_sem, t0, t1]) rfl ⟨_, by rw [HE.out], ?_, (X4.setCell (by simp) _).setCell (by simp) _⟩
        rw [HE.out]
        exact OH.zer
      · have HE : Hid (sweepM h marks = (dropM h ds, (fr : Int))) := by unfold Hid; rw [HFW.out, HDW.out]; exact sweep_ok HV.out HL.out (by rw [← HDW.out]; exact HVD.out)
        refine bodyPost_ret (v := .tuple #[.agg #[.slice B (dropM h ds).cells.length d, .slice B' (dropM h ds).roots.length d'], .int .i64 fr]) (by simp [results, Try.results92, go_sem, t0, t1]) rfl ⟨_, by rw [HE.out], ?_, (X4.setCell (by simp) _).setCell (by simp) _⟩
        rw [HE.out]
        have hlo3 := HLO3.out
        exact ((OH.setlow (OH.setlow (lo := wr.heap.size) ⟨B, d, B', d', os, rfl, HM3.out, hO4.out, fun b hb => by have h7 := hlo3 b hb; (try simp only [World.size_alloc, World.size_setCell, World.size_drew, World.heap_drewN] at h7); omega⟩ (a := ⟨w.heap.size + 1, 0, none⟩) (by simp; omega) (.slice B (dropM h ds).cells.length d)) (a := ⟨w.heap.size + 1, 1, none⟩) (by simp; omega) (.slice B' (dropM h ds).roots.length d')).lo_ (by have := Xr.size; omega))
end Go.Proofs.Yteilaalababfpaa
/- The program's refersOutside and SweepCells. -/
namespace Go.Proofs.Yteilaalababfpaa
open Go.RowKit
set_option maxRecDepth 100000
set_option linter.all false
structure OSl where
  A : Option Addr
  cap : Nat
  xs : List Int
def fsl (o : OSl) : Value := .slice o.A o.xs.length o.cap
theorem info_ints : (Try.prog.info? 24).map (fun i => (i.zero, i.size, i.bytes)) = some (some (.slice none 0 0), 1, 24) := by kernel_rfl
theorem app_sls {w : World} (ty : TypeId) {S : Option Addr} {c : Nat} {xs : List OSl} (hown : OF 24 fsl w S c xs) {A : Option Addr} {ys : List OSl} (c2 : Nat) (hr : RF fsl w A ys) (h : xs.length + ys.length ≤ 1099511627776) :
    ∃ S' c' w', (Builtin.append_ #[173, 173] ty #[.slice S xs.length c, .slice A ys.length c2]).run Try.prog w = .ok (.slice S' (xs ++ ys).length c') w' ∧ OF 24 fsl w' S' c' (xs ++ ys) ∧ Only (blk S) w w' ∧ (∀ g ∈ blk S', g ∈ blk S ∨ w.heap.size ≤ g) := by
  obtain ⟨i0, hi, hz0, hz1, hz2⟩ := info_parts info_ints
  exact run_app 173 ty i0 _ 24 Try.underlying173 hi hz0 hz1 hz2 rfl (fun _ => rfl) hown c2 hr (by omega) (by omega) hr.nil_len
theorem wpList_apps {w : World} {ops : Array Oper} {o : Oper} {a : Act} {rest : List Oper} {Q : Exit → Act → World → Prop} (hgd : o.guard = none) (s x : Operand) (ho : o.op = .call { callee := .builtin .append, args := #[s, x], argTypes := #[173, 173] })
    {S A : Option Addr} {c c2 : Nat} (xs : List OSl) {ys : List OSl} (hs : a.eval s = .slice S xs.length c) (hx : a.eval x = .slice A ys.length c2)
    (hown : OF 24 fsl w S c xs) (hr : RF fsl w A ys) (h : xs.length + ys.length ≤ 1099511627776)
    (hK : ∀ S' c' w', OF 24 fsl w' S' c' (xs ++ ys) → Only (blk S) w w' → (∀ g ∈ blk S', g ∈ blk S ∨ w.heap.size ≤ g) → wpList Try.prog ops Q rest (a.put o.dst (.slice S' (xs ++ ys).length c')) w') :
    wpList Try.prog ops Q (o :: rest) a w := by
  obtain ⟨S', c', w', hrun, h1, h2, h3⟩ := app_sls o.type hown c2 hr h
  exact wpList_ran hgd s x _ ho hs hx hrun (hK _ _ _ h1 h2 h3)
def listsM (h : HeapM) (s j : Nat) : List (List Int) := h.roots :: ((List.range j).filter fun i => s.testBit i).map (refsAt h)
theorem listsM_succ (h : HeapM) (s j : Nat) : listsM h s (j + 1) = if s.testBit j then listsM h s j ++ [refsAt h j] else listsM h s j := by
  unfold listsM
  rw [List.range_succ, List.filter_append, List.map_append]
  cases hb : s.testBit j <;> simp [hb]
theorem listsM_len (h : HeapM) (s j : Nat) : (listsM h s j).length ≤ j + 1 := by
  unfold listsM
  rw [List.length_cons, List.length_map]
  have := List.length_filter_le (fun i => s.testBit i) (List.range j)
  simp at this
  omega
def outN (h : HeapM) (s : Nat) : Nat := andN (usedBits h.cells) s
def outS (h : HeapM) (s : Nat) : Bool := (listsM h s h.cells.length).any fun l => l.any (hasB (outN h s))
theorem outS_out {h : HeapM} {marks : List Bool} (hn : h.cells.length ≤ 64) (hl : marks.length = h.cells.length) : outS h (bitsOf marks) = outB h marks := by
  have hu : usedBits h.cells < 18446744073709551616 := bitsOf_lt64 (by simp; omega)
  have hm : bitsOf marks < 18446744073709551616 := bitsOf_lt64 (by omega)
  have key : hasB (outN h (bitsOf marks)) = outRef h marks := by
    funext r
    unfold hasB outRef outN
    rw [andN_test hu hm, bitsOf_test, usedBits_test]
  unfold outS outB listsM
  rw [key, List.any_cons]
  congr 1
  rw [Bool.eq_iff_iff]
  simp only [List.any_eq_true, List.mem_map, List.mem_filter, List.mem_range, outAt, Bool.and_eq_true, bitsOf_test]
  constructor
  · rintro ⟨l, ⟨i, ⟨h1, h2⟩, rfl⟩, x, h3, h4⟩
    exact ⟨i, h1, h2, x, h3, h4⟩
  · rintro ⟨i, h1, h2, x, h3, h4⟩
    exact ⟨_, ⟨i, ⟨h1, h2⟩, rfl⟩, x, h3, h4⟩
set_option maxHeartbeats 4000000 in
theorem refersOutside_any (v : Value) (h : HeapM) (s : Nat) (w : World) (hv : RH w v h) (hva : validM h = true) (hs : s < 18446744073709551616) :
    Calls Try.prog 141 #[v, .int .u64 (s : Int)] w fun e w' => e = .returned (.bool (outS h s)) ∧ Below w.heap.size w w' := by
  have hv0 := hv
  obtain ⟨A, c, A', c', rfl, hc, hr, hl1, hl2⟩ := hv
  obtain ⟨v1, v2, v3⟩ := valid_small hva
  obtain ⟨lt1, lt2⟩ := validM_lt hva
  have hu : usedBits h.cells < 18446744073709551616 := bitsOf_lt64 (by simp; omega)
  have hout : outN h s < 18446744073709551616 := andN_lt hu
  have hand : bits .andNot .u64 ((usedBits h.cells : Nat) : Int) ((s : Nat) : Int) = ((outN h s : Nat) : Int) := u64_andNot_nat _ _ hu hs
  have k0 : ((w.alloc (.cells #[.slice A h.cells.length c, .slice A' h.roots.length c'] 26))).cell? ⟨w.heap.size, 0, none⟩ = some (.slice A h.cells.length c) := by simp [go_sem]
  have k1 : ((w.alloc (.cells #[.slice A h.cells.length c, .slice A' h.roots.length c'] 26))).cell? ⟨w.heap.size, 1, none⟩ = some (.slice A' h.roots.length c') := by simp [go_sem]
  have HLT1 := Lib.hid lt1
  have HLT2 := Lib.hid lt2
  have HV3 := Lib.hid v3
  have v2' : h.roots.length ≤ 4 := by omega
  clear lt1 lt2 v2 v3 hva
  go_enter Try.func141, Try.ntmps141
  go_wp2_with fail
  (with_reducible refine (usedSet_any _ h _ (hv0.below blw_) (by omega)).mono ?_)
  rintro e w1 ⟨rfl, hB1⟩
  have Y1 : Below ((w.alloc (.cells #[.slice A h.cells.length c, .slice A' h.roots.length c'] 26))).heap.size (w.alloc (.cells #[.slice A h.cells.length c, .slice A' h.roots.length c'] 26)) w1 := blw_
  have X1 : Below w.heap.size w w1 := Below.trans blw_ (Y1.mono (by simp))
  have a0 := cell_below k0 Y1
  have a1 := cell_below k1 Y1
  have sX1 := X1.size
  have zw1 : w.heap.size < w1.heap.size := World.block_lt_of_cell? w1 _ a0
  clear k0 k1 hB1 Y1
  go_wp2
  go_loopw [6, 23] (fun s6 i wr => ∃ (j : Nat) (S : Option Addr) (cS : Nat) (os : List OSl), j ≤ h.cells.length ∧ i = .int .i64 j ∧ s6 = .slice S os.length cS ∧ Hid (os.map (·.xs) = listsM h s j) ∧ OF 24 fsl wr S cS os ∧ (∀ b ∈ blk S, w1.heap.size ≤ b) ∧ Hid (∀ o ∈ os, RF fi w1 o.A o.xs ∧ o.xs.length ≤ 1048576 ∧ ∀ r ∈ o.xs, r < h.cells.length) ∧ Below w1.heap.size w1 wr) (fun _ i _ => h.cells.length - (intOf i).toNat)
  case atStart =>
    refine ⟨0, some ⟨w1.heap.size, 0, none⟩, 1, [⟨A', c', h.roots⟩], by omega, rfl, rfl, by unfold Hid; simp [listsM], OF.of_blkn (by simp) (heap_alloc_at _ _ _ (by simp [rowF, fsl])) (by simp [maxLen]), fun b hb => by rw [mem_blk_some hb]; exact Nat.le_refl _, ?_, blw_⟩
    unfold Hid
    intro o ho
    rw [List.mem_singleton.1 ho]
    exact ⟨hr.below X1, by simp only; omega, HLT2.out⟩
  case round =>
    obtain ⟨j, S, cS, os, hj, rfl, rfl, HL, hO, hSl, HR, hBl⟩ := hrel
    have hBls := hBl.size
    have Xr : Below w.heap.size w wr := X1.trans (hBl.mono sX1)
    have b0 := cell_below a0 hBl
    have b1 := cell_below a1 hBl
    have zwr : w.heap.size < wr.heap.size := World.block_lt_of_cell? wr _ b0
    have hol : os.length ≤ 41 := by have h8 := listsM_len h s j; rw [← HL.out, List.length_map] at h8; omega
    by_cases hlt : j < h.cells.length
    · obtain ⟨b, o, cc, Ar, cr, rfl, gc, d0, d1, d2, hrr, hrl, hb⟩ := (hc.below Xr).at_ hlt
      have HS := Lib.hid (listsM_succ h s j)
      have HC := Lib.hid (refsAt_of gc)
      have hlt3 := HLT1.out cc (List.mem_of_getElem? gc)
      have hrl3 := HV3.out cc (List.mem_of_getElem? gc)
      have HRR : Hid (RF fi w1 Ar cc.refs) := by
        obtain ⟨b9, o9, x9, Ar9, cr9, e9, g9, c9, c91, c92, r9, -⟩ := (hc.below X1).at_ hlt
        injection e9 with e9; injection e9 with e91 e92; subst e91; subst e92
        rw [gc] at g9; injection g9 with g9; subst g9
        have h5 := cell_below c92 hBl
        rw [d2] at h5
        injection h5 with h5
        injection h5 with h5 h6 h7
        subst h5
        exact r9
      have HLT3 := Lib.hid hlt3
      have hhas := hasB_nat s j
      have HO := Lib.hid hO
      have HSL := Lib.hid hSl
      clear gc hc hrr hlt3 hO hSl
      rcases bool_ft (s.testBit j) with hb1 | hb1
      · rw [hb1] at hhas HS
        go_wp2_with (go_at_call 98; refine (has_any s _ _ (by omega) hs).mono ?_; rw [hhas]; rintro e w2 ⟨rfl, rfl⟩)
        go_roundw
        case rel => exact ⟨j + 1, S, cS, os, by omega, by go_num, rfl, by unfold Hid; rw [HS.out, HL.out]; rfl, HO.out.below blw_, HSL.out, HR, blw_⟩
        case measure => simp [intOf]; omega
      · rw [hb1] at hhas HS
        go_wp2_with (first | (go_at_call 98; refine (has_any s _ _ (by omega) hs).mono ?_; rw [hhas]; rintro e w2 ⟨rfl, rfl⟩) | (at_builtin; refine wpList_apps rfl (.tmp 31) (.tmp 34) rfl os rfl rfl (HO.out.below blw_) (RF.single (x := (⟨Ar, cr, cc.refs⟩ : OSl)) (by simp [go_sem, fsl])) (by simp; omega) ?_; intro S' cS' w' hO' hOn' hg'; have hB' : Below w1.heap.size w1 w' := Below.trans blw_ (hOn'.below (by have := hBl.size; simp; omega) HSL.out); have HSL' : ∀ b' ∈ blk S', w1.heap.size ≤ b' := (fun b' hb' => by have h8 := hBl.size; rcases hg' b' hb' with h9 | h9; exact HSL.out b' h9; simp at h9; omega)))
        go_roundw
        case rel =>
          refine ⟨j + 1, S', cS', os ++ [⟨Ar, cr, cc.refs⟩], by omega, by go_num, by simp, by unfold Hid; rw [HS.out, List.map_append, HL.out, HC.out]; rfl, hO', HSL', ?_, hB'⟩
          unfold Hid
          intro o9 ho9
          rcases List.mem_append.1 ho9 with h9 | h9
          · exact HR.out o9 h9
          · rw [List.mem_singleton.1 h9]
            exact ⟨HRR.out, by simp only; omega, HLT3.out⟩
        case measure => simp [intOf]; omega
    · have hke : j = h.cells.length := by omega
      have HFIN : Hid (outS h s = os.any fun o => o.xs.any (hasB (outN h s))) := by
        unfold Hid outS
        rw [← hke, ← HL.out, List.any_map]
        rfl
      have hrfo := hO.rf
      have HRW : Hid (∀ o ∈ os, RF fi wr o.A o.xs ∧ o.xs.length ≤ 1048576 ∧ ∀ r ∈ o.xs, r < h.cells.length) := fun o ho => ⟨(HR.out o ho).1.below hBl, (HR.out o ho).2⟩
      clear hke HL hO hSl HR b0 b1 hc hr a0 a1
      obtain ⟨wo, rfl⟩ : ∃ wo, wo = wr := ⟨_, rfl⟩
      go_wp2
      go_loop [39] (fun i => ∃ k : Nat, k ≤ os.length ∧ i = .int .i64 k ∧ Hid ((os.any fun o => o.xs.any (hasB (outN h s))) = ((os.drop k).any fun o => o.xs.any (hasB (outN h s))))) (fun i => os.length - (intOf i).toNat)
      case atStart => exact ⟨0, by omega, rfl, rfl⟩
      case round =>
        obtain ⟨k, hk, rfl, HD⟩ := hrel
        by_cases hlt : k < os.length
        · obtain ⟨b, o, x, rfl, gx, c1, hb⟩ := hrfo.at_ hlt
          obtain ⟨xA, xc, xs⟩ := x
          have c1' : wo.cell? ⟨b, o + k, none⟩ = some (.slice xA xs.length xc) := c1
          obtain ⟨hxr, hxl, hxlt⟩ := HRW.out _ (List.mem_of_getElem? gx)
          simp only at hxr hxl hxlt
          have HN : Hid ((os.any fun o => o.xs.any (hasB (outN h s))) = (xs.any (hasB (outN h s)) || (os.drop (k + 1)).any fun o => o.xs.any (hasB (outN h s)))) := by unfold Hid; rw [HD.out, any_drop _ gx]
          have HXLT := Lib.hid hxlt
          clear gx c1 hxlt HD
          go_wp2
          go_loop [45] (fun i => ∃ q : Nat, q ≤ xs.length ∧ i = .int .i64 q ∧ Hid (xs.any (hasB (outN h s)) = (xs.drop q).any (hasB (outN h s)))) (fun i => xs.length - (intOf i).toNat)
          case atStart => exact ⟨0, by omega, rfl, rfl⟩
          case round =>
            obtain ⟨q, hq, rfl, HQ⟩ := hrel
            by_cases hlt2 : q < xs.length
            · obtain ⟨b2, o2, y, rfl, gy, c2, hb2⟩ := hxr.at_ hlt2
              have c2' : wo.cell? ⟨b2, o2 + q, none⟩ = some (.int .i64 y) := c2
              have hylt := HXLT.out y (List.mem_of_getElem? gy)
              have HM : Hid (xs.any (hasB (outN h s)) = (hasB (outN h s) y || (xs.drop (q + 1)).any (hasB (outN h s)))) := by unfold Hid; rw [HQ.out, any_drop _ gy]
              clear gy c2 HQ
              rcases bool_ft (hasB (outN h s) y) with hy | hy
              · rw [hy] at HM
                go_wp2_with (go_at_call 98; refine (has_any _ _ _ (by omega) hout).mono ?_; rw [hy]; rintro e w2 ⟨rfl, rfl⟩)
                go_round
                case rel => exact ⟨q + 1, by omega, by go_num, by unfold Hid; rw [HM.out]; rfl⟩
                case measure => simp [intOf]; omega
              · rw [hy] at HM
                go_wp2_with (go_at_call 98; refine (has_any _ _ _ (by omega) hout).mono ?_; rw [hy]; rintro e w2 ⟨rfl, rfl⟩)
                go_ret
                exact ⟨ret_bool (by rw [HFIN.out, HN.out, HM.out]; rfl), Xr⟩
            · have hke : q = xs.length := by omega
              have HM : Hid (xs.any (hasB (outN h s)) = false) := by unfold Hid; rw [HQ.out, hke, List.drop_length]; rfl
              clear hke HQ
              go_wp2
              go_round
              case rel => exact ⟨k + 1, by omega, by go_num, by unfold Hid; rw [HN.out, HM.out]; rfl⟩
              case measure => simp [intOf]; omega
        · have hke : k = os.length := by omega
          have HM : Hid (outS h s = false) := by unfold Hid; rw [HFIN.out, HD.out, hke, List.drop_length]; rfl
          clear hke HD
          go_wp2
          go_ret
          exact ⟨ret_bool HM.out.symm, Xr⟩
end Go.Proofs.Yteilaalababfpaa
/- The program's SweepCells returns sweepM, in new memory. -/
namespace Go.Proofs.Yteilaalababfpaa
open Go.RowKit
open Go.Sort
set_option maxRecDepth 100000
set_option linter.all false
theorem sweep_outB {h : HeapM} {marks : List Bool} (ho : outB h marks = true) : sweepM h marks = (zeroH, -1) := sweep_no (fun hh => by rw [ho] at hh; cases hh.2.2)
set_option maxHeartbeats 4000000 in
theorem implSweepCells_any (v : Value) (h : HeapM) (A2 : Option Addr) (marks : List Bool) (c2 : Nat) (w : World) (hv : RH w v h) (hm : RF fb w A2 marks) (hml : marks.length ≤ 9223372036854775807) :
    Calls Try.prog 91 #[v, .slice A2 marks.length c2] w fun e w' => ∃ v', e = .returned (.tuple #[v', .int .i64 (sweepM h marks).2]) ∧ OH w.heap.size w' v' (sweepM h marks).1 ∧ Below w.heap.size w w' := by
  have hv0 := hv
  obtain ⟨A, c, A', c', rfl, hc, hr, hl1, hl2⟩ := hv
  have HB : ∀ d os_, Below w.heap.size w (grow (redrawn (((w.alloc (.cells #[.slice A h.cells.length c, .slice A' h.roots.length c'] 26)).alloc (.cells #[.slice none 0 0, .slice none 0 0] 26))) d) os_) := fun d os_ => (show Below w.heap.size w (((w.alloc (.cells #[.slice A h.cells.length c, .slice A' h.roots.length c'] 26)).alloc (.cells #[.slice none 0 0, .slice none 0 0] 26))) from blw_).trans ((below_regrown _ d os_).mono (by simp; omega))
  have HWB : Hid (Below w.heap.size w (((w.alloc (.cells #[.slice A h.cells.length c, .slice A' h.roots.length c'] 26)).alloc (.cells #[.slice none 0 0, .slice none 0 0] 26)))) := by unfold Hid; exact blw_
  have h0 : (((w.alloc (.cells #[.slice A h.cells.length c, .slice A' h.roots.length c'] 26)).alloc (.cells #[.slice none 0 0, .slice none 0 0] 26))).cell? ⟨w.heap.size, 0, none⟩ = some (.slice A h.cells.length c) := by simp [go_sem]
  have h1 : (((w.alloc (.cells #[.slice A h.cells.length c, .slice A' h.roots.length c'] 26)).alloc (.cells #[.slice none 0 0, .slice none 0 0] 26))).cell? ⟨w.heap.size, 1, none⟩ = some (.slice A' h.roots.length c') := by simp [go_sem]
  have n0 : (((w.alloc (.cells #[.slice A h.cells.length c, .slice A' h.roots.length c'] 26)).alloc (.cells #[.slice none 0 0, .slice none 0 0] 26))).cell? ⟨w.heap.size + 1, 0, none⟩ = some (.slice none 0 0) := by simp [go_sem]
  have n1 : (((w.alloc (.cells #[.slice A h.cells.length c, .slice A' h.roots.length c'] 26)).alloc (.cells #[.slice none 0 0, .slice none 0 0] 26))).cell? ⟨w.heap.size + 1, 1, none⟩ = some (.slice none 0 0) := by simp [go_sem]
  have nf : ∀ o, (((w.alloc (.cells #[.slice A h.cells.length c, .slice A' h.roots.length c'] 26)).alloc (.cells #[.slice none 0 0, .slice none 0 0] 26))).frozen? ⟨w.heap.size + 1, o, none⟩ = false := fun o => by simp [go_sem]
  have z3 : w.heap.size + 1 < (((w.alloc (.cells #[.slice A h.cells.length c, .slice A' h.roots.length c'] 26)).alloc (.cells #[.slice none 0 0, .slice none 0 0] 26))).heap.size := by simp
  have k0 := cell_regrown h0
  have k1 := cell_regrown h1
  cases hva : validM h
  · have HE := Lib.hid (sweep_bad (marks := marks) hva)
    have cH : ∀ d os_, Calls Try.prog 35 #[.agg #[.slice A h.cells.length c, .slice A' h.roots.length c']] (grow (redrawn (((w.alloc (.cells #[.slice A h.cells.length c, .slice A' h.roots.length c'] 26)).alloc (.cells #[.slice none 0 0, .slice none 0 0] 26))) d) os_) fun e w'' => e = .returned (.bool false) ∧ ∃ p : Regrown, w'' = grow (redrawn (((w.alloc (.cells #[.slice A h.cells.length c, .slice A' h.roots.length c'] 26)).alloc (.cells #[.slice none 0 0, .slice none 0 0] 26))) p.d) p.os := fun d os_ => Calls.regrown_of (by have h9 := implHeapValid_any _ h _ (hv0.below (HB d os_)); rw [hva] at h9; exact h9)
    clear hva HB hc hr hm
    go_enter Try.func91, Try.ntmps91
    (go_wp2_with (fail)); generalize ((w.alloc (.cells #[.slice A h.cells.length c, .slice A' h.roots.length c'] 26)).alloc (.cells #[.slice none 0 0, .slice none 0 0] 26)) = W at *; refine wp_region_quiet_below (by kernel_rfl) (by kernel_rfl) ?_; (with_reducible refine wpQuiet_step (fun K hK => ?_)); go_simp; (with_reducible refine hK _ ?_); clear hK K; (with_reducible refine wpQuiet_step (fun K hK => ?_)); go_simp; apply Exists.intro; refine ⟨fun _ => ?_, hK _ ?_⟩; exact cH _ _; clear hK K; (with_reducible refine wpQuiet_step (fun K hK => ?_)); go_simp; (with_reducible refine hK _ ?_); clear hK K; (with_reducible refine wpQuiet_step (fun K hK => ?_)); go_simp; (with_reducible refine hK _ ?_); clear hK K; (with_reducible refine wpQuiet_step (fun K hK => ?_)); go_simp; (with_reducible refine hK _ ?_); clear hK K; (with_reducible refine wpQuiet_step (fun K hK => ?_)); go_simp; (with_reducible refine hK _ ?_); clear hK K; (with_reducible refine wpQuiet_step (fun K hK => ?_)); go_simp; (with_reducible refine hK _ ?_); clear hK K; (with_reducible refine wpQuiet_step (fun K hK => ?_)); go_simp; (with_reducible refine hK _ ?_); clear hK K; (with_reducible refine wpQuiet_step (fun K hK => ?_)); go_simp; (with_reducible refine hK _ ?_); clear hK K; (with_reducible refine wpQuiet_step (fun K hK => ?_)); go_simp; (with_reducible refine hK _ ?_); clear hK K; (with_reducible refine wpQuiet_step (fun K hK => ?_)); go_simp; (with_reducible refine hK _ ?_); clear hK K; (with_reducible refine wpQuiet_step (fun K hK => ?_)); go_simp; (with_reducible refine hK _ ?_); clear hK K; (with_reducible refine wpQuiet_step (fun K hK => ?_)); go_simp; (with_reducible refine hK _ ?_); clear hK K; (with_reducible refine wpQuiet_step (fun K hK => ?_)); go_simp; (with_reducible refine hK _ ?_); clear hK K; (with_reducible refine wpQuiet_step (fun K hK => ?_)); go_simp; (with_reducible refine hK _ ?_); clear hK K; (with_reducible refine wpQuiet_step (fun K hK => ?_)); go_simp; (with_reducible refine hK _ ?_); clear hK K; (with_reducible refine wpQuiet_step (fun K hK => ?_)); go_simp; (with_reducible refine hK _ ?_); clear hK K; refine wpQuiet_nil ?_; intro _ hw'; obtain ⟨⟨dq, osq⟩, hw''⟩ := hw'; subst hw''; have X1 := HWB.out.trans ((below_regrown W dq osq).mono HWB.out.size); have Y1 := below_regrown W dq osq; generalize grow (redrawn W dq) osq = w1 at *; have r0 := cell_below n0 Y1; have r1 := cell_below n1 Y1; have RFZ : Hid (∀ o, w1.frozen? ⟨w.heap.size + 1, o, none⟩ = false) := (fun o => ((bcell Y1).2.1 _ _ z3).trans (nf o)); have rf0 := RFZ.out 0; have rf1 := RFZ.out 1; have a0 := cell_below h0 Y1; have a1 := cell_below h1 Y1; have sX1 := X1.size; have sY1 := Y1.size
    go_wp2_with fail; refine bodyPost_ret (v := .tuple #[.agg #[.slice none 0 0, .slice none 0 0], .int .i64 (-1)]) (by simp [results, Try.results91, go_sem, r0, r1]) rfl ⟨_, by rw [HE.out], ?_, (X1.setCell (by simp) _).setCell (by simp) _⟩; rw [HE.out]; exact OH.zer
  have cH : ∀ d os_, Calls Try.prog 35 #[.agg #[.slice A h.cells.length c, .slice A' h.roots.length c']] (grow (redrawn (((w.alloc (.cells #[.slice A h.cells.length c, .slice A' h.roots.length c'] 26)).alloc (.cells #[.slice none 0 0, .slice none 0 0] 26))) d) os_) fun e w'' => e = .returned (.bool true) ∧ ∃ p : Regrown, w'' = grow (redrawn (((w.alloc (.cells #[.slice A h.cells.length c, .slice A' h.roots.length c'] 26)).alloc (.cells #[.slice none 0 0, .slice none 0 0] 26))) p.d) p.os := fun d os_ => Calls.regrown_of (by have h9 := implHeapValid_any _ h _ (hv0.below (HB d os_)); rw [hva] at h9; exact h9)
  have HV := Lib.hid hva
  obtain ⟨v1, v2, v3⟩ := valid_small hva
  have HV3 := Lib.hid v3
  have v2' : h.roots.length ≤ 4 := by omega
  clear v3 v2
  by_cases hlen : marks.length = h.cells.length
  case neg =>
    have HE := Lib.hid (sweep_len hlen)
    have hlenI : ¬ (marks.length : Int) = (h.cells.length : Int) := by omega
    clear hva HB hc hr hm
    go_enter Try.func91, Try.ntmps91
    (go_wp2_with (fail)); generalize ((w.alloc (.cells #[.slice A h.cells.length c, .slice A' h.roots.length c'] 26)).alloc (.cells #[.slice none 0 0, .slice none 0 0] 26)) = W at *; refine wp_region_quiet_below (by kernel_rfl) (by kernel_rfl) ?_; (with_reducible refine wpQuiet_step (fun K hK => ?_)); go_simp; (with_reducible refine hK _ ?_); clear hK K; (with_reducible refine wpQuiet_step (fun K hK => ?_)); go_simp; apply Exists.intro; refine ⟨fun _ => ?_, hK _ ?_⟩; exact cH _ _; clear hK K; (with_reducible refine wpQuiet_step (fun K hK => ?_)); go_simp; (with_reducible refine hK _ ?_); clear hK K; (with_reducible refine wpQuiet_step (fun K hK => ?_)); go_simp; (with_reducible refine hK _ ?_); clear hK K; (with_reducible refine wpQuiet_step (fun K hK => ?_)); go_simp; (with_reducible refine hK _ ?_); clear hK K; (with_reducible refine wpQuiet_step (fun K hK => ?_)); go_simp; (with_reducible refine hK _ ?_); clear hK K; (with_reducible refine wpQuiet_step (fun K hK => ?_)); go_simp; (with_reducible refine hK _ ?_); clear hK K; (with_reducible refine wpQuiet_step (fun K hK => ?_)); go_simp; (with_reducible refine hK _ ?_); clear hK K; (with_reducible refine wpQuiet_step (fun K hK => ?_)); go_simp; (with_reducible refine hK _ ?_); clear hK K; (with_reducible refine wpQuiet_step (fun K hK => ?_)); go_simp; (with_reducible refine hK _ ?_); clear hK K; (with_reducible refine wpQuiet_step (fun K hK => ?_)); go_simp; (with_reducible refine hK _ ?_); clear hK K; (with_reducible refine wpQuiet_step (fun K hK => ?_)); go_simp; (with_reducible refine hK _ ?_); clear hK K; (with_reducible refine wpQuiet_step (fun K hK => ?_)); go_simp; (with_reducible refine hK _ ?_); clear hK K; (with_reducible refine wpQuiet_step (fun K hK => ?_)); go_simp; (with_reducible refine hK _ ?_); clear hK K; (with_reducible refine wpQuiet_step (fun K hK => ?_)); go_simp; (with_reducible refine hK _ ?_); clear hK K; (with_reducible refine wpQuiet_step (fun K hK => ?_)); go_simp; (with_reducible refine hK _ ?_); clear hK K; (with_reducible refine wpQuiet_step (fun K hK => ?_)); go_simp; (with_reducible refine hK _ ?_); clear hK K; refine wpQuiet_nil ?_; intro _ hw'; obtain ⟨⟨dq, osq⟩, hw''⟩ := hw'; subst hw''; have X1 := HWB.out.trans ((below_regrown W dq osq).mono HWB.out.size); have Y1 := below_regrown W dq osq; generalize grow (redrawn W dq) osq = w1 at *; have r0 := cell_below n0 Y1; have r1 := cell_below n1 Y1; have RFZ : Hid (∀ o, w1.frozen? ⟨w.heap.size + 1, o, none⟩ = false) := (fun o => ((bcell Y1).2.1 _ _ z3).trans (nf o)); have rf0 := RFZ.out 0; have rf1 := RFZ.out 1; have a0 := cell_below h0 Y1; have a1 := cell_below h1 Y1; have sX1 := X1.size; have sY1 := Y1.size
    go_wp2_with fail; refine bodyPost_ret (v := .tuple #[.agg #[.slice none 0 0, .slice none 0 0], .int .i64 (-1)]) (by simp [results, Try.results91, go_sem, r0, r1]) rfl ⟨_, by rw [HE.out], ?_, (X1.setCell (by simp) _).setCell (by simp) _⟩; rw [HE.out]; exact OH.zer
  have HL := Lib.hid hlen
  have hm40 : marks.length ≤ 40 := by omega
  have hlenI : (marks.length : Int) = (h.cells.length : Int) := by omega
  have hbm : bitsOf marks < 18446744073709551616 := bitsOf_lt64 (by omega)
  have hOS := outS_out (h := h) (marks := marks) (by omega) hlen
  have cS : ∀ d os_, Calls Try.prog 69 #[.slice A2 marks.length c2] (grow (redrawn (((w.alloc (.cells #[.slice A h.cells.length c, .slice A' h.roots.length c'] 26)).alloc (.cells #[.slice none 0 0, .slice none 0 0] 26))) d) os_) fun e w'' => e = .returned (.int .u64 ((bitsOf marks : Nat) : Int)) ∧ ∃ p : Regrown, w'' = grow (redrawn (((w.alloc (.cells #[.slice A h.cells.length c, .slice A' h.roots.length c'] 26)).alloc (.cells #[.slice none 0 0, .slice none 0 0] 26))) p.d) p.os := fun d os_ => Calls.regrown_of (setOf_any A2 marks c2 _ (hm.below (HB d os_)) (by omega))
  cases hou : outB h marks
  case true =>
    have HE := Lib.hid (sweep_outB hou)
    have cR : ∀ d os_, Calls Try.prog 141 #[.agg #[.slice A h.cells.length c, .slice A' h.roots.length c'], .int .u64 ((bitsOf marks : Nat) : Int)] (grow (redrawn (((w.alloc (.cells #[.slice A h.cells.length c, .slice A' h.roots.length c'] 26)).alloc (.cells #[.slice none 0 0, .slice none 0 0] 26))) d) os_) fun e w'' => e = .returned (.bool true) ∧ ∃ p : Regrown, w'' = grow (redrawn (((w.alloc (.cells #[.slice A h.cells.length c, .slice A' h.roots.length c'] 26)).alloc (.cells #[.slice none 0 0, .slice none 0 0] 26))) p.d) p.os := fun d os_ => Calls.regrown_of (by have h9 := refersOutside_any _ h (bitsOf marks) _ (hv0.below (HB d os_)) hva hbm; rw [hOS, hou] at h9; exact h9)
    clear hva HB hc hr hm hlen hOS hou
    go_enter Try.func91, Try.ntmps91
    (go_wp2_with (fail)); generalize ((w.alloc (.cells #[.slice A h.cells.length c, .slice A' h.roots.length c'] 26)).alloc (.cells #[.slice none 0 0, .slice none 0 0] 26)) = W at *; refine wp_region_quiet_below (by kernel_rfl) (by kernel_rfl) ?_; (with_reducible refine wpQuiet_step (fun K hK => ?_)); go_simp; (with_reducible refine hK _ ?_); clear hK K; (with_reducible refine wpQuiet_step (fun K hK => ?_)); go_simp; apply Exists.intro; refine ⟨fun _ => ?_, hK _ ?_⟩; exact cH _ _; clear hK K; (with_reducible refine wpQuiet_step (fun K hK => ?_)); go_simp; (with_reducible refine hK _ ?_); clear hK K; (with_reducible refine wpQuiet_step (fun K hK => ?_)); go_simp; (with_reducible refine hK _ ?_); clear hK K; (with_reducible refine wpQuiet_step (fun K hK => ?_)); go_simp; (with_reducible refine hK _ ?_); clear hK K; (with_reducible refine wpQuiet_step (fun K hK => ?_)); go_simp; (with_reducible refine hK _ ?_); clear hK K; (with_reducible refine wpQuiet_step (fun K hK => ?_)); go_simp; (with_reducible refine hK _ ?_); clear hK K; (with_reducible refine wpQuiet_step (fun K hK => ?_)); go_simp; (with_reducible refine hK _ ?_); clear hK K; (with_reducible refine wpQuiet_step (fun K hK => ?_)); go_simp; (with_reducible refine hK _ ?_); clear hK K; (with_reducible refine wpQuiet_step (fun K hK => ?_)); go_simp; (with_reducible refine hK _ ?_); clear hK K; (with_reducible refine wpQuiet_step (fun K hK => ?_)); go_simp; (with_reducible refine hK _ ?_); clear hK K; (with_reducible refine wpQuiet_step (fun K hK => ?_)); go_simp; (with_reducible refine hK _ ?_); clear hK K; (with_reducible refine wpQuiet_step (fun K hK => ?_)); go_simp; (with_reducible refine hK _ ?_); clear hK K; (with_reducible refine wpQuiet_step (fun K hK => ?_)); go_simp; (with_reducible refine hK _ ?_); clear hK K; (with_reducible refine wpQuiet_step (fun K hK => ?_)); go_simp; apply Exists.intro; refine ⟨fun _ => ?_, hK _ ?_⟩; exact cS _ _; clear hK K; (with_reducible refine wpQuiet_step (fun K hK => ?_)); go_simp; apply Exists.intro; refine ⟨fun _ => ?_, hK _ ?_⟩; exact cR _ _; clear hK K; (with_reducible refine wpQuiet_step (fun K hK => ?_)); go_simp; (with_reducible refine hK _ ?_); clear hK K; refine wpQuiet_nil ?_; intro _ hw'; obtain ⟨⟨dq, osq⟩, hw''⟩ := hw'; subst hw''; have X1 := HWB.out.trans ((below_regrown W dq osq).mono HWB.out.size); have Y1 := below_regrown W dq osq; generalize grow (redrawn W dq) osq = w1 at *; have r0 := cell_below n0 Y1; have r1 := cell_below n1 Y1; have RFZ : Hid (∀ o, w1.frozen? ⟨w.heap.size + 1, o, none⟩ = false) := (fun o => ((bcell Y1).2.1 _ _ z3).trans (nf o)); have rf0 := RFZ.out 0; have rf1 := RFZ.out 1; have a0 := cell_below h0 Y1; have a1 := cell_below h1 Y1; have sX1 := X1.size; have sY1 := Y1.size
    go_wp2_with fail; refine bodyPost_ret (v := .tuple #[.agg #[.slice none 0 0, .slice none 0 0], .int .i64 (-1)]) (by simp [results, Try.results91, go_sem, r0, r1]) rfl ⟨_, by rw [HE.out], ?_, (X1.setCell (by simp) _).setCell (by simp) _⟩; rw [HE.out]; exact OH.zer
  have cR : ∀ d os_, Calls Try.prog 141 #[.agg #[.slice A h.cells.length c, .slice A' h.roots.length c'], .int .u64 ((bitsOf marks : Nat) : Int)] (grow (redrawn (((w.alloc (.cells #[.slice A h.cells.length c, .slice A' h.roots.length c'] 26)).alloc (.cells #[.slice none 0 0, .slice none 0 0] 26))) d) os_) fun e w'' => e = .returned (.bool false) ∧ ∃ p : Regrown, w'' = grow (redrawn (((w.alloc (.cells #[.slice A h.cells.length c, .slice A' h.roots.length c'] 26)).alloc (.cells #[.slice none 0 0, .slice none 0 0] 26))) p.d) p.os := fun d os_ => Calls.regrown_of (by have h9 := refersOutside_any _ h (bitsOf marks) _ (hv0.below (HB d os_)) hva hbm; rw [hOS, hou] at h9; exact h9)
  have HE := Lib.hid (sweep_yes hva hlen hou)
  have HM := Lib.hid hm
  have hub : usedBits h.cells < 18446744073709551616 := bitsOf_lt64 (by simp; omega)
  have hand : bits .andNot .u64 ((usedBits h.cells : Nat) : Int) ((bitsOf marks : Nat) : Int) = ((andN (usedBits h.cells) (bitsOf marks) : Nat) : Int) := u64_andNot_nat _ _ hub hbm
  have han : andN (usedBits h.cells) (bitsOf marks) < 18446744073709551616 := andN_lt hub
  have HBT : Hid (∀ (i : Nat) (c : CellM), h.cells[i]? = some c → c.used = true → (andN (usedBits h.cells) (bitsOf marks)).testBit i = (nots marks).getD i false) := by
    intro i c hc hu
    have hi := (List.getElem?_eq_some_iff.1 hc).1
    have hmi := List.getElem?_eq_getElem (l := marks) (i := i) (by omega)
    rw [andN_test hub hbm, usedBits_test, bitsOf_test, usedN_at hc, hu, getD_of hmi, getD_of (nots_at hmi)]
    rfl
  clear hva HB hc hr hm hlen hOS hou
  go_enter Try.func91, Try.ntmps91
  (go_wp2_with (fail)); generalize ((w.alloc (.cells #[.slice A h.cells.length c, .slice A' h.roots.length c'] 26)).alloc (.cells #[.slice none 0 0, .slice none 0 0] 26)) = W at *; refine wp_region_quiet_below (by kernel_rfl) (by kernel_rfl) ?_; (with_reducible refine wpQuiet_step (fun K hK => ?_)); go_simp; (with_reducible refine hK _ ?_); clear hK K; (with_reducible refine wpQuiet_step (fun K hK => ?_)); go_simp; apply Exists.intro; refine ⟨fun _ => ?_, hK _ ?_⟩; exact cH _ _; clear hK K; (with_reducible refine wpQuiet_step (fun K hK => ?_)); go_simp; (with_reducible refine hK _ ?_); clear hK K; (with_reducible refine wpQuiet_step (fun K hK => ?_)); go_simp; (with_reducible refine hK _ ?_); clear hK K; (with_reducible refine wpQuiet_step (fun K hK => ?_)); go_simp; (with_reducible refine hK _ ?_); clear hK K; (with_reducible refine wpQuiet_step (fun K hK => ?_)); go_simp; (with_reducible refine hK _ ?_); clear hK K; (with_reducible refine wpQuiet_step (fun K hK => ?_)); go_simp; (with_reducible refine hK _ ?_); clear hK K; (with_reducible refine wpQuiet_step (fun K hK => ?_)); go_simp; (with_reducible refine hK _ ?_); clear hK K; (with_reducible refine wpQuiet_step (fun K hK => ?_)); go_simp; (with_reducible refine hK _ ?_); clear hK K; (with_reducible refine wpQuiet_step (fun K hK => ?_)); go_simp; (with_reducible refine hK _ ?_); clear hK K; (with_reducible refine wpQuiet_step (fun K hK => ?_)); go_simp; (with_reducible refine hK _ ?_); clear hK K; (with_reducible refine wpQuiet_step (fun K hK => ?_)); go_simp; (with_reducible refine hK _ ?_); clear hK K; (with_reducible refine wpQuiet_step (fun K hK => ?_)); go_simp; (with_reducible refine hK _ ?_); clear hK K; (with_reducible refine wpQuiet_step (fun K hK => ?_)); go_simp; (with_reducible refine hK _ ?_); clear hK K; (with_reducible refine wpQuiet_step (fun K hK => ?_)); go_simp; apply Exists.intro; refine ⟨fun _ => ?_, hK _ ?_⟩; exact cS _ _; clear hK K; (with_reducible refine wpQuiet_step (fun K hK => ?_)); go_simp; apply Exists.intro; refine ⟨fun _ => ?_, hK _ ?_⟩; exact cR _ _; clear hK K; (with_reducible refine wpQuiet_step (fun K hK => ?_)); go_simp; (with_reducible refine hK _ ?_); clear hK K; refine wpQuiet_nil ?_; intro _ hw'; obtain ⟨⟨dq, osq⟩, hw''⟩ := hw'; subst hw''; have X1 := HWB.out.trans ((below_regrown W dq osq).mono HWB.out.size); have Y1 := below_regrown W dq osq; generalize grow (redrawn W dq) osq = w1 at *; have r0 := cell_below n0 Y1; have r1 := cell_below n1 Y1; have RFZ : Hid (∀ o, w1.frozen? ⟨w.heap.size + 1, o, none⟩ = false) := (fun o => ((bcell Y1).2.1 _ _ z3).trans (nf o)); have rf0 := RFZ.out 0; have rf1 := RFZ.out 1; have a0 := cell_below h0 Y1; have a1 := cell_below h1 Y1; have sX1 := X1.size; have sY1 := Y1.size
  go_wp2_with fail
  (with_reducible refine (copyHeap_any _ h _ (hv0.below blw_) (by omega) (fun d hd => Nat.le_trans (HV3.out d hd) (by omega)) (by omega)).mono ?_)
  rintro e w2 ⟨v2, rfl, ⟨B, d, B', d', os, rfl, hm2, hO2, hlo2⟩, hB2⟩
  have Y2 : Below w1.heap.size w1 w2 := blw_
  have sY2 := Y2.size
  have b0 := cell_below a0 Y2
  have b1 := cell_below a1 Y2
  have s0 := cell_below r0 Y2
  have s1 := cell_below r1 Y2
  have SF : Hid (∀ o, w2.frozen? ⟨w.heap.size + 1, o, none⟩ = false) := fun o => ((bcell Y2).2.1 _ _ (by omega)).trans (RFZ.out o)
  have X2 : Below w.heap.size w w2 := X1.trans (Y2.mono sX1)
  have hP := PHx.mk_ (T := 26) hm2 hO2 hlo2 sY2
  have HP := Lib.hid hP
  have hmapl : os.length = h.cells.length := by have h9 := congrArg List.length hm2; simpa using h9
  have HML := Lib.hid hmapl
  have HM2 := Lib.hid hm2
  have hlo2' : ∀ b ∈ hblks B os B', w.heap.size + 2 ≤ b := fun b hb => by have h7 := hlo2 b hb; have : w.heap.size + 2 ≤ w1.heap.size := (by omega); omega
  have HLO := Lib.hid hlo2'
  have sX2 := X2.size
  have z12 : w.heap.size + 1 < w2.heap.size := by omega
  have zw2 : w.heap.size < w2.heap.size := by omega
  clear hB2 hP hm2 hO2 hlo2 hlo2' a0 a1 r0 r1 rf0 rf1 hmapl Y1 h0 h1 n0 n1 nf z3 k0 k1 cH cS cR hlenI
  go_wp2_with fail
  (with_reducible refine (usedSet_any _ h _ (hv0.below blw_) (by omega)).mono ?_)
  rintro e w3 ⟨rfl, hB3⟩
  have Y3 : Below w2.heap.size w2 w3 := blw_
  have hP3 := HP.out.below hB3
  have sY3 := Y3.size
  have X3 : Below w.heap.size w w3 := X2.trans (Y3.mono sX2)
  clear hB3 b0 b1
  go_wp2_with fail
  (with_reducible refine (setOf_any A2 marks c2 _ (HM.out.below X3) (by omega)).mono ?_)
  rintro e w4 ⟨rfl, hB4⟩
  have Y4 : Below w2.heap.size w2 w4 := Y3.trans (hB4.mono sY3)
  have hP4 := hP3.below hB4
  have X4 : Below w.heap.size w w4 := X2.trans (Y4.mono sX2)
  have q0 : w4.cell? ⟨w2.heap.size, 0, none⟩ = some (.slice B os.length d) := by rw [HML.out]; exact hP4.q0
  have hoc := hP4.own.cells
  have hgA := hP4.gA
  have HP4 := Lib.hid hP4
  have ho64 : os.length ≤ 64 := by rw [HML.out]; omega
  clear hB4 hP3 hP4
  go_wp2_with fail
  (with_reducible refine (freeCells_any w2.heap.size B d os (andN (usedBits h.cells) (bitsOf marks)) _ q0 hoc hgA ho64 han).mono ?_)
  rintro e w5 ⟨rfl, hC5, hOn5⟩
  have hBlo : ∀ b ∈ blk B, w.heap.size + 2 ≤ b := fun b hb => HLO.out b (List.mem_append.2 (.inl (List.mem_append.2 (.inl hb))))
  have X5 : Below w.heap.size w w5 := X4.trans (hOn5.below X4.size (fun b hb => by have := hBlo b hb; omega))
  have t0 := hOn5.cell (p := ⟨w2.heap.size, 0, none⟩) HP4.out.q0 hgA
  have t1 := hOn5.cell (p := ⟨w2.heap.size, 1, none⟩) HP4.out.q1 hgA
  have hnB : w.heap.size + 1 ∉ blk B := fun hc => by have := hBlo _ hc; omega
  have z14 : w.heap.size + 1 < w4.heap.size := by have := Y4.size; omega
  have u0 := hOn5.cell (p := ⟨w.heap.size + 1, 0, none⟩) (cell_below s0 Y4) hnB
  have u1 := hOn5.cell (p := ⟨w.heap.size + 1, 1, none⟩) (cell_below s1 Y4) hnB
  have uf : ∀ o, w5.frozen? ⟨w.heap.size + 1, o, none⟩ = false := fun o => (hOn5.frozenAt _ _ z14 hnB).trans (((bcell Y4).2.1 _ _ z12).trans (SF.out o))
  have uf0 := uf 0
  have uf1 := uf 1
  have HC5 := Lib.hid hC5
  have HON := Lib.hid hOn5
  clear hC5 hOn5 uf q0 hoc s0 s1 X4 X3 Y4 Y3
  go_wp2_with fail
  have hmapp : os.map (·.c) = h.cells := HM2.out
  have hnl : (nots marks).length = os.length := by rw [nots_len, HL.out, HML.out]
  have hdr := oPut_set (s := andN (usedBits h.cells) (bitsOf marks)) (os := os) (dead := nots marks) hnl (fun i o ho hu => HBT.out i o.c (by rw [← hmapp, List.getElem?_map, ho]; rfl) hu) (fun o ho => valid_free HV.out o.c (by rw [← hmapp]; exact List.mem_map.2 ⟨o, ho, rfl⟩))
  have hfr : freeN (andN (usedBits h.cells) (bitsOf marks)) (os.map (·.c)) os.length = freedN h.cells (nots marks) := by
    rw [hmapp, HML.out]
    exact freeN_drop (by rw [nots_len, HL.out]) HBT.out
  have hlen2 : (dropM h (nots marks)).cells.length = h.cells.length := dropCs_len (by rw [nots_len, HL.out])
  refine bodyPost_ret (v := .tuple #[.agg #[.slice B h.cells.length d, .slice B' h.roots.length d'], .int .i64 (freeN (andN (usedBits h.cells) (bitsOf marks)) (os.map (·.c)) os.length)]) (by simp [results, Try.results91, go_sem, u0, u1]) rfl ⟨_, by rw [HE.out, hfr], ?_, (X5.setCell (by simp) _).setCell (by simp) _⟩
  rw [HE.out]
  have hOH : OHs w5 B d B' d' (oPut (setF (andN (usedBits h.cells) (bitsOf marks))) os.length os) h.roots := HP4.out.own.put_ HC5.out (oPut_blks _ _ _ (Nat.le_refl _)) (oPut_len _ _ _) HON.out
  have hsub : ∀ b ∈ hblks B (oPut (setF (andN (usedBits h.cells) (bitsOf marks))) os.length os) B', w.heap.size + 2 ≤ b := fun b hb => HLO.out b (by
    have := (oPut_blks (setF (andN (usedBits h.cells) (bitsOf marks))) os os.length (Nat.le_refl _)).subset
    simp only [hblks, List.mem_append] at hb ⊢
    rcases hb with (hb | hb) | hb
    · exact .inl (.inl hb)
    · exact .inl (.inr (this hb))
    · exact .inr hb)
  have hbase : OH (w.heap.size + 2) w5 (.agg #[.slice B h.cells.length d, .slice B' h.roots.length d']) (dropM h (nots marks)) := ⟨B, d, B', d', _, by rw [hlen2]; rfl, by rw [hdr, hmapp]; rfl, hOH, hsub⟩
  exact ((hbase.setlow (by simp) _).setlow (by simp) _).lo_ (by omega)
end Go.Proofs.Yteilaalababfpaa