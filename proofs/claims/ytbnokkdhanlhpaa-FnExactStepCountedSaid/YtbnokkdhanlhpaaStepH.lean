/- StepHeap of the program and of the reference return stepM, in new memory. -/
import Derived.Test.YtbnokkdhanlhpaaChecked
import Derived.Deep.DeepCutAuto
import Derived.Test.YtbnokkdhanlhpaaGrExec
import Derived.Test.YtbnokkdhanlhpaaGrExecS
import Derived.Test.YtbnokkdhanlhpaaGrCmd
import Derived.Test.YtbnokkdhanlhpaaGrSz
namespace Go.Proofs.Ytbnokkdhanlhpaa
open Go.RowKit
set_option maxRecDepth 100000
set_option linter.unusedSimpArgs false
set_option linter.unusedVariables false
theorem OH.zero {lo : Nat} {w : World} : OH lo w (.agg #[.slice none 0 0, .slice none 0 0]) zeroH :=
  ⟨none, 0, none, 0, [], rfl, rfl, ⟨OC.nil_, OF.nil, by simp [blk, blks], by simp, by simp [zeroH]⟩, by simp [hblks, blk, blks]⟩
theorem possO_hid {h : HeapM} {o : CmdM} {b : Bool} (hb : possO h o = b) (hv : validM h = true) (hc : cmdOk o = true) : possM h o = b := (possM_ok hv hc).trans hb
theorem stepM_bad {h : HeapM} {o : CmdM} (hv : (validM h && cmdOk o) = false) : stepM h o = (zeroH, false) := by unfold stepM; rw [hv]; rfl
theorem stepM_no {h : HeapM} {o : CmdM} (hv : validM h = true) (hc : cmdOk o = true) (hp : possO h o = false ∨ (o.op = 1 ∧ h.cells.length = 40)) : stepM h o = (h, false) := by
  unfold stepM; rw [hv, hc]
  rcases hp with hp | ⟨h1, h2⟩
  · rw [hp]; rfl
  · rw [h1, h2]; simp
theorem stepM_yes {h : HeapM} {o : CmdM} (hv : validM h = true) (hc : cmdOk o = true) (hp : possO h o = true) (hn : ¬ (o.op = 1 ∧ h.cells.length = 40)) : stepM h o = (execM h o h.cells.length, true) := by
  unfold stepM; rw [hv, hc, hp]
  have : (decide (o.op = 1) && decide (h.cells.length = 40)) = false := by
    rw [Bool.eq_false_iff]; intro hh; simp only [Bool.and_eq_true, decide_eq_true_eq] at hh; exact hn hh
  rw [this]; rfl
theorem small_valid {h : HeapM} (hv : validM h = true) : SmallH h := by
  obtain ⟨v1, v2, v3⟩ := valid_small hv
  exact ⟨by omega, fun d hd => by have := v3 d hd; omega, by omega⟩
theorem small_zero : SmallH zeroH := ⟨by simp [zeroH], by simp [zeroH], by simp [zeroH]⟩
theorem small_exec {h : HeapM} (hv : validM h = true) {o : CmdM} (hc : cmdOk o = true) (at_ : Nat) : SmallH (execM h o at_) := by
  obtain ⟨v1, v2, v3⟩ := valid_small hv
  have hb := (cmdOk_iff.1 hc).2.2.1
  have h1 : (execM h o at_).cells.length ≤ 41 := by
    unfold execM putCell
    repeat' split
    all_goals simp [setRef_length, setData_length]
    all_goals omega
  have h2 : (execM h o at_).roots.length = 4 := by
    unfold execM
    repeat' split
    all_goals simp [v2]
  refine ⟨by omega, ?_, by omega⟩
  intro d hd
  have hset : ∀ (k : Nat) (c : CellM), d ∈ h.cells.set k c → d ∈ h.cells ∨ d = c := fun k c hd => List.mem_or_eq_of_mem_set hd
  have hnew : o.op = 1 → (newCell o).refs.length ≤ 3 := fun h9 => by
    have : maxB o.op = 3 := by rw [h9]; rfl
    rw [this] at hb
    simp [newCell]; omega
  unfold execM putCell at hd
  split at hd
  · rename_i h9
    have h10 := hnew h9
    dsimp only at hd
    split at hd
    · rcases List.mem_append.1 hd with hd | hd
      · have := v3 d hd; omega
      · have : d = newCell o := by simpa using hd
        rw [this]; omega
    · rcases hset _ _ hd with hd | rfl
      · have := v3 d hd; omega
      · omega
  · split at hd
    · have := v3 d hd; omega
    · split at hd
      · dsimp only at hd
        unfold setRef at hd
        split at hd
        · rename_i c hc2
          rcases hset _ _ hd with hd | rfl
          · have := v3 d hd; omega
          · have := v3 _ (List.mem_of_getElem? hc2)
            simp only [List.length_set]; omega
        · have := v3 d hd; omega
      · split at hd
        · have := v3 d hd; omega
        · split at hd
          · have := v3 d hd; omega
          · dsimp only at hd
            unfold setData at hd
            split at hd
            · rename_i c hc2
              rcases hset _ _ hd with hd | rfl
              · have := v3 d hd; omega
              · have := v3 _ (List.mem_of_getElem? hc2)
                dsimp only; omega
            · have := v3 d hd; omega
theorem small_StepHeap (h : HeapM) (o : CmdM) : SmallH (stepM h o).1 := by
  unfold stepM
  split
  · rename_i hv
    simp only [Bool.and_eq_true] at hv
    split
    · exact small_exec hv.1 hv.2 _
    · exact small_valid hv.1
  · exact small_zero
set_option maxHeartbeats 4000000 in
theorem implStepHeap_any (v : Value) (h : HeapM) (o : CmdM) (w : World) (hv : RH w v h) :
    Calls Try.prog 13 #[v, .agg #[.int .i64 o.op, .int .i64 o.a, .int .i64 o.b, .int .i64 o.c]] w fun e w' => ∃ v', e = .returned (.tuple #[v', .bool (stepM h o).2]) ∧ OH w.heap.size w' v' (stepM h o).1 ∧ Below w.heap.size w w' := by
  have hv0 := hv
  obtain ⟨A, c, A', c', rfl, -, -, -, -⟩ := hv
  obtain ⟨op, oa, ob, oc⟩ := o
  dsimp only
  have h0 : ((((w.alloc (.cells #[.slice A h.cells.length c, .slice A' h.roots.length c'] 26)).alloc (.cells #[.int .i64 op, .int .i64 oa, .int .i64 ob, .int .i64 oc] 30)).alloc (.cells #[.slice none 0 0, .slice none 0 0] 26))).cell? ⟨w.heap.size, 0, none⟩ = some (.slice A h.cells.length c) := by simp [go_sem]
  have h1 : ((((w.alloc (.cells #[.slice A h.cells.length c, .slice A' h.roots.length c'] 26)).alloc (.cells #[.int .i64 op, .int .i64 oa, .int .i64 ob, .int .i64 oc] 30)).alloc (.cells #[.slice none 0 0, .slice none 0 0] 26))).cell? ⟨w.heap.size, 1, none⟩ = some (.slice A' h.roots.length c') := by simp [go_sem]
  have g0 : ((((w.alloc (.cells #[.slice A h.cells.length c, .slice A' h.roots.length c'] 26)).alloc (.cells #[.int .i64 op, .int .i64 oa, .int .i64 ob, .int .i64 oc] 30)).alloc (.cells #[.slice none 0 0, .slice none 0 0] 26))).cell? ⟨w.heap.size + 1, 0, none⟩ = some (.int .i64 op) := by simp [go_sem]
  have g1 : ((((w.alloc (.cells #[.slice A h.cells.length c, .slice A' h.roots.length c'] 26)).alloc (.cells #[.int .i64 op, .int .i64 oa, .int .i64 ob, .int .i64 oc] 30)).alloc (.cells #[.slice none 0 0, .slice none 0 0] 26))).cell? ⟨w.heap.size + 1, 1, none⟩ = some (.int .i64 oa) := by simp [go_sem]
  have g2 : ((((w.alloc (.cells #[.slice A h.cells.length c, .slice A' h.roots.length c'] 26)).alloc (.cells #[.int .i64 op, .int .i64 oa, .int .i64 ob, .int .i64 oc] 30)).alloc (.cells #[.slice none 0 0, .slice none 0 0] 26))).cell? ⟨w.heap.size + 1, 2, none⟩ = some (.int .i64 ob) := by simp [go_sem]
  have g3 : ((((w.alloc (.cells #[.slice A h.cells.length c, .slice A' h.roots.length c'] 26)).alloc (.cells #[.int .i64 op, .int .i64 oa, .int .i64 ob, .int .i64 oc] 30)).alloc (.cells #[.slice none 0 0, .slice none 0 0] 26))).cell? ⟨w.heap.size + 1, 3, none⟩ = some (.int .i64 oc) := by simp [go_sem]
  have n0 : ((((w.alloc (.cells #[.slice A h.cells.length c, .slice A' h.roots.length c'] 26)).alloc (.cells #[.int .i64 op, .int .i64 oa, .int .i64 ob, .int .i64 oc] 30)).alloc (.cells #[.slice none 0 0, .slice none 0 0] 26))).cell? ⟨w.heap.size + 2, 0, none⟩ = some (.slice none 0 0) := by simp [go_sem]
  have n1 : ((((w.alloc (.cells #[.slice A h.cells.length c, .slice A' h.roots.length c'] 26)).alloc (.cells #[.int .i64 op, .int .i64 oa, .int .i64 ob, .int .i64 oc] 30)).alloc (.cells #[.slice none 0 0, .slice none 0 0] 26))).cell? ⟨w.heap.size + 2, 1, none⟩ = some (.slice none 0 0) := by simp [go_sem]
  have nf : ∀ o, ((((w.alloc (.cells #[.slice A h.cells.length c, .slice A' h.roots.length c'] 26)).alloc (.cells #[.int .i64 op, .int .i64 oa, .int .i64 ob, .int .i64 oc] 30)).alloc (.cells #[.slice none 0 0, .slice none 0 0] 26))).frozen? ⟨w.heap.size + 2, o, none⟩ = false := fun o => by simp [go_sem]
  have z3 : w.heap.size + 2 < ((((w.alloc (.cells #[.slice A h.cells.length c, .slice A' h.roots.length c'] 26)).alloc (.cells #[.int .i64 op, .int .i64 oa, .int .i64 ob, .int .i64 oc] 30)).alloc (.cells #[.slice none 0 0, .slice none 0 0] 26))).heap.size := by simp
  have HW : Hid (Below w.heap.size w ((((w.alloc (.cells #[.slice A h.cells.length c, .slice A' h.roots.length c'] 26)).alloc (.cells #[.int .i64 op, .int .i64 oa, .int .i64 ob, .int .i64 oc] 30)).alloc (.cells #[.slice none 0 0, .slice none 0 0] 26)))) := by unfold Hid; exact blw_
  cases hva : validM h
  · have HV := Lib.hid hva
    have HE := Lib.hid (stepM_bad (h := h) (o := ⟨op, oa, ob, oc⟩) (by rw [hva]; rfl))
    clear hva
    go_enter Try.func13, Try.ntmps13
    go_wp2_with fail
    ((with_reducible refine (implHeapValid_any _ h _ (hv0.below blw_)).mono ?_); rw [HV.out]; rintro e w1 ⟨rfl, hB1⟩; have Y1 : Below ((((w.alloc (.cells #[.slice A h.cells.length c, .slice A' h.roots.length c'] 26)).alloc (.cells #[.int .i64 op, .int .i64 oa, .int .i64 ob, .int .i64 oc] 30)).alloc (.cells #[.slice none 0 0, .slice none 0 0] 26))).heap.size (((w.alloc (.cells #[.slice A h.cells.length c, .slice A' h.roots.length c'] 26)).alloc (.cells #[.int .i64 op, .int .i64 oa, .int .i64 ob, .int .i64 oc] 30)).alloc (.cells #[.slice none 0 0, .slice none 0 0] 26)) w1 := blw_; have X1 : Below w.heap.size w w1 := HW.out.trans (Y1.mono HW.out.size); have sX1 := X1.size; have sY1 := Y1.size; clear hB1; have a0 := cell_below h0 Y1; have a1 := cell_below h1 Y1; have b0 := cell_below g0 Y1; have b1 := cell_below g1 Y1; have b2 := cell_below g2 Y1; have b3 := cell_below g3 Y1; have r0 := cell_below n0 Y1; have r1 := cell_below n1 Y1; have rf0 := ((bcell Y1).2.1 _ _ z3).trans (nf 0); have rf1 := ((bcell Y1).2.1 _ _ z3).trans (nf 1))
    go_wp2_with fail
    refine bodyPost_ret (v := .tuple #[.agg #[.slice none 0 0, .slice none 0 0], .bool false]) (by simp [results, Try.results13, go_sem, r0, r1]) rfl ⟨_, by rw [HE.out], ?_, (X1.setCell (by simp; omega) _).setCell (by simp; omega) _⟩
    rw [HE.out]
    exact OH.zero
  have HV := Lib.hid hva
  obtain ⟨v1, v2, v3⟩ := valid_small hva
  have HV3 := Lib.hid v3
  have v2' : h.roots.length ≤ 4 := by omega
  clear v3 v2
  cases hok : cmdOk ⟨op, oa, ob, oc⟩
  · have HO := Lib.hid hok
    have HE := Lib.hid (stepM_bad (h := h) (o := ⟨op, oa, ob, oc⟩) (by rw [hva, hok]; rfl))
    clear hva hok
    go_enter Try.func13, Try.ntmps13
    go_wp2_with fail
    ((with_reducible refine (implHeapValid_any _ h _ (hv0.below blw_)).mono ?_); rw [HV.out]; rintro e w1 ⟨rfl, hB1⟩; have Y1 : Below ((((w.alloc (.cells #[.slice A h.cells.length c, .slice A' h.roots.length c'] 26)).alloc (.cells #[.int .i64 op, .int .i64 oa, .int .i64 ob, .int .i64 oc] 30)).alloc (.cells #[.slice none 0 0, .slice none 0 0] 26))).heap.size (((w.alloc (.cells #[.slice A h.cells.length c, .slice A' h.roots.length c'] 26)).alloc (.cells #[.int .i64 op, .int .i64 oa, .int .i64 ob, .int .i64 oc] 30)).alloc (.cells #[.slice none 0 0, .slice none 0 0] 26)) w1 := blw_; have X1 : Below w.heap.size w w1 := HW.out.trans (Y1.mono HW.out.size); have sX1 := X1.size; have sY1 := Y1.size; clear hB1; have a0 := cell_below h0 Y1; have a1 := cell_below h1 Y1; have b0 := cell_below g0 Y1; have b1 := cell_below g1 Y1; have b2 := cell_below g2 Y1; have b3 := cell_below g3 Y1; have r0 := cell_below n0 Y1; have r1 := cell_below n1 Y1; have rf0 := ((bcell Y1).2.1 _ _ z3).trans (nf 0); have rf1 := ((bcell Y1).2.1 _ _ z3).trans (nf 1))
    go_wp2_with fail
    ((with_reducible refine (implCommandValid_any ⟨op, oa, ob, oc⟩ _).mono ?_); rw [HO.out]; rintro e w2 ⟨rfl, hB2⟩; have Y2 : Below ((((w.alloc (.cells #[.slice A h.cells.length c, .slice A' h.roots.length c'] 26)).alloc (.cells #[.int .i64 op, .int .i64 oa, .int .i64 ob, .int .i64 oc] 30)).alloc (.cells #[.slice none 0 0, .slice none 0 0] 26))).heap.size (((w.alloc (.cells #[.slice A h.cells.length c, .slice A' h.roots.length c'] 26)).alloc (.cells #[.int .i64 op, .int .i64 oa, .int .i64 ob, .int .i64 oc] 30)).alloc (.cells #[.slice none 0 0, .slice none 0 0] 26)) w2 := blw_; have X2 : Below w.heap.size w w2 := HW.out.trans (Y2.mono HW.out.size); have sX2 := X2.size; have sY2 := Y2.size; clear X1 Y1 a0 a1 b0 b1 b2 b3 r0 r1 rf0 rf1 hB2; have a0 := cell_below h0 Y2; have a1 := cell_below h1 Y2; have b0 := cell_below g0 Y2; have b1 := cell_below g1 Y2; have b2 := cell_below g2 Y2; have b3 := cell_below g3 Y2; have r0 := cell_below n0 Y2; have r1 := cell_below n1 Y2; have rf0 := ((bcell Y2).2.1 _ _ z3).trans (nf 0); have rf1 := ((bcell Y2).2.1 _ _ z3).trans (nf 1))
    go_wp2_with fail
    refine bodyPost_ret (v := .tuple #[.agg #[.slice none 0 0, .slice none 0 0], .bool false]) (by simp [results, Try.results13, go_sem, r0, r1]) rfl ⟨_, by rw [HE.out], ?_, (X2.setCell (by simp; omega) _).setCell (by simp; omega) _⟩
    rw [HE.out]
    exact OH.zero
  have HO := Lib.hid hok
  cases hps : possO h ⟨op, oa, ob, oc⟩
  · have HP := Lib.hid (possO_hid hps hva hok)
    have HE := Lib.hid (stepM_no (o := ⟨op, oa, ob, oc⟩) hva hok (.inl hps))
    clear hva hok hps
    go_enter Try.func13, Try.ntmps13
    go_wp2_with fail
    ((with_reducible refine (implHeapValid_any _ h _ (hv0.below blw_)).mono ?_); rw [HV.out]; rintro e w1 ⟨rfl, hB1⟩; have Y1 : Below ((((w.alloc (.cells #[.slice A h.cells.length c, .slice A' h.roots.length c'] 26)).alloc (.cells #[.int .i64 op, .int .i64 oa, .int .i64 ob, .int .i64 oc] 30)).alloc (.cells #[.slice none 0 0, .slice none 0 0] 26))).heap.size (((w.alloc (.cells #[.slice A h.cells.length c, .slice A' h.roots.length c'] 26)).alloc (.cells #[.int .i64 op, .int .i64 oa, .int .i64 ob, .int .i64 oc] 30)).alloc (.cells #[.slice none 0 0, .slice none 0 0] 26)) w1 := blw_; have X1 : Below w.heap.size w w1 := HW.out.trans (Y1.mono HW.out.size); have sX1 := X1.size; have sY1 := Y1.size; clear hB1; have a0 := cell_below h0 Y1; have a1 := cell_below h1 Y1; have b0 := cell_below g0 Y1; have b1 := cell_below g1 Y1; have b2 := cell_below g2 Y1; have b3 := cell_below g3 Y1; have r0 := cell_below n0 Y1; have r1 := cell_below n1 Y1; have rf0 := ((bcell Y1).2.1 _ _ z3).trans (nf 0); have rf1 := ((bcell Y1).2.1 _ _ z3).trans (nf 1))
    go_wp2_with fail
    ((with_reducible refine (implCommandValid_any ⟨op, oa, ob, oc⟩ _).mono ?_); rw [HO.out]; rintro e w2 ⟨rfl, hB2⟩; have Y2 : Below ((((w.alloc (.cells #[.slice A h.cells.length c, .slice A' h.roots.length c'] 26)).alloc (.cells #[.int .i64 op, .int .i64 oa, .int .i64 ob, .int .i64 oc] 30)).alloc (.cells #[.slice none 0 0, .slice none 0 0] 26))).heap.size (((w.alloc (.cells #[.slice A h.cells.length c, .slice A' h.roots.length c'] 26)).alloc (.cells #[.int .i64 op, .int .i64 oa, .int .i64 ob, .int .i64 oc] 30)).alloc (.cells #[.slice none 0 0, .slice none 0 0] 26)) w2 := blw_; have X2 : Below w.heap.size w w2 := HW.out.trans (Y2.mono HW.out.size); have sX2 := X2.size; have sY2 := Y2.size; clear X1 Y1 a0 a1 b0 b1 b2 b3 r0 r1 rf0 rf1 hB2; have a0 := cell_below h0 Y2; have a1 := cell_below h1 Y2; have b0 := cell_below g0 Y2; have b1 := cell_below g1 Y2; have b2 := cell_below g2 Y2; have b3 := cell_below g3 Y2; have r0 := cell_below n0 Y2; have r1 := cell_below n1 Y2; have rf0 := ((bcell Y2).2.1 _ _ z3).trans (nf 0); have rf1 := ((bcell Y2).2.1 _ _ z3).trans (nf 1))
    go_wp2_with fail
    ((with_reducible refine (implCommandPossible_any _ h ⟨op, oa, ob, oc⟩ _ (hv0.below blw_)).mono ?_); rw [HP.out]; rintro e w3 ⟨rfl, hB3⟩; have Y3 : Below ((((w.alloc (.cells #[.slice A h.cells.length c, .slice A' h.roots.length c'] 26)).alloc (.cells #[.int .i64 op, .int .i64 oa, .int .i64 ob, .int .i64 oc] 30)).alloc (.cells #[.slice none 0 0, .slice none 0 0] 26))).heap.size (((w.alloc (.cells #[.slice A h.cells.length c, .slice A' h.roots.length c'] 26)).alloc (.cells #[.int .i64 op, .int .i64 oa, .int .i64 ob, .int .i64 oc] 30)).alloc (.cells #[.slice none 0 0, .slice none 0 0] 26)) w3 := blw_; have X3 : Below w.heap.size w w3 := HW.out.trans (Y3.mono HW.out.size); have sX3 := X3.size; have sY3 := Y3.size; have X3s : w.heap.size + 3 ≤ w3.heap.size := (by have := Y3.size; simpa using this); clear X2 Y2 a0 a1 b0 b1 b2 b3 r0 r1 rf0 rf1 hB3; have a0 := cell_below h0 Y3; have a1 := cell_below h1 Y3; have b0 := cell_below g0 Y3; have b1 := cell_below g1 Y3; have b2 := cell_below g2 Y3; have b3 := cell_below g3 Y3; have r0 := cell_below n0 Y3; have r1 := cell_below n1 Y3; have rf0 := ((bcell Y3).2.1 _ _ z3).trans (nf 0); have rf1 := ((bcell Y3).2.1 _ _ z3).trans (nf 1))
    go_wp2_with fail
    ((with_reducible refine (copyHeap_any _ h _ (hv0.below blw_) (by omega) (fun d hd => Nat.le_trans (HV3.out d hd) (by omega)) (by omega)).mono ?_); rintro e w4 ⟨v4, rfl, ⟨B, d, B', d', os, rfl, o4⟩, hB4⟩; (have z_hB4 := Below.size hB4); (try simp only [World.size_alloc, World.size_setCell, World.size_drew, World.heap_drewN] at z_hB4); have Y4 : Below ((((w.alloc (.cells #[.slice A h.cells.length c, .slice A' h.roots.length c'] 26)).alloc (.cells #[.int .i64 op, .int .i64 oa, .int .i64 ob, .int .i64 oc] 30)).alloc (.cells #[.slice none 0 0, .slice none 0 0] 26))).heap.size (((w.alloc (.cells #[.slice A h.cells.length c, .slice A' h.roots.length c'] 26)).alloc (.cells #[.int .i64 op, .int .i64 oa, .int .i64 ob, .int .i64 oc] 30)).alloc (.cells #[.slice none 0 0, .slice none 0 0] 26)) w4 := blw_; have X4 : Below w.heap.size w w4 := HW.out.trans (Y4.mono HW.out.size); have sX4 := X4.size; have sY4 := Y4.size; clear X3 Y3 a0 a1 b0 b1 b2 b3 r0 r1 rf0 rf1 hB4; have r0 := cell_below n0 Y4; have r1 := cell_below n1 Y4; have rf0 := ((bcell Y4).2.1 _ _ z3).trans (nf 0); have rf1 := ((bcell Y4).2.1 _ _ z3).trans (nf 1))
    go_wp2_with fail
    refine bodyPost_ret (v := .tuple #[.agg #[.slice B h.cells.length d, .slice B' h.roots.length d'], .bool false]) (by simp [results, Try.results13, go_sem, r0, r1]) rfl ⟨_, by rw [HE.out], ?_, (X4.setCell (by simp; omega) _).setCell (by simp; omega) _⟩
    rw [HE.out]
    exact (OH.setlt (OH.setlt (lo := w.heap.size + 3) ⟨B, d, B', d', os, rfl, o4.1, o4.2.1, fun b hb => by have h7 := o4.2.2 b hb; have h8 := X3s; (try simp only [World.size_alloc, World.size_setCell, World.size_drew, World.heap_drewN] at h7); omega⟩ (a := ⟨w.heap.size + 2, 0, none⟩) (by simp) (.slice B h.cells.length d)) (a := ⟨w.heap.size + 2, 1, none⟩) (by simp) (.slice B' h.roots.length d')).lo_ (by omega)
  have HP := Lib.hid (possO_hid hps hva hok)
  have HPO := Lib.hid hps
  by_cases hful : op = 1 ∧ h.cells.length = 40
  · have HE := Lib.hid (stepM_no (o := ⟨op, oa, ob, oc⟩) hva hok (.inr hful))
    obtain ⟨rfl, hful⟩ := hful
    have hful' : (h.cells.length : Int) = 40 := by omega
    clear hva hok hps hful
    go_enter Try.func13, Try.ntmps13
    go_wp2_with fail
    ((with_reducible refine (implHeapValid_any _ h _ (hv0.below blw_)).mono ?_); rw [HV.out]; rintro e w1 ⟨rfl, hB1⟩; have Y1 : Below ((((w.alloc (.cells #[.slice A h.cells.length c, .slice A' h.roots.length c'] 26)).alloc (.cells #[.int .i64 1, .int .i64 oa, .int .i64 ob, .int .i64 oc] 30)).alloc (.cells #[.slice none 0 0, .slice none 0 0] 26))).heap.size (((w.alloc (.cells #[.slice A h.cells.length c, .slice A' h.roots.length c'] 26)).alloc (.cells #[.int .i64 1, .int .i64 oa, .int .i64 ob, .int .i64 oc] 30)).alloc (.cells #[.slice none 0 0, .slice none 0 0] 26)) w1 := blw_; have X1 : Below w.heap.size w w1 := HW.out.trans (Y1.mono HW.out.size); have sX1 := X1.size; have sY1 := Y1.size; clear hB1; have a0 := cell_below h0 Y1; have a1 := cell_below h1 Y1; have b0 := cell_below g0 Y1; have b1 := cell_below g1 Y1; have b2 := cell_below g2 Y1; have b3 := cell_below g3 Y1; have r0 := cell_below n0 Y1; have r1 := cell_below n1 Y1; have rf0 := ((bcell Y1).2.1 _ _ z3).trans (nf 0); have rf1 := ((bcell Y1).2.1 _ _ z3).trans (nf 1))
    go_wp2_with fail
    ((with_reducible refine (implCommandValid_any ⟨1, oa, ob, oc⟩ _).mono ?_); rw [HO.out]; rintro e w2 ⟨rfl, hB2⟩; have Y2 : Below ((((w.alloc (.cells #[.slice A h.cells.length c, .slice A' h.roots.length c'] 26)).alloc (.cells #[.int .i64 1, .int .i64 oa, .int .i64 ob, .int .i64 oc] 30)).alloc (.cells #[.slice none 0 0, .slice none 0 0] 26))).heap.size (((w.alloc (.cells #[.slice A h.cells.length c, .slice A' h.roots.length c'] 26)).alloc (.cells #[.int .i64 1, .int .i64 oa, .int .i64 ob, .int .i64 oc] 30)).alloc (.cells #[.slice none 0 0, .slice none 0 0] 26)) w2 := blw_; have X2 : Below w.heap.size w w2 := HW.out.trans (Y2.mono HW.out.size); have sX2 := X2.size; have sY2 := Y2.size; clear X1 Y1 a0 a1 b0 b1 b2 b3 r0 r1 rf0 rf1 hB2; have a0 := cell_below h0 Y2; have a1 := cell_below h1 Y2; have b0 := cell_below g0 Y2; have b1 := cell_below g1 Y2; have b2 := cell_below g2 Y2; have b3 := cell_below g3 Y2; have r0 := cell_below n0 Y2; have r1 := cell_below n1 Y2; have rf0 := ((bcell Y2).2.1 _ _ z3).trans (nf 0); have rf1 := ((bcell Y2).2.1 _ _ z3).trans (nf 1))
    go_wp2_with fail
    ((with_reducible refine (implCommandPossible_any _ h ⟨1, oa, ob, oc⟩ _ (hv0.below blw_)).mono ?_); rw [HP.out]; rintro e w3 ⟨rfl, hB3⟩; have Y3 : Below ((((w.alloc (.cells #[.slice A h.cells.length c, .slice A' h.roots.length c'] 26)).alloc (.cells #[.int .i64 1, .int .i64 oa, .int .i64 ob, .int .i64 oc] 30)).alloc (.cells #[.slice none 0 0, .slice none 0 0] 26))).heap.size (((w.alloc (.cells #[.slice A h.cells.length c, .slice A' h.roots.length c'] 26)).alloc (.cells #[.int .i64 1, .int .i64 oa, .int .i64 ob, .int .i64 oc] 30)).alloc (.cells #[.slice none 0 0, .slice none 0 0] 26)) w3 := blw_; have X3 : Below w.heap.size w w3 := HW.out.trans (Y3.mono HW.out.size); have sX3 := X3.size; have sY3 := Y3.size; have X3s : w.heap.size + 3 ≤ w3.heap.size := (by have := Y3.size; simpa using this); clear X2 Y2 a0 a1 b0 b1 b2 b3 r0 r1 rf0 rf1 hB3; have a0 := cell_below h0 Y3; have a1 := cell_below h1 Y3; have b0 := cell_below g0 Y3; have b1 := cell_below g1 Y3; have b2 := cell_below g2 Y3; have b3 := cell_below g3 Y3; have r0 := cell_below n0 Y3; have r1 := cell_below n1 Y3; have rf0 := ((bcell Y3).2.1 _ _ z3).trans (nf 0); have rf1 := ((bcell Y3).2.1 _ _ z3).trans (nf 1))
    go_wp2_with fail
    ((with_reducible refine (copyHeap_any _ h _ (hv0.below blw_) (by omega) (fun d hd => Nat.le_trans (HV3.out d hd) (by omega)) (by omega)).mono ?_); rintro e w4 ⟨v4, rfl, ⟨B, d, B', d', os, rfl, o4⟩, hB4⟩; (have z_hB4 := Below.size hB4); (try simp only [World.size_alloc, World.size_setCell, World.size_drew, World.heap_drewN] at z_hB4); have Y4 : Below ((((w.alloc (.cells #[.slice A h.cells.length c, .slice A' h.roots.length c'] 26)).alloc (.cells #[.int .i64 1, .int .i64 oa, .int .i64 ob, .int .i64 oc] 30)).alloc (.cells #[.slice none 0 0, .slice none 0 0] 26))).heap.size (((w.alloc (.cells #[.slice A h.cells.length c, .slice A' h.roots.length c'] 26)).alloc (.cells #[.int .i64 1, .int .i64 oa, .int .i64 ob, .int .i64 oc] 30)).alloc (.cells #[.slice none 0 0, .slice none 0 0] 26)) w4 := blw_; have X4 : Below w.heap.size w w4 := HW.out.trans (Y4.mono HW.out.size); have sX4 := X4.size; have sY4 := Y4.size; clear X3 Y3 a0 a1 b0 b1 b2 b3 r0 r1 rf0 rf1 hB4; have r0 := cell_below n0 Y4; have r1 := cell_below n1 Y4; have rf0 := ((bcell Y4).2.1 _ _ z3).trans (nf 0); have rf1 := ((bcell Y4).2.1 _ _ z3).trans (nf 1))
    go_wp2_with fail
    refine bodyPost_ret (v := .tuple #[.agg #[.slice B h.cells.length d, .slice B' h.roots.length d'], .bool false]) (by simp [results, Try.results13, go_sem, r0, r1]) rfl ⟨_, by rw [HE.out], ?_, (X4.setCell (by simp; omega) _).setCell (by simp; omega) _⟩
    rw [HE.out]
    exact (OH.setlt (OH.setlt (lo := w.heap.size + 3) ⟨B, d, B', d', os, rfl, o4.1, o4.2.1, fun b hb => by have h7 := o4.2.2 b hb; have h8 := X3s; (try simp only [World.size_alloc, World.size_setCell, World.size_drew, World.heap_drewN] at h7); omega⟩ (a := ⟨w.heap.size + 2, 0, none⟩) (by simp) (.slice B h.cells.length d)) (a := ⟨w.heap.size + 2, 1, none⟩) (by simp) (.slice B' h.roots.length d')).lo_ (by omega)
  · have HE := Lib.hid (stepM_yes (o := ⟨op, oa, ob, oc⟩) hva hok hps hful)
    have HFU := Lib.hid hful
    have hopn : op = 1 ∨ op ≠ 1 := by omega
    clear hva hok hps hful
    rcases hopn with rfl | hop
    · have hcn : h.cells.length ≠ 40 := fun e => HFU.out ⟨rfl, e⟩
      have hcn' : ¬ (h.cells.length : Int) = 40 := by omega
      clear hcn
      go_enter Try.func13, Try.ntmps13
      go_wp2_with fail
      ((with_reducible refine (implHeapValid_any _ h _ (hv0.below blw_)).mono ?_); rw [HV.out]; rintro e w1 ⟨rfl, hB1⟩; have Y1 : Below ((((w.alloc (.cells #[.slice A h.cells.length c, .slice A' h.roots.length c'] 26)).alloc (.cells #[.int .i64 1, .int .i64 oa, .int .i64 ob, .int .i64 oc] 30)).alloc (.cells #[.slice none 0 0, .slice none 0 0] 26))).heap.size (((w.alloc (.cells #[.slice A h.cells.length c, .slice A' h.roots.length c'] 26)).alloc (.cells #[.int .i64 1, .int .i64 oa, .int .i64 ob, .int .i64 oc] 30)).alloc (.cells #[.slice none 0 0, .slice none 0 0] 26)) w1 := blw_; have X1 : Below w.heap.size w w1 := HW.out.trans (Y1.mono HW.out.size); have sX1 := X1.size; have sY1 := Y1.size; clear hB1; have a0 := cell_below h0 Y1; have a1 := cell_below h1 Y1; have b0 := cell_below g0 Y1; have b1 := cell_below g1 Y1; have b2 := cell_below g2 Y1; have b3 := cell_below g3 Y1; have r0 := cell_below n0 Y1; have r1 := cell_below n1 Y1; have rf0 := ((bcell Y1).2.1 _ _ z3).trans (nf 0); have rf1 := ((bcell Y1).2.1 _ _ z3).trans (nf 1))
      go_wp2_with fail
      ((with_reducible refine (implCommandValid_any ⟨1, oa, ob, oc⟩ _).mono ?_); rw [HO.out]; rintro e w2 ⟨rfl, hB2⟩; have Y2 : Below ((((w.alloc (.cells #[.slice A h.cells.length c, .slice A' h.roots.length c'] 26)).alloc (.cells #[.int .i64 1, .int .i64 oa, .int .i64 ob, .int .i64 oc] 30)).alloc (.cells #[.slice none 0 0, .slice none 0 0] 26))).heap.size (((w.alloc (.cells #[.slice A h.cells.length c, .slice A' h.roots.length c'] 26)).alloc (.cells #[.int .i64 1, .int .i64 oa, .int .i64 ob, .int .i64 oc] 30)).alloc (.cells #[.slice none 0 0, .slice none 0 0] 26)) w2 := blw_; have X2 : Below w.heap.size w w2 := HW.out.trans (Y2.mono HW.out.size); have sX2 := X2.size; have sY2 := Y2.size; clear X1 Y1 a0 a1 b0 b1 b2 b3 r0 r1 rf0 rf1 hB2; have a0 := cell_below h0 Y2; have a1 := cell_below h1 Y2; have b0 := cell_below g0 Y2; have b1 := cell_below g1 Y2; have b2 := cell_below g2 Y2; have b3 := cell_below g3 Y2; have r0 := cell_below n0 Y2; have r1 := cell_below n1 Y2; have rf0 := ((bcell Y2).2.1 _ _ z3).trans (nf 0); have rf1 := ((bcell Y2).2.1 _ _ z3).trans (nf 1))
      go_wp2_with fail
      ((with_reducible refine (implCommandPossible_any _ h ⟨1, oa, ob, oc⟩ _ (hv0.below blw_)).mono ?_); rw [HP.out]; rintro e w3 ⟨rfl, hB3⟩; have Y3 : Below ((((w.alloc (.cells #[.slice A h.cells.length c, .slice A' h.roots.length c'] 26)).alloc (.cells #[.int .i64 1, .int .i64 oa, .int .i64 ob, .int .i64 oc] 30)).alloc (.cells #[.slice none 0 0, .slice none 0 0] 26))).heap.size (((w.alloc (.cells #[.slice A h.cells.length c, .slice A' h.roots.length c'] 26)).alloc (.cells #[.int .i64 1, .int .i64 oa, .int .i64 ob, .int .i64 oc] 30)).alloc (.cells #[.slice none 0 0, .slice none 0 0] 26)) w3 := blw_; have X3 : Below w.heap.size w w3 := HW.out.trans (Y3.mono HW.out.size); have sX3 := X3.size; have sY3 := Y3.size; have X3s : w.heap.size + 3 ≤ w3.heap.size := (by have := Y3.size; simpa using this); clear X2 Y2 a0 a1 b0 b1 b2 b3 r0 r1 rf0 rf1 hB3; have a0 := cell_below h0 Y3; have a1 := cell_below h1 Y3; have b0 := cell_below g0 Y3; have b1 := cell_below g1 Y3; have b2 := cell_below g2 Y3; have b3 := cell_below g3 Y3; have r0 := cell_below n0 Y3; have r1 := cell_below n1 Y3; have rf0 := ((bcell Y3).2.1 _ _ z3).trans (nf 0); have rf1 := ((bcell Y3).2.1 _ _ z3).trans (nf 1))
      go_wp2_with fail
      ((with_reducible refine (execute_any _ h ⟨1, oa, ob, oc⟩ h.cells.length _ (hv0.below blw_) HV.out HO.out HPO.out (Nat.le_refl _)).mono ?_); rintro e w4 ⟨v4, rfl, ⟨B, d, B', d', os, rfl, o4⟩, hB4⟩; (have z_hB4 := Below.size hB4); (try simp only [World.size_alloc, World.size_setCell, World.size_drew, World.heap_drewN] at z_hB4); have Y4 : Below ((((w.alloc (.cells #[.slice A h.cells.length c, .slice A' h.roots.length c'] 26)).alloc (.cells #[.int .i64 1, .int .i64 oa, .int .i64 ob, .int .i64 oc] 30)).alloc (.cells #[.slice none 0 0, .slice none 0 0] 26))).heap.size (((w.alloc (.cells #[.slice A h.cells.length c, .slice A' h.roots.length c'] 26)).alloc (.cells #[.int .i64 1, .int .i64 oa, .int .i64 ob, .int .i64 oc] 30)).alloc (.cells #[.slice none 0 0, .slice none 0 0] 26)) w4 := blw_; have X4 : Below w.heap.size w w4 := HW.out.trans (Y4.mono HW.out.size); have sX4 := X4.size; have sY4 := Y4.size; clear X3 Y3 a0 a1 b0 b1 b2 b3 r0 r1 rf0 rf1 hB4; have r0 := cell_below n0 Y4; have r1 := cell_below n1 Y4; have rf0 := ((bcell Y4).2.1 _ _ z3).trans (nf 0); have rf1 := ((bcell Y4).2.1 _ _ z3).trans (nf 1))
      go_wp2_with fail
      refine bodyPost_ret (v := .tuple #[.agg #[.slice B (execM h ⟨1, oa, ob, oc⟩ h.cells.length).cells.length d, .slice B' (execM h ⟨1, oa, ob, oc⟩ h.cells.length).roots.length d'], .bool true]) (by simp [results, Try.results13, go_sem, r0, r1]) rfl ⟨_, by rw [HE.out], ?_, (X4.setCell (by simp; omega) _).setCell (by simp; omega) _⟩
      rw [HE.out]
      exact (OH.setlt (OH.setlt (lo := w.heap.size + 3) ⟨B, d, B', d', os, rfl, o4.1, o4.2.1, fun b hb => by have h7 := o4.2.2 b hb; have h8 := X3s; (try simp only [World.size_alloc, World.size_setCell, World.size_drew, World.heap_drewN] at h7); omega⟩ (a := ⟨w.heap.size + 2, 0, none⟩) (by simp) (.slice B (execM h ⟨1, oa, ob, oc⟩ h.cells.length).cells.length d)) (a := ⟨w.heap.size + 2, 1, none⟩) (by simp) (.slice B' (execM h ⟨1, oa, ob, oc⟩ h.cells.length).roots.length d')).lo_ (by omega)
    · go_enter Try.func13, Try.ntmps13
      go_wp2_with fail
      ((with_reducible refine (implHeapValid_any _ h _ (hv0.below blw_)).mono ?_); rw [HV.out]; rintro e w1 ⟨rfl, hB1⟩; have Y1 : Below ((((w.alloc (.cells #[.slice A h.cells.length c, .slice A' h.roots.length c'] 26)).alloc (.cells #[.int .i64 op, .int .i64 oa, .int .i64 ob, .int .i64 oc] 30)).alloc (.cells #[.slice none 0 0, .slice none 0 0] 26))).heap.size (((w.alloc (.cells #[.slice A h.cells.length c, .slice A' h.roots.length c'] 26)).alloc (.cells #[.int .i64 op, .int .i64 oa, .int .i64 ob, .int .i64 oc] 30)).alloc (.cells #[.slice none 0 0, .slice none 0 0] 26)) w1 := blw_; have X1 : Below w.heap.size w w1 := HW.out.trans (Y1.mono HW.out.size); have sX1 := X1.size; have sY1 := Y1.size; clear hB1; have a0 := cell_below h0 Y1; have a1 := cell_below h1 Y1; have b0 := cell_below g0 Y1; have b1 := cell_below g1 Y1; have b2 := cell_below g2 Y1; have b3 := cell_below g3 Y1; have r0 := cell_below n0 Y1; have r1 := cell_below n1 Y1; have rf0 := ((bcell Y1).2.1 _ _ z3).trans (nf 0); have rf1 := ((bcell Y1).2.1 _ _ z3).trans (nf 1))
      go_wp2_with fail
      ((with_reducible refine (implCommandValid_any ⟨op, oa, ob, oc⟩ _).mono ?_); rw [HO.out]; rintro e w2 ⟨rfl, hB2⟩; have Y2 : Below ((((w.alloc (.cells #[.slice A h.cells.length c, .slice A' h.roots.length c'] 26)).alloc (.cells #[.int .i64 op, .int .i64 oa, .int .i64 ob, .int .i64 oc] 30)).alloc (.cells #[.slice none 0 0, .slice none 0 0] 26))).heap.size (((w.alloc (.cells #[.slice A h.cells.length c, .slice A' h.roots.length c'] 26)).alloc (.cells #[.int .i64 op, .int .i64 oa, .int .i64 ob, .int .i64 oc] 30)).alloc (.cells #[.slice none 0 0, .slice none 0 0] 26)) w2 := blw_; have X2 : Below w.heap.size w w2 := HW.out.trans (Y2.mono HW.out.size); have sX2 := X2.size; have sY2 := Y2.size; clear X1 Y1 a0 a1 b0 b1 b2 b3 r0 r1 rf0 rf1 hB2; have a0 := cell_below h0 Y2; have a1 := cell_below h1 Y2; have b0 := cell_below g0 Y2; have b1 := cell_below g1 Y2; have b2 := cell_below g2 Y2; have b3 := cell_below g3 Y2; have r0 := cell_below n0 Y2; have r1 := cell_below n1 Y2; have rf0 := ((bcell Y2).2.1 _ _ z3).trans (nf 0); have rf1 := ((bcell Y2).2.1 _ _ z3).trans (nf 1))
      go_wp2_with fail
      ((with_reducible refine (implCommandPossible_any _ h ⟨op, oa, ob, oc⟩ _ (hv0.below blw_)).mono ?_); rw [HP.out]; rintro e w3 ⟨rfl, hB3⟩; have Y3 : Below ((((w.alloc (.cells #[.slice A h.cells.length c, .slice A' h.roots.length c'] 26)).alloc (.cells #[.int .i64 op, .int .i64 oa, .int .i64 ob, .int .i64 oc] 30)).alloc (.cells #[.slice none 0 0, .slice none 0 0] 26))).heap.size (((w.alloc (.cells #[.slice A h.cells.length c, .slice A' h.roots.length c'] 26)).alloc (.cells #[.int .i64 op, .int .i64 oa, .int .i64 ob, .int .i64 oc] 30)).alloc (.cells #[.slice none 0 0, .slice none 0 0] 26)) w3 := blw_; have X3 : Below w.heap.size w w3 := HW.out.trans (Y3.mono HW.out.size); have sX3 := X3.size; have sY3 := Y3.size; have X3s : w.heap.size + 3 ≤ w3.heap.size := (by have := Y3.size; simpa using this); clear X2 Y2 a0 a1 b0 b1 b2 b3 r0 r1 rf0 rf1 hB3; have a0 := cell_below h0 Y3; have a1 := cell_below h1 Y3; have b0 := cell_below g0 Y3; have b1 := cell_below g1 Y3; have b2 := cell_below g2 Y3; have b3 := cell_below g3 Y3; have r0 := cell_below n0 Y3; have r1 := cell_below n1 Y3; have rf0 := ((bcell Y3).2.1 _ _ z3).trans (nf 0); have rf1 := ((bcell Y3).2.1 _ _ z3).trans (nf 1))
      go_wp2_with fail
      ((with_reducible refine (execute_any _ h ⟨op, oa, ob, oc⟩ h.cells.length _ (hv0.below blw_) HV.out HO.out HPO.out (Nat.le_refl _)).mono ?_); rintro e w4 ⟨v4, rfl, ⟨B, d, B', d', os, rfl, o4⟩, hB4⟩; (have z_hB4 := Below.size hB4); (try simp only [World.size_alloc, World.size_setCell, World.size_drew, World.heap_drewN] at z_hB4); have Y4 : Below ((((w.alloc (.cells #[.slice A h.cells.length c, .slice A' h.roots.length c'] 26)).alloc (.cells #[.int .i64 op, .int .i64 oa, .int .i64 ob, .int .i64 oc] 30)).alloc (.cells #[.slice none 0 0, .slice none 0 0] 26))).heap.size (((w.alloc (.cells #[.slice A h.cells.length c, .slice A' h.roots.length c'] 26)).alloc (.cells #[.int .i64 op, .int .i64 oa, .int .i64 ob, .int .i64 oc] 30)).alloc (.cells #[.slice none 0 0, .slice none 0 0] 26)) w4 := blw_; have X4 : Below w.heap.size w w4 := HW.out.trans (Y4.mono HW.out.size); have sX4 := X4.size; have sY4 := Y4.size; clear X3 Y3 a0 a1 b0 b1 b2 b3 r0 r1 rf0 rf1 hB4; have r0 := cell_below n0 Y4; have r1 := cell_below n1 Y4; have rf0 := ((bcell Y4).2.1 _ _ z3).trans (nf 0); have rf1 := ((bcell Y4).2.1 _ _ z3).trans (nf 1))
      go_wp2_with fail
      refine bodyPost_ret (v := .tuple #[.agg #[.slice B (execM h ⟨op, oa, ob, oc⟩ h.cells.length).cells.length d, .slice B' (execM h ⟨op, oa, ob, oc⟩ h.cells.length).roots.length d'], .bool true]) (by simp [results, Try.results13, go_sem, r0, r1]) rfl ⟨_, by rw [HE.out], ?_, (X4.setCell (by simp; omega) _).setCell (by simp; omega) _⟩
      rw [HE.out]
      exact (OH.setlt (OH.setlt (lo := w.heap.size + 3) ⟨B, d, B', d', os, rfl, o4.1, o4.2.1, fun b hb => by have h7 := o4.2.2 b hb; have h8 := X3s; (try simp only [World.size_alloc, World.size_setCell, World.size_drew, World.heap_drewN] at h7); omega⟩ (a := ⟨w.heap.size + 2, 0, none⟩) (by simp) (.slice B (execM h ⟨op, oa, ob, oc⟩ h.cells.length).cells.length d)) (a := ⟨w.heap.size + 2, 1, none⟩) (by simp) (.slice B' (execM h ⟨op, oa, ob, oc⟩ h.cells.length).roots.length d')).lo_ (by omega)
set_option maxHeartbeats 4000000 in
theorem specStepHeap_any (v : Value) (h : HeapM) (o : CmdM) (w : World) (hv : RH w v h) :
    Calls Try.prog 127 #[v, .agg #[.int .i64 o.op, .int .i64 o.a, .int .i64 o.b, .int .i64 o.c]] w fun e w' => ∃ v', e = .returned (.tuple #[v', .bool (stepM h o).2]) ∧ OH w.heap.size w' v' (stepM h o).1 ∧ Below w.heap.size w w' := by
  have hv0 := hv
  obtain ⟨A, c, A', c', rfl, -, -, -, -⟩ := hv
  obtain ⟨op, oa, ob, oc⟩ := o
  dsimp only
  have h0 : ((((w.alloc (.cells #[.slice A h.cells.length c, .slice A' h.roots.length c'] 26)).alloc (.cells #[.int .i64 op, .int .i64 oa, .int .i64 ob, .int .i64 oc] 30)).alloc (.cells #[.slice none 0 0, .slice none 0 0] 26))).cell? ⟨w.heap.size, 0, none⟩ = some (.slice A h.cells.length c) := by simp [go_sem]
  have h1 : ((((w.alloc (.cells #[.slice A h.cells.length c, .slice A' h.roots.length c'] 26)).alloc (.cells #[.int .i64 op, .int .i64 oa, .int .i64 ob, .int .i64 oc] 30)).alloc (.cells #[.slice none 0 0, .slice none 0 0] 26))).cell? ⟨w.heap.size, 1, none⟩ = some (.slice A' h.roots.length c') := by simp [go_sem]
  have g0 : ((((w.alloc (.cells #[.slice A h.cells.length c, .slice A' h.roots.length c'] 26)).alloc (.cells #[.int .i64 op, .int .i64 oa, .int .i64 ob, .int .i64 oc] 30)).alloc (.cells #[.slice none 0 0, .slice none 0 0] 26))).cell? ⟨w.heap.size + 1, 0, none⟩ = some (.int .i64 op) := by simp [go_sem]
  have g1 : ((((w.alloc (.cells #[.slice A h.cells.length c, .slice A' h.roots.length c'] 26)).alloc (.cells #[.int .i64 op, .int .i64 oa, .int .i64 ob, .int .i64 oc] 30)).alloc (.cells #[.slice none 0 0, .slice none 0 0] 26))).cell? ⟨w.heap.size + 1, 1, none⟩ = some (.int .i64 oa) := by simp [go_sem]
  have g2 : ((((w.alloc (.cells #[.slice A h.cells.length c, .slice A' h.roots.length c'] 26)).alloc (.cells #[.int .i64 op, .int .i64 oa, .int .i64 ob, .int .i64 oc] 30)).alloc (.cells #[.slice none 0 0, .slice none 0 0] 26))).cell? ⟨w.heap.size + 1, 2, none⟩ = some (.int .i64 ob) := by simp [go_sem]
  have g3 : ((((w.alloc (.cells #[.slice A h.cells.length c, .slice A' h.roots.length c'] 26)).alloc (.cells #[.int .i64 op, .int .i64 oa, .int .i64 ob, .int .i64 oc] 30)).alloc (.cells #[.slice none 0 0, .slice none 0 0] 26))).cell? ⟨w.heap.size + 1, 3, none⟩ = some (.int .i64 oc) := by simp [go_sem]
  have n0 : ((((w.alloc (.cells #[.slice A h.cells.length c, .slice A' h.roots.length c'] 26)).alloc (.cells #[.int .i64 op, .int .i64 oa, .int .i64 ob, .int .i64 oc] 30)).alloc (.cells #[.slice none 0 0, .slice none 0 0] 26))).cell? ⟨w.heap.size + 2, 0, none⟩ = some (.slice none 0 0) := by simp [go_sem]
  have n1 : ((((w.alloc (.cells #[.slice A h.cells.length c, .slice A' h.roots.length c'] 26)).alloc (.cells #[.int .i64 op, .int .i64 oa, .int .i64 ob, .int .i64 oc] 30)).alloc (.cells #[.slice none 0 0, .slice none 0 0] 26))).cell? ⟨w.heap.size + 2, 1, none⟩ = some (.slice none 0 0) := by simp [go_sem]
  have nf : ∀ o, ((((w.alloc (.cells #[.slice A h.cells.length c, .slice A' h.roots.length c'] 26)).alloc (.cells #[.int .i64 op, .int .i64 oa, .int .i64 ob, .int .i64 oc] 30)).alloc (.cells #[.slice none 0 0, .slice none 0 0] 26))).frozen? ⟨w.heap.size + 2, o, none⟩ = false := fun o => by simp [go_sem]
  have z3 : w.heap.size + 2 < ((((w.alloc (.cells #[.slice A h.cells.length c, .slice A' h.roots.length c'] 26)).alloc (.cells #[.int .i64 op, .int .i64 oa, .int .i64 ob, .int .i64 oc] 30)).alloc (.cells #[.slice none 0 0, .slice none 0 0] 26))).heap.size := by simp
  have HW : Hid (Below w.heap.size w ((((w.alloc (.cells #[.slice A h.cells.length c, .slice A' h.roots.length c'] 26)).alloc (.cells #[.int .i64 op, .int .i64 oa, .int .i64 ob, .int .i64 oc] 30)).alloc (.cells #[.slice none 0 0, .slice none 0 0] 26)))) := by unfold Hid; exact blw_
  cases hva : validM h
  · have HV := Lib.hid hva
    have HE := Lib.hid (stepM_bad (h := h) (o := ⟨op, oa, ob, oc⟩) (by rw [hva]; rfl))
    clear hva
    go_enter Try.func127, Try.ntmps127
    go_wp2_with fail
    ((with_reducible refine (specHeapValid_any _ h _ (hv0.below blw_)).mono ?_); rw [HV.out]; rintro e w1 ⟨rfl, hB1⟩; have Y1 : Below ((((w.alloc (.cells #[.slice A h.cells.length c, .slice A' h.roots.length c'] 26)).alloc (.cells #[.int .i64 op, .int .i64 oa, .int .i64 ob, .int .i64 oc] 30)).alloc (.cells #[.slice none 0 0, .slice none 0 0] 26))).heap.size (((w.alloc (.cells #[.slice A h.cells.length c, .slice A' h.roots.length c'] 26)).alloc (.cells #[.int .i64 op, .int .i64 oa, .int .i64 ob, .int .i64 oc] 30)).alloc (.cells #[.slice none 0 0, .slice none 0 0] 26)) w1 := blw_; have X1 : Below w.heap.size w w1 := HW.out.trans (Y1.mono HW.out.size); have sX1 := X1.size; have sY1 := Y1.size; clear hB1; have a0 := cell_below h0 Y1; have a1 := cell_below h1 Y1; have b0 := cell_below g0 Y1; have b1 := cell_below g1 Y1; have b2 := cell_below g2 Y1; have b3 := cell_below g3 Y1; have r0 := cell_below n0 Y1; have r1 := cell_below n1 Y1; have rf0 := ((bcell Y1).2.1 _ _ z3).trans (nf 0); have rf1 := ((bcell Y1).2.1 _ _ z3).trans (nf 1))
    go_wp2_with fail
    refine bodyPost_ret (v := .tuple #[.agg #[.slice none 0 0, .slice none 0 0], .bool false]) (by simp [results, Try.results127, go_sem, r0, r1]) rfl ⟨_, by rw [HE.out], ?_, (X1.setCell (by simp; omega) _).setCell (by simp; omega) _⟩
    rw [HE.out]
    exact OH.zero
  have HV := Lib.hid hva
  obtain ⟨v1, v2, v3⟩ := valid_small hva
  have HV3 := Lib.hid v3
  have v2' : h.roots.length ≤ 4 := by omega
  clear v3 v2
  cases hok : cmdOk ⟨op, oa, ob, oc⟩
  · have HO := Lib.hid hok
    have HE := Lib.hid (stepM_bad (h := h) (o := ⟨op, oa, ob, oc⟩) (by rw [hva, hok]; rfl))
    clear hva hok
    go_enter Try.func127, Try.ntmps127
    go_wp2_with fail
    ((with_reducible refine (specHeapValid_any _ h _ (hv0.below blw_)).mono ?_); rw [HV.out]; rintro e w1 ⟨rfl, hB1⟩; have Y1 : Below ((((w.alloc (.cells #[.slice A h.cells.length c, .slice A' h.roots.length c'] 26)).alloc (.cells #[.int .i64 op, .int .i64 oa, .int .i64 ob, .int .i64 oc] 30)).alloc (.cells #[.slice none 0 0, .slice none 0 0] 26))).heap.size (((w.alloc (.cells #[.slice A h.cells.length c, .slice A' h.roots.length c'] 26)).alloc (.cells #[.int .i64 op, .int .i64 oa, .int .i64 ob, .int .i64 oc] 30)).alloc (.cells #[.slice none 0 0, .slice none 0 0] 26)) w1 := blw_; have X1 : Below w.heap.size w w1 := HW.out.trans (Y1.mono HW.out.size); have sX1 := X1.size; have sY1 := Y1.size; clear hB1; have a0 := cell_below h0 Y1; have a1 := cell_below h1 Y1; have b0 := cell_below g0 Y1; have b1 := cell_below g1 Y1; have b2 := cell_below g2 Y1; have b3 := cell_below g3 Y1; have r0 := cell_below n0 Y1; have r1 := cell_below n1 Y1; have rf0 := ((bcell Y1).2.1 _ _ z3).trans (nf 0); have rf1 := ((bcell Y1).2.1 _ _ z3).trans (nf 1))
    go_wp2_with fail
    ((with_reducible refine (specCommandValid_any ⟨op, oa, ob, oc⟩ _).mono ?_); rw [HO.out]; rintro e w2 ⟨rfl, hB2⟩; have Y2 : Below ((((w.alloc (.cells #[.slice A h.cells.length c, .slice A' h.roots.length c'] 26)).alloc (.cells #[.int .i64 op, .int .i64 oa, .int .i64 ob, .int .i64 oc] 30)).alloc (.cells #[.slice none 0 0, .slice none 0 0] 26))).heap.size (((w.alloc (.cells #[.slice A h.cells.length c, .slice A' h.roots.length c'] 26)).alloc (.cells #[.int .i64 op, .int .i64 oa, .int .i64 ob, .int .i64 oc] 30)).alloc (.cells #[.slice none 0 0, .slice none 0 0] 26)) w2 := blw_; have X2 : Below w.heap.size w w2 := HW.out.trans (Y2.mono HW.out.size); have sX2 := X2.size; have sY2 := Y2.size; clear X1 Y1 a0 a1 b0 b1 b2 b3 r0 r1 rf0 rf1 hB2; have a0 := cell_below h0 Y2; have a1 := cell_below h1 Y2; have b0 := cell_below g0 Y2; have b1 := cell_below g1 Y2; have b2 := cell_below g2 Y2; have b3 := cell_below g3 Y2; have r0 := cell_below n0 Y2; have r1 := cell_below n1 Y2; have rf0 := ((bcell Y2).2.1 _ _ z3).trans (nf 0); have rf1 := ((bcell Y2).2.1 _ _ z3).trans (nf 1))
    go_wp2_with fail
    refine bodyPost_ret (v := .tuple #[.agg #[.slice none 0 0, .slice none 0 0], .bool false]) (by simp [results, Try.results127, go_sem, r0, r1]) rfl ⟨_, by rw [HE.out], ?_, (X2.setCell (by simp; omega) _).setCell (by simp; omega) _⟩
    rw [HE.out]
    exact OH.zero
  have HO := Lib.hid hok
  cases hps : possO h ⟨op, oa, ob, oc⟩
  · have HP := Lib.hid (possO_hid hps hva hok)
    have HE := Lib.hid (stepM_no (o := ⟨op, oa, ob, oc⟩) hva hok (.inl hps))
    clear hva hok hps
    go_enter Try.func127, Try.ntmps127
    go_wp2_with fail
    ((with_reducible refine (specHeapValid_any _ h _ (hv0.below blw_)).mono ?_); rw [HV.out]; rintro e w1 ⟨rfl, hB1⟩; have Y1 : Below ((((w.alloc (.cells #[.slice A h.cells.length c, .slice A' h.roots.length c'] 26)).alloc (.cells #[.int .i64 op, .int .i64 oa, .int .i64 ob, .int .i64 oc] 30)).alloc (.cells #[.slice none 0 0, .slice none 0 0] 26))).heap.size (((w.alloc (.cells #[.slice A h.cells.length c, .slice A' h.roots.length c'] 26)).alloc (.cells #[.int .i64 op, .int .i64 oa, .int .i64 ob, .int .i64 oc] 30)).alloc (.cells #[.slice none 0 0, .slice none 0 0] 26)) w1 := blw_; have X1 : Below w.heap.size w w1 := HW.out.trans (Y1.mono HW.out.size); have sX1 := X1.size; have sY1 := Y1.size; clear hB1; have a0 := cell_below h0 Y1; have a1 := cell_below h1 Y1; have b0 := cell_below g0 Y1; have b1 := cell_below g1 Y1; have b2 := cell_below g2 Y1; have b3 := cell_below g3 Y1; have r0 := cell_below n0 Y1; have r1 := cell_below n1 Y1; have rf0 := ((bcell Y1).2.1 _ _ z3).trans (nf 0); have rf1 := ((bcell Y1).2.1 _ _ z3).trans (nf 1))
    go_wp2_with fail
    ((with_reducible refine (specCommandValid_any ⟨op, oa, ob, oc⟩ _).mono ?_); rw [HO.out]; rintro e w2 ⟨rfl, hB2⟩; have Y2 : Below ((((w.alloc (.cells #[.slice A h.cells.length c, .slice A' h.roots.length c'] 26)).alloc (.cells #[.int .i64 op, .int .i64 oa, .int .i64 ob, .int .i64 oc] 30)).alloc (.cells #[.slice none 0 0, .slice none 0 0] 26))).heap.size (((w.alloc (.cells #[.slice A h.cells.length c, .slice A' h.roots.length c'] 26)).alloc (.cells #[.int .i64 op, .int .i64 oa, .int .i64 ob, .int .i64 oc] 30)).alloc (.cells #[.slice none 0 0, .slice none 0 0] 26)) w2 := blw_; have X2 : Below w.heap.size w w2 := HW.out.trans (Y2.mono HW.out.size); have sX2 := X2.size; have sY2 := Y2.size; clear X1 Y1 a0 a1 b0 b1 b2 b3 r0 r1 rf0 rf1 hB2; have a0 := cell_below h0 Y2; have a1 := cell_below h1 Y2; have b0 := cell_below g0 Y2; have b1 := cell_below g1 Y2; have b2 := cell_below g2 Y2; have b3 := cell_below g3 Y2; have r0 := cell_below n0 Y2; have r1 := cell_below n1 Y2; have rf0 := ((bcell Y2).2.1 _ _ z3).trans (nf 0); have rf1 := ((bcell Y2).2.1 _ _ z3).trans (nf 1))
    go_wp2_with fail
    ((with_reducible refine (specCommandPossible_any _ h ⟨op, oa, ob, oc⟩ _ (hv0.below blw_)).mono ?_); rw [HP.out]; rintro e w3 ⟨rfl, hB3⟩; have Y3 : Below ((((w.alloc (.cells #[.slice A h.cells.length c, .slice A' h.roots.length c'] 26)).alloc (.cells #[.int .i64 op, .int .i64 oa, .int .i64 ob, .int .i64 oc] 30)).alloc (.cells #[.slice none 0 0, .slice none 0 0] 26))).heap.size (((w.alloc (.cells #[.slice A h.cells.length c, .slice A' h.roots.length c'] 26)).alloc (.cells #[.int .i64 op, .int .i64 oa, .int .i64 ob, .int .i64 oc] 30)).alloc (.cells #[.slice none 0 0, .slice none 0 0] 26)) w3 := blw_; have X3 : Below w.heap.size w w3 := HW.out.trans (Y3.mono HW.out.size); have sX3 := X3.size; have sY3 := Y3.size; have X3s : w.heap.size + 3 ≤ w3.heap.size := (by have := Y3.size; simpa using this); clear X2 Y2 a0 a1 b0 b1 b2 b3 r0 r1 rf0 rf1 hB3; have a0 := cell_below h0 Y3; have a1 := cell_below h1 Y3; have b0 := cell_below g0 Y3; have b1 := cell_below g1 Y3; have b2 := cell_below g2 Y3; have b3 := cell_below g3 Y3; have r0 := cell_below n0 Y3; have r1 := cell_below n1 Y3; have rf0 := ((bcell Y3).2.1 _ _ z3).trans (nf 0); have rf1 := ((bcell Y3).2.1 _ _ z3).trans (nf 1))
    go_wp2_with fail
    ((with_reducible refine (l7Copy_any _ h _ (hv0.below blw_) (by omega) (fun d hd => Nat.le_trans (HV3.out d hd) (by omega)) (by omega)).mono ?_); rintro e w4 ⟨v4, rfl, ⟨B, d, B', d', os, rfl, o4⟩, hB4⟩; (have z_hB4 := Below.size hB4); (try simp only [World.size_alloc, World.size_setCell, World.size_drew, World.heap_drewN] at z_hB4); have Y4 : Below ((((w.alloc (.cells #[.slice A h.cells.length c, .slice A' h.roots.length c'] 26)).alloc (.cells #[.int .i64 op, .int .i64 oa, .int .i64 ob, .int .i64 oc] 30)).alloc (.cells #[.slice none 0 0, .slice none 0 0] 26))).heap.size (((w.alloc (.cells #[.slice A h.cells.length c, .slice A' h.roots.length c'] 26)).alloc (.cells #[.int .i64 op, .int .i64 oa, .int .i64 ob, .int .i64 oc] 30)).alloc (.cells #[.slice none 0 0, .slice none 0 0] 26)) w4 := blw_; have X4 : Below w.heap.size w w4 := HW.out.trans (Y4.mono HW.out.size); have sX4 := X4.size; have sY4 := Y4.size; clear X3 Y3 a0 a1 b0 b1 b2 b3 r0 r1 rf0 rf1 hB4; have r0 := cell_below n0 Y4; have r1 := cell_below n1 Y4; have rf0 := ((bcell Y4).2.1 _ _ z3).trans (nf 0); have rf1 := ((bcell Y4).2.1 _ _ z3).trans (nf 1))
    go_wp2_with fail
    refine bodyPost_ret (v := .tuple #[.agg #[.slice B h.cells.length d, .slice B' h.roots.length d'], .bool false]) (by simp [results, Try.results127, go_sem, r0, r1]) rfl ⟨_, by rw [HE.out], ?_, (X4.setCell (by simp; omega) _).setCell (by simp; omega) _⟩
    rw [HE.out]
    exact (OH.setlt (OH.setlt (lo := w.heap.size + 3) ⟨B, d, B', d', os, rfl, o4.1, o4.2.1, fun b hb => by have h7 := o4.2.2 b hb; have h8 := X3s; (try simp only [World.size_alloc, World.size_setCell, World.size_drew, World.heap_drewN] at h7); omega⟩ (a := ⟨w.heap.size + 2, 0, none⟩) (by simp) (.slice B h.cells.length d)) (a := ⟨w.heap.size + 2, 1, none⟩) (by simp) (.slice B' h.roots.length d')).lo_ (by omega)
  have HP := Lib.hid (possO_hid hps hva hok)
  have HPO := Lib.hid hps
  by_cases hful : op = 1 ∧ h.cells.length = 40
  · have HE := Lib.hid (stepM_no (o := ⟨op, oa, ob, oc⟩) hva hok (.inr hful))
    obtain ⟨rfl, hful⟩ := hful
    have hful' : (h.cells.length : Int) = 40 := by omega
    clear hva hok hps hful
    go_enter Try.func127, Try.ntmps127
    go_wp2_with fail
    ((with_reducible refine (specHeapValid_any _ h _ (hv0.below blw_)).mono ?_); rw [HV.out]; rintro e w1 ⟨rfl, hB1⟩; have Y1 : Below ((((w.alloc (.cells #[.slice A h.cells.length c, .slice A' h.roots.length c'] 26)).alloc (.cells #[.int .i64 1, .int .i64 oa, .int .i64 ob, .int .i64 oc] 30)).alloc (.cells #[.slice none 0 0, .slice none 0 0] 26))).heap.size (((w.alloc (.cells #[.slice A h.cells.length c, .slice A' h.roots.length c'] 26)).alloc (.cells #[.int .i64 1, .int .i64 oa, .int .i64 ob, .int .i64 oc] 30)).alloc (.cells #[.slice none 0 0, .slice none 0 0] 26)) w1 := blw_; have X1 : Below w.heap.size w w1 := HW.out.trans (Y1.mono HW.out.size); have sX1 := X1.size; have sY1 := Y1.size; clear hB1; have a0 := cell_below h0 Y1; have a1 := cell_below h1 Y1; have b0 := cell_below g0 Y1; have b1 := cell_below g1 Y1; have b2 := cell_below g2 Y1; have b3 := cell_below g3 Y1; have r0 := cell_below n0 Y1; have r1 := cell_below n1 Y1; have rf0 := ((bcell Y1).2.1 _ _ z3).trans (nf 0); have rf1 := ((bcell Y1).2.1 _ _ z3).trans (nf 1))
    go_wp2_with fail
    ((with_reducible refine (specCommandValid_any ⟨1, oa, ob, oc⟩ _).mono ?_); rw [HO.out]; rintro e w2 ⟨rfl, hB2⟩; have Y2 : Below ((((w.alloc (.cells #[.slice A h.cells.length c, .slice A' h.roots.length c'] 26)).alloc (.cells #[.int .i64 1, .int .i64 oa, .int .i64 ob, .int .i64 oc] 30)).alloc (.cells #[.slice none 0 0, .slice none 0 0] 26))).heap.size (((w.alloc (.cells #[.slice A h.cells.length c, .slice A' h.roots.length c'] 26)).alloc (.cells #[.int .i64 1, .int .i64 oa, .int .i64 ob, .int .i64 oc] 30)).alloc (.cells #[.slice none 0 0, .slice none 0 0] 26)) w2 := blw_; have X2 : Below w.heap.size w w2 := HW.out.trans (Y2.mono HW.out.size); have sX2 := X2.size; have sY2 := Y2.size; clear X1 Y1 a0 a1 b0 b1 b2 b3 r0 r1 rf0 rf1 hB2; have a0 := cell_below h0 Y2; have a1 := cell_below h1 Y2; have b0 := cell_below g0 Y2; have b1 := cell_below g1 Y2; have b2 := cell_below g2 Y2; have b3 := cell_below g3 Y2; have r0 := cell_below n0 Y2; have r1 := cell_below n1 Y2; have rf0 := ((bcell Y2).2.1 _ _ z3).trans (nf 0); have rf1 := ((bcell Y2).2.1 _ _ z3).trans (nf 1))
    go_wp2_with fail
    ((with_reducible refine (specCommandPossible_any _ h ⟨1, oa, ob, oc⟩ _ (hv0.below blw_)).mono ?_); rw [HP.out]; rintro e w3 ⟨rfl, hB3⟩; have Y3 : Below ((((w.alloc (.cells #[.slice A h.cells.length c, .slice A' h.roots.length c'] 26)).alloc (.cells #[.int .i64 1, .int .i64 oa, .int .i64 ob, .int .i64 oc] 30)).alloc (.cells #[.slice none 0 0, .slice none 0 0] 26))).heap.size (((w.alloc (.cells #[.slice A h.cells.length c, .slice A' h.roots.length c'] 26)).alloc (.cells #[.int .i64 1, .int .i64 oa, .int .i64 ob, .int .i64 oc] 30)).alloc (.cells #[.slice none 0 0, .slice none 0 0] 26)) w3 := blw_; have X3 : Below w.heap.size w w3 := HW.out.trans (Y3.mono HW.out.size); have sX3 := X3.size; have sY3 := Y3.size; have X3s : w.heap.size + 3 ≤ w3.heap.size := (by have := Y3.size; simpa using this); clear X2 Y2 a0 a1 b0 b1 b2 b3 r0 r1 rf0 rf1 hB3; have a0 := cell_below h0 Y3; have a1 := cell_below h1 Y3; have b0 := cell_below g0 Y3; have b1 := cell_below g1 Y3; have b2 := cell_below g2 Y3; have b3 := cell_below g3 Y3; have r0 := cell_below n0 Y3; have r1 := cell_below n1 Y3; have rf0 := ((bcell Y3).2.1 _ _ z3).trans (nf 0); have rf1 := ((bcell Y3).2.1 _ _ z3).trans (nf 1))
    go_wp2_with fail
    ((with_reducible refine (l7Copy_any _ h _ (hv0.below blw_) (by omega) (fun d hd => Nat.le_trans (HV3.out d hd) (by omega)) (by omega)).mono ?_); rintro e w4 ⟨v4, rfl, ⟨B, d, B', d', os, rfl, o4⟩, hB4⟩; (have z_hB4 := Below.size hB4); (try simp only [World.size_alloc, World.size_setCell, World.size_drew, World.heap_drewN] at z_hB4); have Y4 : Below ((((w.alloc (.cells #[.slice A h.cells.length c, .slice A' h.roots.length c'] 26)).alloc (.cells #[.int .i64 1, .int .i64 oa, .int .i64 ob, .int .i64 oc] 30)).alloc (.cells #[.slice none 0 0, .slice none 0 0] 26))).heap.size (((w.alloc (.cells #[.slice A h.cells.length c, .slice A' h.roots.length c'] 26)).alloc (.cells #[.int .i64 1, .int .i64 oa, .int .i64 ob, .int .i64 oc] 30)).alloc (.cells #[.slice none 0 0, .slice none 0 0] 26)) w4 := blw_; have X4 : Below w.heap.size w w4 := HW.out.trans (Y4.mono HW.out.size); have sX4 := X4.size; have sY4 := Y4.size; clear X3 Y3 a0 a1 b0 b1 b2 b3 r0 r1 rf0 rf1 hB4; have r0 := cell_below n0 Y4; have r1 := cell_below n1 Y4; have rf0 := ((bcell Y4).2.1 _ _ z3).trans (nf 0); have rf1 := ((bcell Y4).2.1 _ _ z3).trans (nf 1))
    go_wp2_with fail
    refine bodyPost_ret (v := .tuple #[.agg #[.slice B h.cells.length d, .slice B' h.roots.length d'], .bool false]) (by simp [results, Try.results127, go_sem, r0, r1]) rfl ⟨_, by rw [HE.out], ?_, (X4.setCell (by simp; omega) _).setCell (by simp; omega) _⟩
    rw [HE.out]
    exact (OH.setlt (OH.setlt (lo := w.heap.size + 3) ⟨B, d, B', d', os, rfl, o4.1, o4.2.1, fun b hb => by have h7 := o4.2.2 b hb; have h8 := X3s; (try simp only [World.size_alloc, World.size_setCell, World.size_drew, World.heap_drewN] at h7); omega⟩ (a := ⟨w.heap.size + 2, 0, none⟩) (by simp) (.slice B h.cells.length d)) (a := ⟨w.heap.size + 2, 1, none⟩) (by simp) (.slice B' h.roots.length d')).lo_ (by omega)
  · have HE := Lib.hid (stepM_yes (o := ⟨op, oa, ob, oc⟩) hva hok hps hful)
    have HFU := Lib.hid hful
    have hopn : op = 1 ∨ op ≠ 1 := by omega
    clear hva hok hps hful
    rcases hopn with rfl | hop
    · have hcn : h.cells.length ≠ 40 := fun e => HFU.out ⟨rfl, e⟩
      have hcn' : ¬ (h.cells.length : Int) = 40 := by omega
      clear hcn
      go_enter Try.func127, Try.ntmps127
      go_wp2_with fail
      ((with_reducible refine (specHeapValid_any _ h _ (hv0.below blw_)).mono ?_); rw [HV.out]; rintro e w1 ⟨rfl, hB1⟩; have Y1 : Below ((((w.alloc (.cells #[.slice A h.cells.length c, .slice A' h.roots.length c'] 26)).alloc (.cells #[.int .i64 1, .int .i64 oa, .int .i64 ob, .int .i64 oc] 30)).alloc (.cells #[.slice none 0 0, .slice none 0 0] 26))).heap.size (((w.alloc (.cells #[.slice A h.cells.length c, .slice A' h.roots.length c'] 26)).alloc (.cells #[.int .i64 1, .int .i64 oa, .int .i64 ob, .int .i64 oc] 30)).alloc (.cells #[.slice none 0 0, .slice none 0 0] 26)) w1 := blw_; have X1 : Below w.heap.size w w1 := HW.out.trans (Y1.mono HW.out.size); have sX1 := X1.size; have sY1 := Y1.size; clear hB1; have a0 := cell_below h0 Y1; have a1 := cell_below h1 Y1; have b0 := cell_below g0 Y1; have b1 := cell_below g1 Y1; have b2 := cell_below g2 Y1; have b3 := cell_below g3 Y1; have r0 := cell_below n0 Y1; have r1 := cell_below n1 Y1; have rf0 := ((bcell Y1).2.1 _ _ z3).trans (nf 0); have rf1 := ((bcell Y1).2.1 _ _ z3).trans (nf 1))
      go_wp2_with fail
      ((with_reducible refine (specCommandValid_any ⟨1, oa, ob, oc⟩ _).mono ?_); rw [HO.out]; rintro e w2 ⟨rfl, hB2⟩; have Y2 : Below ((((w.alloc (.cells #[.slice A h.cells.length c, .slice A' h.roots.length c'] 26)).alloc (.cells #[.int .i64 1, .int .i64 oa, .int .i64 ob, .int .i64 oc] 30)).alloc (.cells #[.slice none 0 0, .slice none 0 0] 26))).heap.size (((w.alloc (.cells #[.slice A h.cells.length c, .slice A' h.roots.length c'] 26)).alloc (.cells #[.int .i64 1, .int .i64 oa, .int .i64 ob, .int .i64 oc] 30)).alloc (.cells #[.slice none 0 0, .slice none 0 0] 26)) w2 := blw_; have X2 : Below w.heap.size w w2 := HW.out.trans (Y2.mono HW.out.size); have sX2 := X2.size; have sY2 := Y2.size; clear X1 Y1 a0 a1 b0 b1 b2 b3 r0 r1 rf0 rf1 hB2; have a0 := cell_below h0 Y2; have a1 := cell_below h1 Y2; have b0 := cell_below g0 Y2; have b1 := cell_below g1 Y2; have b2 := cell_below g2 Y2; have b3 := cell_below g3 Y2; have r0 := cell_below n0 Y2; have r1 := cell_below n1 Y2; have rf0 := ((bcell Y2).2.1 _ _ z3).trans (nf 0); have rf1 := ((bcell Y2).2.1 _ _ z3).trans (nf 1))
      go_wp2_with fail
      ((with_reducible refine (specCommandPossible_any _ h ⟨1, oa, ob, oc⟩ _ (hv0.below blw_)).mono ?_); rw [HP.out]; rintro e w3 ⟨rfl, hB3⟩; have Y3 : Below ((((w.alloc (.cells #[.slice A h.cells.length c, .slice A' h.roots.length c'] 26)).alloc (.cells #[.int .i64 1, .int .i64 oa, .int .i64 ob, .int .i64 oc] 30)).alloc (.cells #[.slice none 0 0, .slice none 0 0] 26))).heap.size (((w.alloc (.cells #[.slice A h.cells.length c, .slice A' h.roots.length c'] 26)).alloc (.cells #[.int .i64 1, .int .i64 oa, .int .i64 ob, .int .i64 oc] 30)).alloc (.cells #[.slice none 0 0, .slice none 0 0] 26)) w3 := blw_; have X3 : Below w.heap.size w w3 := HW.out.trans (Y3.mono HW.out.size); have sX3 := X3.size; have sY3 := Y3.size; have X3s : w.heap.size + 3 ≤ w3.heap.size := (by have := Y3.size; simpa using this); clear X2 Y2 a0 a1 b0 b1 b2 b3 r0 r1 rf0 rf1 hB3; have a0 := cell_below h0 Y3; have a1 := cell_below h1 Y3; have b0 := cell_below g0 Y3; have b1 := cell_below g1 Y3; have b2 := cell_below g2 Y3; have b3 := cell_below g3 Y3; have r0 := cell_below n0 Y3; have r1 := cell_below n1 Y3; have rf0 := ((bcell Y3).2.1 _ _ z3).trans (nf 0); have rf1 := ((bcell Y3).2.1 _ _ z3).trans (nf 1))
      go_wp2_with fail
      ((with_reducible refine (do_any _ h ⟨1, oa, ob, oc⟩ h.cells.length _ (hv0.below blw_) HV.out HO.out HPO.out (Nat.le_refl _)).mono ?_); rintro e w4 ⟨v4, rfl, ⟨B, d, B', d', os, rfl, o4⟩, hB4⟩; (have z_hB4 := Below.size hB4); (try simp only [World.size_alloc, World.size_setCell, World.size_drew, World.heap_drewN] at z_hB4); have Y4 : Below ((((w.alloc (.cells #[.slice A h.cells.length c, .slice A' h.roots.length c'] 26)).alloc (.cells #[.int .i64 1, .int .i64 oa, .int .i64 ob, .int .i64 oc] 30)).alloc (.cells #[.slice none 0 0, .slice none 0 0] 26))).heap.size (((w.alloc (.cells #[.slice A h.cells.length c, .slice A' h.roots.length c'] 26)).alloc (.cells #[.int .i64 1, .int .i64 oa, .int .i64 ob, .int .i64 oc] 30)).alloc (.cells #[.slice none 0 0, .slice none 0 0] 26)) w4 := blw_; have X4 : Below w.heap.size w w4 := HW.out.trans (Y4.mono HW.out.size); have sX4 := X4.size; have sY4 := Y4.size; clear X3 Y3 a0 a1 b0 b1 b2 b3 r0 r1 rf0 rf1 hB4; have r0 := cell_below n0 Y4; have r1 := cell_below n1 Y4; have rf0 := ((bcell Y4).2.1 _ _ z3).trans (nf 0); have rf1 := ((bcell Y4).2.1 _ _ z3).trans (nf 1))
      go_wp2_with fail
      refine bodyPost_ret (v := .tuple #[.agg #[.slice B (execM h ⟨1, oa, ob, oc⟩ h.cells.length).cells.length d, .slice B' (execM h ⟨1, oa, ob, oc⟩ h.cells.length).roots.length d'], .bool true]) (by simp [results, Try.results127, go_sem, r0, r1]) rfl ⟨_, by rw [HE.out], ?_, (X4.setCell (by simp; omega) _).setCell (by simp; omega) _⟩
      rw [HE.out]
      exact (OH.setlt (OH.setlt (lo := w.heap.size + 3) ⟨B, d, B', d', os, rfl, o4.1, o4.2.1, fun b hb => by have h7 := o4.2.2 b hb; have h8 := X3s; (try simp only [World.size_alloc, World.size_setCell, World.size_drew, World.heap_drewN] at h7); omega⟩ (a := ⟨w.heap.size + 2, 0, none⟩) (by simp) (.slice B (execM h ⟨1, oa, ob, oc⟩ h.cells.length).cells.length d)) (a := ⟨w.heap.size + 2, 1, none⟩) (by simp) (.slice B' (execM h ⟨1, oa, ob, oc⟩ h.cells.length).roots.length d')).lo_ (by omega)
    · go_enter Try.func127, Try.ntmps127
      go_wp2_with fail
      ((with_reducible refine (specHeapValid_any _ h _ (hv0.below blw_)).mono ?_); rw [HV.out]; rintro e w1 ⟨rfl, hB1⟩; have Y1 : Below ((((w.alloc (.cells #[.slice A h.cells.length c, .slice A' h.roots.length c'] 26)).alloc (.cells #[.int .i64 op, .int .i64 oa, .int .i64 ob, .int .i64 oc] 30)).alloc (.cells #[.slice none 0 0, .slice none 0 0] 26))).heap.size (((w.alloc (.cells #[.slice A h.cells.length c, .slice A' h.roots.length c'] 26)).alloc (.cells #[.int .i64 op, .int .i64 oa, .int .i64 ob, .int .i64 oc] 30)).alloc (.cells #[.slice none 0 0, .slice none 0 0] 26)) w1 := blw_; have X1 : Below w.heap.size w w1 := HW.out.trans (Y1.mono HW.out.size); have sX1 := X1.size; have sY1 := Y1.size; clear hB1; have a0 := cell_below h0 Y1; have a1 := cell_below h1 Y1; have b0 := cell_below g0 Y1; have b1 := cell_below g1 Y1; have b2 := cell_below g2 Y1; have b3 := cell_below g3 Y1; have r0 := cell_below n0 Y1; have r1 := cell_below n1 Y1; have rf0 := ((bcell Y1).2.1 _ _ z3).trans (nf 0); have rf1 := ((bcell Y1).2.1 _ _ z3).trans (nf 1))
      go_wp2_with fail
      ((with_reducible refine (specCommandValid_any ⟨op, oa, ob, oc⟩ _).mono ?_); rw [HO.out]; rintro e w2 ⟨rfl, hB2⟩; have Y2 : Below ((((w.alloc (.cells #[.slice A h.cells.length c, .slice A' h.roots.length c'] 26)).alloc (.cells #[.int .i64 op, .int .i64 oa, .int .i64 ob, .int .i64 oc] 30)).alloc (.cells #[.slice none 0 0, .slice none 0 0] 26))).heap.size (((w.alloc (.cells #[.slice A h.cells.length c, .slice A' h.roots.length c'] 26)).alloc (.cells #[.int .i64 op, .int .i64 oa, .int .i64 ob, .int .i64 oc] 30)).alloc (.cells #[.slice none 0 0, .slice none 0 0] 26)) w2 := blw_; have X2 : Below w.heap.size w w2 := HW.out.trans (Y2.mono HW.out.size); have sX2 := X2.size; have sY2 := Y2.size; clear X1 Y1 a0 a1 b0 b1 b2 b3 r0 r1 rf0 rf1 hB2; have a0 := cell_below h0 Y2; have a1 := cell_below h1 Y2; have b0 := cell_below g0 Y2; have b1 := cell_below g1 Y2; have b2 := cell_below g2 Y2; have b3 := cell_below g3 Y2; have r0 := cell_below n0 Y2; have r1 := cell_below n1 Y2; have rf0 := ((bcell Y2).2.1 _ _ z3).trans (nf 0); have rf1 := ((bcell Y2).2.1 _ _ z3).trans (nf 1))
      go_wp2_with fail
      ((with_reducible refine (specCommandPossible_any _ h ⟨op, oa, ob, oc⟩ _ (hv0.below blw_)).mono ?_); rw [HP.out]; rintro e w3 ⟨rfl, hB3⟩; have Y3 : Below ((((w.alloc (.cells #[.slice A h.cells.length c, .slice A' h.roots.length c'] 26)).alloc (.cells #[.int .i64 op, .int .i64 oa, .int .i64 ob, .int .i64 oc] 30)).alloc (.cells #[.slice none 0 0, .slice none 0 0] 26))).heap.size (((w.alloc (.cells #[.slice A h.cells.length c, .slice A' h.roots.length c'] 26)).alloc (.cells #[.int .i64 op, .int .i64 oa, .int .i64 ob, .int .i64 oc] 30)).alloc (.cells #[.slice none 0 0, .slice none 0 0] 26)) w3 := blw_; have X3 : Below w.heap.size w w3 := HW.out.trans (Y3.mono HW.out.size); have sX3 := X3.size; have sY3 := Y3.size; have X3s : w.heap.size + 3 ≤ w3.heap.size := (by have := Y3.size; simpa using this); clear X2 Y2 a0 a1 b0 b1 b2 b3 r0 r1 rf0 rf1 hB3; have a0 := cell_below h0 Y3; have a1 := cell_below h1 Y3; have b0 := cell_below g0 Y3; have b1 := cell_below g1 Y3; have b2 := cell_below g2 Y3; have b3 := cell_below g3 Y3; have r0 := cell_below n0 Y3; have r1 := cell_below n1 Y3; have rf0 := ((bcell Y3).2.1 _ _ z3).trans (nf 0); have rf1 := ((bcell Y3).2.1 _ _ z3).trans (nf 1))
      go_wp2_with fail
      ((with_reducible refine (do_any _ h ⟨op, oa, ob, oc⟩ h.cells.length _ (hv0.below blw_) HV.out HO.out HPO.out (Nat.le_refl _)).mono ?_); rintro e w4 ⟨v4, rfl, ⟨B, d, B', d', os, rfl, o4⟩, hB4⟩; (have z_hB4 := Below.size hB4); (try simp only [World.size_alloc, World.size_setCell, World.size_drew, World.heap_drewN] at z_hB4); have Y4 : Below ((((w.alloc (.cells #[.slice A h.cells.length c, .slice A' h.roots.length c'] 26)).alloc (.cells #[.int .i64 op, .int .i64 oa, .int .i64 ob, .int .i64 oc] 30)).alloc (.cells #[.slice none 0 0, .slice none 0 0] 26))).heap.size (((w.alloc (.cells #[.slice A h.cells.length c, .slice A' h.roots.length c'] 26)).alloc (.cells #[.int .i64 op, .int .i64 oa, .int .i64 ob, .int .i64 oc] 30)).alloc (.cells #[.slice none 0 0, .slice none 0 0] 26)) w4 := blw_; have X4 : Below w.heap.size w w4 := HW.out.trans (Y4.mono HW.out.size); have sX4 := X4.size; have sY4 := Y4.size; clear X3 Y3 a0 a1 b0 b1 b2 b3 r0 r1 rf0 rf1 hB4; have r0 := cell_below n0 Y4; have r1 := cell_below n1 Y4; have rf0 := ((bcell Y4).2.1 _ _ z3).trans (nf 0); have rf1 := ((bcell Y4).2.1 _ _ z3).trans (nf 1))
      go_wp2_with fail
      refine bodyPost_ret (v := .tuple #[.agg #[.slice B (execM h ⟨op, oa, ob, oc⟩ h.cells.length).cells.length d, .slice B' (execM h ⟨op, oa, ob, oc⟩ h.cells.length).roots.length d'], .bool true]) (by simp [results, Try.results127, go_sem, r0, r1]) rfl ⟨_, by rw [HE.out], ?_, (X4.setCell (by simp; omega) _).setCell (by simp; omega) _⟩
      rw [HE.out]
      exact (OH.setlt (OH.setlt (lo := w.heap.size + 3) ⟨B, d, B', d', os, rfl, o4.1, o4.2.1, fun b hb => by have h7 := o4.2.2 b hb; have h8 := X3s; (try simp only [World.size_alloc, World.size_setCell, World.size_drew, World.heap_drewN] at h7); omega⟩ (a := ⟨w.heap.size + 2, 0, none⟩) (by simp) (.slice B (execM h ⟨op, oa, ob, oc⟩ h.cells.length).cells.length d)) (a := ⟨w.heap.size + 2, 1, none⟩) (by simp) (.slice B' (execM h ⟨op, oa, ob, oc⟩ h.cells.length).roots.length d')).lo_ (by omega)
end Go.Proofs.Ytbnokkdhanlhpaa
