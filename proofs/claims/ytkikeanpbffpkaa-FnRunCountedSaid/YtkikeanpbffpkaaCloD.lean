/- reachable and Reachable of the program, Reachable of the reference; CollectSweep of both. -/
import Derived.Test.YtkikeanpbffpkaaChecked
import Derived.Deep.RegionHeld3
import Derived.Deep.DeepCutAuto
import Derived.Lib.QuietBelow
import Derived.Test.YtkikeanpbffpkaaGrClo
import Derived.Test.YtkikeanpbffpkaaGrSweep
import Derived.Test.YtkikeanpbffpkaaSnapV
import Derived.Test.YtkikeanpbffpkaaGrExec
import Derived.Test.YtkikeanpbffpkaaSmall
import Derived.Test.YtkikeanpbffpkaaStepH
namespace Go.Proofs.Ytkikeanpbffpkaa
open Go.RowKit
open Go.Sort
set_option maxRecDepth 100000
set_option linter.unusedSimpArgs false
set_option linter.unusedVariables false
theorem used_hasB {h : HeapM} {r : Int} (hr : leadsM h.cells r = true) : hasB (usedBits h.cells) r = nonneg r := by
  by_cases h0 : 0 ≤ r
  · obtain ⟨c, hc, hu⟩ := valid_used hr h0
    rw [hasB_at h0, usedBits_test]
    have : usedN h.cells r.toNat = c.used := by unfold usedN; rw [List.getD, List.getElem?_map, hc]; rfl
    rw [this, hu]; simp [nonneg, h0]
  · rw [hasB_neg (by omega)]; simp [nonneg, h0]
theorem used_lt {h : HeapM} {r : Int} (hr : hasB (usedBits h.cells) r = true) : r < h.cells.length := by
  unfold hasB at hr
  rw [usedBits_test] at hr
  simp only [Bool.and_eq_true, decide_eq_true_eq] at hr
  rcases Nat.lt_or_ge r.toNat h.cells.length with h1 | h1
  · omega
  · have := hr.2
    unfold usedN at this
    rw [getD_len (by simpa using h1)] at this; cases this
/-- The cells that can be reached. -/
noncomputable def rchN (h : HeapM) : Nat := cloN h (usedBits h.cells) h.roots
theorem used64 {h : HeapM} (hv : validM h = true) : usedBits h.cells < 18446744073709551616 := bitsOf_lt64 (by rw [List.length_map]; have := (valid_small hv).1; omega)
theorem rchN_test {h : HeapM} (hv : validM h = true) (k : Nat) : (rchN h).testBit k = true ↔ Rch (refsAt h) nonneg h.roots k := by
  unfold rchN
  rw [cloN_test (used64 hv)]
  exact ⟨fun h1 => h1.congr (fun r hr => used_hasB ((validM_leads hv).2 r hr)) (fun k r hr => used_hasB (refsAt_leads hv k r hr)), fun h1 => h1.congr (fun r hr => (used_hasB ((validM_leads hv).2 r hr)).symm) (fun k r hr => (used_hasB (refsAt_leads hv k r hr)).symm)⟩
theorem rchN_list {h : HeapM} (hv : validM h = true) : listB (rchN h) h.cells.length = reachM h := by
  unfold listB reachM rchL
  apply List.map_congr_left
  intro k _
  rw [Bool.eq_iff_iff, rchN_test hv k]; simp
theorem rchN_lt {h : HeapM} (hv : validM h = true) : rchN h < 18446744073709551616 := bitsOf_lt64 (by rw [rchL_len]; omega)
set_option maxHeartbeats 4000000 in
theorem reachable_any (v : Value) (h : HeapM) (w : World) (hv : RH w v h) (hva : validM h = true) :
    Calls Try.prog 53 #[v] w fun e w' => e = .returned (.int .u64 (rchN h : Nat)) ∧ Below w.heap.size w w' := by
  have hv0 := hv
  obtain ⟨A, c, A', c', rfl, hc, hr, hl1, hl2⟩ := hv
  have HB : ∀ d os_, Below w.heap.size w (grow (redrawn ((w.alloc (.cells #[.slice A h.cells.length c, .slice A' h.roots.length c'] 26))) d) os_) := fun d os_ => (show Below w.heap.size w ((w.alloc (.cells #[.slice A h.cells.length c, .slice A' h.roots.length c'] 26))) from blw_).trans ((below_regrown _ d os_).mono (by simp))
  have HWB : Hid (Below w.heap.size w ((w.alloc (.cells #[.slice A h.cells.length c, .slice A' h.roots.length c'] 26)))) := by unfold Hid; exact blw_
  have k0 := cell_regrown (show ((w.alloc (.cells #[.slice A h.cells.length c, .slice A' h.roots.length c'] 26))).cell? ⟨w.heap.size, 0, none⟩ = some (.slice A h.cells.length c) from by simp [go_sem])
  have k1 := cell_regrown (show ((w.alloc (.cells #[.slice A h.cells.length c, .slice A' h.roots.length c'] 26))).cell? ⟨w.heap.size, 1, none⟩ = some (.slice A' h.roots.length c') from by simp [go_sem])
  obtain ⟨v1, v2, v3⟩ := valid_small hva
  have hu := used64 hva
  obtain ⟨un, hun⟩ : ∃ un, un = usedBits h.cells := ⟨_, rfl⟩
  have cU : ∀ d os_, Calls Try.prog 52 #[.agg #[.slice A h.cells.length c, .slice A' h.roots.length c']] (grow (redrawn ((w.alloc (.cells #[.slice A h.cells.length c, .slice A' h.roots.length c'] 26))) d) os_) fun e w'' => e = .returned (.int .u64 (un : Int)) ∧ ∃ p : Regrown, w'' = grow (redrawn ((w.alloc (.cells #[.slice A h.cells.length c, .slice A' h.roots.length c'] 26))) p.d) p.os := fun d os_ => Calls.regrown_of (by have h9 := usedSet_any _ h _ (hv0.below (HB d os_)) (by omega); rw [← hun] at h9; exact h9)
  have cC : ∀ d os_, Calls Try.prog 78 #[.agg #[.slice A h.cells.length c, .slice A' h.roots.length c'], .slice A' h.roots.length c', .int .u64 (un : Int)] (grow (redrawn ((w.alloc (.cells #[.slice A h.cells.length c, .slice A' h.roots.length c'] 26))) d) os_) fun e w'' => e = .returned (.int .u64 ((rchN h : Nat) : Int)) ∧ ∃ p : Regrown, w'' = grow (redrawn ((w.alloc (.cells #[.slice A h.cells.length c, .slice A' h.roots.length c'] 26))) p.d) p.os := fun d os_ => Calls.regrown_of (by have h9 := closureN_any _ h A' h.roots c' un _ (hv0.below (HB d os_)) (hr.below (HB d os_)) (by rw [hun]; exact hu) (by rw [hun]; exact fun r hr => used_lt hr) hva (by omega) (fun r hr => by have := (validM_lt hva).2 r hr; omega); rw [hun] at h9; rw [hun]; exact h9)
  clear hv0 hc hr HB hva v1 v2 v3 hu hun
  go_enter Try.func53, Try.ntmps53
  go_wp2_with fail
  generalize (w.alloc (.cells #[.slice A h.cells.length c, .slice A' h.roots.length c'] 26)) = W at *
  refine wp_region_quiet_below (by kernel_rfl) (by kernel_rfl) ?_
  (with_reducible refine wpQuiet_step (fun K hK => ?_)); go_simp; (with_reducible refine hK _ ?_); clear hK K
  (with_reducible refine wpQuiet_step (fun K hK => ?_)); go_simp; (with_reducible refine hK _ ?_); clear hK K
  (with_reducible refine wpQuiet_step (fun K hK => ?_)); go_simp; (with_reducible refine hK _ ?_); clear hK K
  (with_reducible refine wpQuiet_step (fun K hK => ?_)); go_simp; (with_reducible refine hK _ ?_); clear hK K
  (with_reducible refine wpQuiet_step (fun K hK => ?_)); go_simp; apply Exists.intro; refine ⟨fun _ => ?_, hK _ ?_⟩; exact cU _ _; clear hK K
  (with_reducible refine wpQuiet_step (fun K hK => ?_)); go_simp; apply Exists.intro; refine ⟨fun _ => ?_, hK _ ?_⟩; exact cC _ _; clear hK K
  (with_reducible refine wpQuiet_step (fun K hK => ?_)); go_simp; (with_reducible refine hK _ ?_); clear hK K
  refine wpQuiet_nil ?_
  intro _ hw'
  obtain ⟨⟨dq, osq⟩, hw''⟩ := hw'
  subst hw''
  go_wp2
  go_ret
  exact ⟨rfl, HWB.out.trans ((below_regrown _ dq osq).mono HWB.out.size)⟩
set_option maxHeartbeats 4000000 in
theorem implReachable_any (v : Value) (h : HeapM) (w : World) (hv : RH w v h) :
    Calls Try.prog 59 #[v] w fun e w' => ∃ S c, e = .returned (.slice S (reachableM h).length c) ∧ OF 4 fb w' S c (reachableM h) ∧ (∀ b ∈ blk S, w.heap.size ≤ b) ∧ Below w.heap.size w w' := by
  have hv0 := hv
  obtain ⟨A, c, A', c', rfl, -, hr, -, -⟩ := hv
  have h0 : ((w.alloc (.cells #[.slice A h.cells.length c, .slice A' h.roots.length c'] 26))).cell? ⟨w.heap.size, 0, none⟩ = some (.slice A h.cells.length c) := by simp [go_sem]
  have h1 : ((w.alloc (.cells #[.slice A h.cells.length c, .slice A' h.roots.length c'] 26))).cell? ⟨w.heap.size, 1, none⟩ = some (.slice A' h.roots.length c') := by simp [go_sem]
  have HW : Hid (Below w.heap.size w ((w.alloc (.cells #[.slice A h.cells.length c, .slice A' h.roots.length c'] 26)))) := by unfold Hid; exact blw_
  cases hva : validM h
  · have HV := Lib.hid hva
    have HE : Hid (reachableM h = []) := by unfold Hid reachableM; rw [hva]; rfl
    clear hva
    go_enter Try.func59, Try.ntmps59
    go_wp2_with fail
    (with_reducible refine (implHeapValid_any _ h _ (hv0.below blw_)).mono ?_); rw [HV.out]; rintro e w1 ⟨rfl, hB1⟩
    have Y1 : Below ((w.alloc (.cells #[.slice A h.cells.length c, .slice A' h.roots.length c'] 26))).heap.size ((w.alloc (.cells #[.slice A h.cells.length c, .slice A' h.roots.length c'] 26))) w1 := blw_
    have X1 : Below w.heap.size w w1 := HW.out.trans (Y1.mono HW.out.size)
    clear hB1
    go_wp2
    go_ret
    refine ⟨none, 0, by rw [HE.out]; rfl, ?_, fun b hb => by simp [blk] at hb, X1⟩
    rw [HE.out]
    exact OF.nil
  · have HV := Lib.hid hva
    have HE : Hid (listB (rchN h) h.cells.length = reachableM h) := by unfold Hid reachableM; rw [hva, if_pos rfl]; exact rchN_list hva
    have HL : Hid ((reachableM h).length = h.cells.length) := by unfold Hid; rw [← HE.out, listB_len]
    obtain ⟨v1, -, -⟩ := valid_small hva
    have hr64 := rchN_lt hva
    obtain ⟨rn, hrn⟩ : ∃ rn, rn = rchN h := ⟨_, rfl⟩
    rw [← hrn] at hr64
    have HRN := Lib.hid hrn
    clear hva hrn
    go_enter Try.func59, Try.ntmps59
    go_wp2_with fail
    (with_reducible refine (implHeapValid_any _ h _ (hv0.below blw_)).mono ?_); rw [HV.out]; rintro e w1 ⟨rfl, hB1⟩
    have Y1 : Below ((w.alloc (.cells #[.slice A h.cells.length c, .slice A' h.roots.length c'] 26))).heap.size ((w.alloc (.cells #[.slice A h.cells.length c, .slice A' h.roots.length c'] 26))) w1 := blw_
    have X1 : Below w.heap.size w w1 := HW.out.trans (Y1.mono HW.out.size)
    have hX := X1.size
    have a0 := cell_below h0 Y1
    have a1 := cell_below h1 Y1
    clear hB1
    have hS : ∀ W, Below w1.heap.size w1 W → W.cell? ⟨w.heap.size, 0, none⟩ = some (.slice A h.cells.length c) ∧ W.cell? ⟨w.heap.size, 1, none⟩ = some (.slice A' h.roots.length c') := fun W hW => ⟨cell_below a0 hW, cell_below a1 hW⟩
    go_wp2_with fail
    go_region_held3 (fun w' => w'.cell? ⟨w.heap.size, 0, none⟩ = some (.slice A h.cells.length c) ∧ w'.cell? ⟨w.heap.size, 1, none⟩ = some (.slice A' h.roots.length c'))
      (first | with_reducible exact hS _ blw_)
      (first
        | (go_at_call 53; (with_reducible refine (reachable_any _ h _ (hv0.below blw_) HV.out).mono ?_); rw [← HRN.out]; rintro e w2 ⟨rfl, hB2⟩; (have z_hB2 := Below.size hB2); (try simp only [World.size_alloc, World.size_setCell, World.size_drew, World.heap_drewN] at z_hB2))
        | (go_at_call 58; (with_reducible refine (list_any rn h.cells.length _ hr64 (by omega)).mono ?_); rintro e w3 ⟨rfl, hO3, hB3⟩; (have z_hB3 := Below.size hB3); (try simp only [World.size_alloc, World.size_setCell, World.size_drew, World.heap_drewN] at z_hB3); have X3 : Below w1.heap.size w1 w3 := blw_))
    all_goals
      go_wp2
      go_ret
      refine ⟨_, _, by rw [HL.out]; rfl, by rw [← HE.out, ← HRN.out]; exact hO3, fun b hb => ?_, X1.trans (X3.mono X1.size)⟩
      have := mem_blk_some hb
      omega
set_option maxHeartbeats 4000000 in
theorem specCollectSweep_any (v : Value) (h : HeapM) (w : World) (hv : RH w v h) :
    Calls Try.prog 81 #[v] w fun e w' => ∃ v', e = .returned (.tuple #[v', .int .i64 (collectSweepM h).2]) ∧ OH w.heap.size w' v' (collectSweepM h).1 ∧ Below w.heap.size w w' := by
  have hv0 := hv
  obtain ⟨A, c, A', c', rfl, -, hr, -, -⟩ := hv
  have HM : Hid (collectSweepM h = sweepM h (reachableM h)) := rfl
  have hrl : (reachableM h).length ≤ 9223372036854775807 := by
    unfold reachableM
    split
    · next hva => rw [reachM_len]; have := (valid_small hva).1; omega
    · simp
  have n0 : (((w.alloc (.cells #[.slice A h.cells.length c, .slice A' h.roots.length c'] 26)).alloc (.cells #[.slice none 0 0, .slice none 0 0] 26))).cell? ⟨w.heap.size + 1, 0, none⟩ = some (.slice none 0 0) := by simp [go_sem]
  have n1 : (((w.alloc (.cells #[.slice A h.cells.length c, .slice A' h.roots.length c'] 26)).alloc (.cells #[.slice none 0 0, .slice none 0 0] 26))).cell? ⟨w.heap.size + 1, 1, none⟩ = some (.slice none 0 0) := by simp [go_sem]
  have nf : ∀ o, (((w.alloc (.cells #[.slice A h.cells.length c, .slice A' h.roots.length c'] 26)).alloc (.cells #[.slice none 0 0, .slice none 0 0] 26))).frozen? ⟨w.heap.size + 1, o, none⟩ = false := fun o => by simp [go_sem]
  have z3 : w.heap.size + 1 < (((w.alloc (.cells #[.slice A h.cells.length c, .slice A' h.roots.length c'] 26)).alloc (.cells #[.slice none 0 0, .slice none 0 0] 26))).heap.size := by simp
  have HW : Hid (Below w.heap.size w (((w.alloc (.cells #[.slice A h.cells.length c, .slice A' h.roots.length c'] 26)).alloc (.cells #[.slice none 0 0, .slice none 0 0] 26)))) := by unfold Hid; exact blw_
  go_enter Try.func81, Try.ntmps81
  go_wp2_with fail
  have hz0 : (((w.alloc (.cells #[.slice A h.cells.length c, .slice A' h.roots.length c'] 26)).alloc (.cells #[.slice none 0 0, .slice none 0 0] 26))).heap.size = w.heap.size + 2 := by simp
  have h0 : (((w.alloc (.cells #[.slice A h.cells.length c, .slice A' h.roots.length c'] 26)).alloc (.cells #[.slice none 0 0, .slice none 0 0] 26))).cell? ⟨w.heap.size, 0, none⟩ = some (.slice A h.cells.length c) := by simp [go_sem]
  have h1 : (((w.alloc (.cells #[.slice A h.cells.length c, .slice A' h.roots.length c'] 26)).alloc (.cells #[.slice none 0 0, .slice none 0 0] 26))).cell? ⟨w.heap.size, 1, none⟩ = some (.slice A' h.roots.length c') := by simp [go_sem]
  have hW0 := HW.out
  generalize (((w.alloc (.cells #[.slice A h.cells.length c, .slice A' h.roots.length c'] 26)).alloc (.cells #[.slice none 0 0, .slice none 0 0] 26))) = W0 at *
  have hS : ∀ W, Below (w.heap.size + 1) W0 W → W.cell? ⟨w.heap.size, 0, none⟩ = some (.slice A h.cells.length c) ∧ W.cell? ⟨w.heap.size, 1, none⟩ = some (.slice A' h.roots.length c') := fun W hW => ⟨(hW.cell (p := ⟨w.heap.size, 0, none⟩) (Nat.lt_succ_self _)).trans h0, (hW.cell (p := ⟨w.heap.size, 1, none⟩) (Nat.lt_succ_self _)).trans h1⟩
  go_region_held3 (fun w' => w'.cell? ⟨w.heap.size, 0, none⟩ = some (.slice A h.cells.length c) ∧ w'.cell? ⟨w.heap.size, 1, none⟩ = some (.slice A' h.roots.length c'))
    (first | with_reducible exact hS _ blw_)
    (first
      | (go_at_call 98; (with_reducible refine (specReachable_any _ h _ (hv0.below blw_)).mono ?_); rintro e w1 ⟨S1, c1, rfl, hO1, hlo1, hB1⟩; (have z_hB1 := Below.size hB1); (try simp only [World.size_alloc, World.size_setCell, World.size_drew, World.heap_drewN] at z_hB1))
      | (go_at_call 97; (with_reducible refine (specSweepCells_any _ h S1 (reachableM h) c1 _ (hv0.below blw_) (hO1.below blw_).rf hrl).mono ?_); rintro e w2 ⟨v2, rfl, ⟨B, d, B', d', os, rfl, o4⟩, hB2⟩; (have z_hB2 := Below.size hB2); (try simp only [World.size_alloc, World.size_setCell, World.size_drew, World.heap_drewN] at z_hB2); have Y2 : Below W0.heap.size W0 w2 := blw_; clear hB2; have r0 := cell_below n0 Y2; have r1 := cell_below n1 Y2; have rf0 := ((bcell Y2).2.1 _ _ z3).trans (nf 0); have rf1 := ((bcell Y2).2.1 _ _ z3).trans (nf 1)))
  all_goals
    go_wp2_with fail
    have X2 : Below w.heap.size w w2 := HW.out.trans (Y2.mono HW.out.size)
    refine bodyPost_ret (v := .tuple #[.agg #[.slice B (sweepM h (reachableM h)).1.cells.length d, .slice B' (sweepM h (reachableM h)).1.roots.length d'], .int .i64 (sweepM h (reachableM h)).2]) (by simp [results, Try.results81, go_sem, r0, r1]) rfl ⟨_, by rw [HM.out], ?_, (X2.setCell (by simp) _).setCell (by simp) _⟩
    rw [HM.out]
    exact OH.lo_ (lo := w.heap.size + 2) (OH.setlt (OH.setlt (lo := w.heap.size + 2) ⟨B, d, B', d', os, rfl, o4.1, o4.2.1, fun b hb => by have h7 := o4.2.2 b hb; (try simp only [World.size_alloc, World.size_setCell, World.size_drew, World.heap_drewN] at h7); omega⟩ (by simp) _) (by simp) _) (by omega)
end Go.Proofs.Ytkikeanpbffpkaa
