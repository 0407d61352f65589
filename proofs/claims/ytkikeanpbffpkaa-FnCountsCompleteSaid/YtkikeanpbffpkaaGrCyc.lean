/- Texts of one family, one behind the other: CycP, Cyc, CycC. -/
import Derived.Test.YtkikeanpbffpkaaCloD
import Derived.Test.YtkikeanpbffpkaaGrCntD
import Derived.Test.YtkikeanpbffpkaaChecked
import Derived.Deep.QuietTactic
import Derived.BigQuiet
import Derived.Deep.DeepCutAuto
import Derived.Deep.RegionHeld3
import Derived.IntWalk
import Derived.Test.YtkikeanpbffpkaaGrCntI
import Derived.Test.YtkikeanpbffpkaaGrCopy
import Derived.Test.YtkikeanpbffpkaaGrCtx
import Derived.Test.YtkikeanpbffpkaaGrCntS
import Derived.Test.YtkikeanpbffpkaaGrExec
import Derived.Test.YtkikeanpbffpkaaDataO
/- What is freed on a suspicion, as sets of cells. No program in sight. -/
namespace Go.Proofs.Ytkikeanpbffpkaa
set_option linter.unusedVariables false
set_option linter.unusedSimpArgs false
theorem refsAt_used {h : HeapM} (hv : validM h = true) {m : Nat} {r : Int} (hr : r ∈ refsAt h m) (h0 : 0 ≤ r) : usedN h.cells r.toNat = true := by
  unfold refsAt at hr
  cases hc : h.cells[m]? with
  | none => rw [hc] at hr; simp at hr
  | some c =>
    rw [hc] at hr
    rcases leadsM_iff.1 ((validM_leads hv).1 c (List.mem_of_getElem? hc) r hr) with h9 | ⟨-, c2, hc2, hu⟩
    · omega
    · rw [usedN_at hc2]; exact hu
theorem hasB_used {h : HeapM} {r : Int} (h0 : 0 ≤ r) : hasB (usedBits h.cells) r = usedN h.cells r.toNat := by rw [hasB_at h0, usedBits_test]
/-- What a used cell leads to. -/
noncomputable def setN (h : HeapM) (k : Nat) : Nat := cloN h (usedBits h.cells) [(k : Int)]
theorem setN_test {h : HeapM} (hv : validM h = true) {k : Nat} (hk : usedN h.cells k = true) (j : Nat) : (setN h k).testBit j = true ↔ Pth (refsAt h) k j := by
  unfold setN
  rw [cloN_test (used64 hv), pth_rch]
  constructor
  · intro h9
    induction h9 with
    | @start r h1 h2 => exact Rch.start h1 (by unfold hasB at h2; simp at h2; simp [nonneg, h2.1])
    | @next m r h1 h2 h3 ih => exact Rch.next ih h2 (by unfold hasB at h3; simp at h3; simp [nonneg, h3.1])
  · intro h9
    induction h9 with
    | @start r h1 h2 =>
      have e : r = (k : Int) := by simpa using h1
      subst e
      exact Rch.start h1 (by rw [hasB_used (by omega)]; exact hk)
    | @next m r h1 h2 h3 ih =>
      have h0 : 0 ≤ r := by simpa [nonneg] using h3
      exact Rch.next ih h2 (by rw [hasB_used h0]; exact refsAt_used hv h2 h0)
theorem cloN_lt {h : HeapM} {s : Nat} {fr : List Int} : cloN h s fr < 18446744073709551616 := by unfold cloN; exact bitsOf_lt64 (by rw [rchL_len]; omega)
theorem setN_lt (h : HeapM) (k : Nat) : setN h k < 18446744073709551616 := cloN_lt
theorem pth_lt {h : HeapM} (hv : validM h = true) {k j : Nat} (hk : usedN h.cells k = true) (p : Pth (refsAt h) k j) : j < h.cells.length := by
  cases p with
  | refl => exact usedN_lt hk
  | step _ h2 => have := refsAt_used hv h2 (by omega); rw [Int.toNat_natCast] at this; exact usedN_lt this
/-- The cells among the first j of a set to which something else leads. -/
def heldN (h : HeapM) (s j : Nat) : List Int := ((List.range j).filter fun i => s.testBit i && decide (0 < (cntsD h s.testBit).getD i 0)).map fun k : Nat => (k : Int)
theorem heldN_yes {h : HeapM} {s j : Nat} (h1 : s.testBit j = true) (h2 : 0 < (cntsD h s.testBit).getD j 0) : heldN h s (j + 1) = heldN h s j ++ [(j : Int)] := by
  unfold heldN
  rw [List.range_succ, List.filter_append, List.map_append]
  have : List.filter (fun i => s.testBit i && decide (0 < (cntsD h s.testBit).getD i 0)) [j] = [j] := by rw [List.filter_cons, h1, decide_eq_true h2]; rfl
  rw [this]; rfl
theorem heldN_no {h : HeapM} {s j : Nat} (h1 : s.testBit j = false ∨ ¬ 0 < (cntsD h s.testBit).getD j 0) : heldN h s (j + 1) = heldN h s j := by
  unfold heldN
  rw [List.range_succ, List.filter_append, List.map_append]
  have : List.filter (fun i => s.testBit i && decide (0 < (cntsD h s.testBit).getD i 0)) [j] = [] := by
    rw [List.filter_cons]
    rcases h1 with h1 | h1
    · simp [h1]
    · rw [decide_eq_false h1]; simp
  rw [this]; simp
theorem heldN_len (h : HeapM) (s j : Nat) : (heldN h s j).length ≤ j := by
  unfold heldN; rw [List.length_map]; exact Nat.le_trans (List.length_filter_le _ _) (by simp)
theorem heldN_lt {h : HeapM} {s j : Nat} {r : Int} (hr : r ∈ heldN h s j) : r < (j : Int) := by
  unfold heldN at hr
  simp only [List.mem_map, List.mem_filter, List.mem_range] at hr
  obtain ⟨k, ⟨hk, -⟩, rfl⟩ := hr
  omega
theorem heldN_mem {h : HeapM} (hv : validM h = true) {k : Nat} (hk : usedN h.cells k = true) (m : Nat) : (m : Int) ∈ heldN h (setN h k) h.cells.length ↔ TrO (refsAt h) h.roots (Pth (refsAt h) k) m := by
  unfold heldN
  simp only [List.mem_map, List.mem_filter, List.mem_range, Bool.and_eq_true, decide_eq_true_eq]
  constructor
  · rintro ⟨i, ⟨h1, h2, h3⟩, e⟩
    obtain rfl : i = m := by omega
    have hp := (setN_test hv hk i).1 h2
    rw [cntsD_getD h1] at h3
    exact (trO_cnt (fun j => setN_test hv hk j) hp).2 (by omega)
  · intro h9
    have hm := pth_lt hv hk h9.1
    have h3 := (trO_cnt (fun j => setN_test hv hk j) h9.1).1 h9
    exact ⟨m, ⟨hm, (setN_test hv hk m).2 h9.1, by rw [cntsD_getD hm]; omega⟩, rfl⟩
/-- What is freed on suspicion of k. -/
noncomputable def dedN (h : HeapM) (k : Nat) : Nat := andN (setN h k) (cloN h (setN h k) (heldN h (setN h k) h.cells.length))
theorem dedN_lt (h : HeapM) (k : Nat) : dedN h k < 18446744073709551616 := andN_lt (setN_lt h k)
theorem dedN_test {h : HeapM} (hv : validM h = true) {k : Nat} (hk : usedN h.cells k = true) (i : Nat) : (dedN h k).testBit i = true ↔ Ded (refsAt h) h.roots k i := by
  unfold dedN
  rw [andN_test (setN_lt h k) cloN_lt, Bool.and_eq_true, Bool.not_eq_true', setN_test hv hk, Bool.eq_false_iff, Ne, cloN_test (setN_lt h k)]
  have h9 := alv_rch (rf := refsAt h) (roots := h.roots) (held := heldN h (setN h k) h.cells.length) (ok := hasB (setN h k)) (k := k) (i := i)
    (fun r hr => by unfold hasB at hr; simp at hr; exact hr.1) (fun m hm => by rw [hasB_nat]; exact (setN_test hv hk m).2 hm) (heldN_mem hv hk)
  rw [h9]
  exact Iff.rfl
theorem dedN_list {h : HeapM} (hv : validM h = true) {k : Nat} (hk : usedN h.cells k = true) {i : Nat} (hi : i < h.cells.length) : (dedN h k).testBit i = (dedL h k).getD i false := by
  rw [Bool.eq_iff_iff, dedN_test hv hk, dedL_at hi]
theorem cycS_no {h : HeapM} {k : Nat} (hu : usedN h.cells k = false) : cycS h k = h := by unfold cycS; rw [hu]; rfl
theorem cycS_yes {h : HeapM} {k : Nat} (hu : usedN h.cells k = true) : cycS h k = dropM h (dedL h k) := by unfold cycS; rw [hu]; rfl
/-- What the first j suspects have left. -/
noncomputable def cycN (h : HeapM) (j : Nat) : HeapM := (List.range j).foldl cycS h
theorem cycN_succ (h : HeapM) (j : Nat) : cycN h (j + 1) = cycS (cycN h j) j := by
  unfold cycN
  rw [List.range_succ, List.foldl_append]
  rfl
theorem cycN_all (h : HeapM) : cycN h h.cells.length = cycM h := rfl
theorem cycN_ok {h : HeapM} (hv : validM h = true) (j : Nat) : validM (cycN h j) = true ∧ (cycN h j).cells.length = h.cells.length := ⟨(cyc_fold hv j).1, (cyc_fold hv j).2.1⟩
theorem cycN_roots (h : HeapM) : ∀ j, (cycN h j).roots = h.roots
  | 0 => rfl
  | j + 1 => by rw [cycN_succ, cycS_roots]; exact cycN_roots h j
end Go.Proofs.Ytkikeanpbffpkaa

/- impl.cellsFrom, impl.deadCycle. -/
namespace Go.Proofs.Ytkikeanpbffpkaa
open Go.RowKit
set_option maxRecDepth 100000
set_option linter.unusedSimpArgs false
set_option linter.unusedVariables false
theorem rf_one (W : World) (x : Int) : RF fi (W.alloc (.cells #[.int .i64 x] 3)) (some ⟨W.heap.size, 0, none⟩) [x] := fun i hi => by
  have h0 : i = 0 := by simpa using hi
  subst h0
  exact ⟨W.heap.size, 0, x, rfl, rfl, by simp [go_sem, fi]⟩
set_option maxHeartbeats 4000000 in
theorem cellsFrom_any (v : Value) (h : HeapM) (k : Nat) (w : World) (hv : RH w v h) (hva : validM h = true) (hk : k < h.cells.length) :
    Calls Try.prog 79 #[v, .int .i64 (k : Int)] w fun e w' => e = .returned (.int .u64 ((setN h k : Nat) : Int)) ∧ Below w.heap.size w w' := by
  obtain ⟨A, c, A', c', rfl⟩ := hv.parts
  have HVA := Lib.hid hva
  have hsm := (valid_small hva).1
  have HU64 := Lib.hid (used64 hva)
  clear hva
  go_enter Try.func79, Try.ntmps79
  go_upto_region 1 with fail
  refine Code.gen (Stb (fun W => RH W (.agg #[.slice A h.cells.length c, .slice A' h.roots.length c']) h ∧ Bx W w.heap.size [.slice A h.cells.length c, .slice A' h.roots.length c'] ∧ Below w.heap.size w W)) (Stb.and (Stb.rh (hv.below blw_)) (Stb.and (Stb.bx ((Bx.new w [.slice A h.cells.length c, .slice A' h.roots.length c'] 26).below blw_)) (Stb.here blw_))) ?_
  clear hv
  rintro W HI
  refine wp_region_R (by kernel_rfl) (fun R wd hR hwd => ?_)
  have hBd : Below W.heap.size W wd := by rw [hwd]; exact blw_
  replace HI := HI.step hBd
  clear hwd hBd
  refine rel_at (fr := ?fr_0) hR (fun f W => Stb (fun W => RH W (.agg #[.slice A h.cells.length c, .slice A' h.roots.length c']) h ∧ Bx W w.heap.size [.slice A h.cells.length c, .slice A' h.roots.length c'] ∧ Below w.heap.size w W) W) [(fun v W => v = (.agg #[.slice A h.cells.length c, .slice A' h.roots.length c'])), (fun v W => v = .int .i64 (k : Int)), (fun v W => ∃ b : Nat, v = .slice (some ⟨b, 0, none⟩) 1 1 ∧ RF fi W (some ⟨b, 0, none⟩) [(k : Int)]), (fun v W => v = (.agg #[.slice A h.cells.length c, .slice A' h.roots.length c'])), (fun v W => v = .int .u64 ((usedBits h.cells : Nat) : Int)), (fun v W => v = .int .u64 ((setN h k : Nat) : Int)), (fun v W => v = .int .u64 ((setN h k : Nat) : Int))] (fun W W' => Below W.heap.size W W') [(0, []), (1, []), (2, [1]), (3, []), (4, [3]), (5, [0, 2, 1, 4, 3]), (6, [5, 0, 2, 1, 4, 3])] [(5, 0), (6, 1), (7, 2), (8, 3), (9, 4), (10, 5), (4, 6)] [0, 1, 2, 3, 4, 5, 6] #[true, true, true, true, true, true, true] 7 0 (by kernel_rfl) (by kernel_rfl) ?hfr_0 ?h0_0 ?mono_0 ?steps_0 ?_
  case hfr_0 => intro x; (simp [frOf, fill, Act.put, List.lookup]; with_reducible rfl)
  case h0_0 => exact HI
  case mono_0 => exact (Pm.cons (fun _ _ _ _ h => h) (Pm.cons (fun _ _ _ _ h => h) (Pm.cons (fun _ _ _ hG ⟨b, e, h⟩ => ⟨b, e, h.below hG⟩) (Pm.cons (fun _ _ _ _ h => h) (Pm.cons (fun _ _ _ _ h => h) (Pm.cons (fun _ _ _ _ h => h) (Pm.cons (fun _ _ _ _ h => h) Pm.nil)))))))
  case steps_0 =>
    refine Steps.cons (RStep.of rfl fun x W f hI hD K9 hK => ?_) ?_
    · clear hD
      have c0 := hI.now.2.1.c 0 _ rfl
      have c1 := hI.now.2.1.c 1 _ rfl
      go_simp
      exact hK ((.agg #[.slice A h.cells.length c, .slice A' h.roots.length c'])) _ _ (by kernel_rfl) (Below.refl _ _) (hI) rfl
    refine Steps.cons (RStep.of rfl fun x W f hI hD K9 hK => ?_) ?_
    · clear hD
      go_simp
      exact hK (.int .i64 (k : Int)) _ _ (by kernel_rfl) (Below.refl _ _) (hI) rfl
    refine Steps.cons (RStep.of rfl fun x W f hI hD K9 hK => ?_) ?_
    · have e1 : x 1 = .int .i64 (k : Int) := hD 1 (by decide)
      clear hD
      simp only [e1] at hK ⊢
      go_simp
      exact hK (.slice (some ⟨W.heap.size, 0, none⟩) 1 1) _ _ (by kernel_rfl) blw_ (hI.step blw_) ⟨_, rfl, rf_one _ _⟩
    refine Steps.cons (RStep.of rfl fun x W f hI hD K9 hK => ?_) ?_
    · clear hD
      have c0 := hI.now.2.1.c 0 _ rfl
      have c1 := hI.now.2.1.c 1 _ rfl
      go_simp
      exact hK ((.agg #[.slice A h.cells.length c, .slice A' h.roots.length c'])) _ _ (by kernel_rfl) (Below.refl _ _) (hI) rfl
    refine Steps.cons (RStep.of rfl fun x W f hI hD K9 hK => ?_) ?_
    · have e3 : x 3 = (.agg #[.slice A h.cells.length c, .slice A' h.roots.length c']) := hD 3 (by decide)
      clear hD
      simp only [e3] at hK ⊢
      go_wp2_with fail
      (with_reducible refine (usedSet_any _ h _ hI.now.1 (by omega)).mono ?_)
      rintro e w6 ⟨rfl, hB⟩
      exact hK _ _ _ (by kernel_rfl) hB (hI.step hB) rfl
    refine Steps.cons (RStep.of rfl fun x W f hI hD K9 hK => ?_) ?_
    · have e0 : x 0 = (.agg #[.slice A h.cells.length c, .slice A' h.roots.length c']) := hD 0 (by decide)
      have h2 : (fun v W => ∃ b : Nat, v = .slice (some ⟨b, 0, none⟩) 1 1 ∧ RF fi W (some ⟨b, 0, none⟩) [(k : Int)]) (x 2) W := hD 2 (by decide)
      have e4 : x 4 = .int .u64 ((usedBits h.cells : Nat) : Int) := hD 4 (by decide)
      clear hD
      simp only [e0, e4] at hK ⊢
      obtain ⟨b2, e2, h2⟩ := h2
      simp only [e2] at hK ⊢
      go_wp2_with fail
      have h9 := closureN_any _ h (some ⟨b2, 0, none⟩) [(k : Int)] 1 (usedBits h.cells) _ hI.now.1 h2 HU64.out (fun r hr => used_lt hr) HVA.out (by simp) (fun r hr => by simp at hr; omega)
      rw [List.length_singleton] at h9
      (with_reducible refine h9.mono ?_)
      rintro e w6 ⟨rfl, hB⟩
      exact hK _ _ _ (by kernel_rfl) hB (hI.step hB) rfl
    refine Steps.cons (RStep.of rfl fun x W f hI hD K9 hK => ?_) ?_
    · have e5 : x 5 = .int .u64 ((setN h k : Nat) : Int) := hD 5 (by decide)
      clear hD
      simp only [e5] at hK ⊢
      go_simp
      exact hK (.int .u64 ((setN h k : Nat) : Int)) _ _ (by kernel_rfl) (Below.refl _ _) (hI) rfl
    exact Steps.nil
  intro x W hI hV
  have e0 : x 0 = (.agg #[.slice A h.cells.length c, .slice A' h.roots.length c']) := hV 0 (by decide)
  have e1 : x 1 = .int .i64 (k : Int) := hV 1 (by decide)
  have h2 : (fun v W => ∃ b : Nat, v = .slice (some ⟨b, 0, none⟩) 1 1 ∧ RF fi W (some ⟨b, 0, none⟩) [(k : Int)]) (x 2) W := hV 2 (by decide)
  have e3 : x 3 = (.agg #[.slice A h.cells.length c, .slice A' h.roots.length c']) := hV 3 (by decide)
  have e4 : x 4 = .int .u64 ((usedBits h.cells : Nat) : Int) := hV 4 (by decide)
  have e5 : x 5 = .int .u64 ((setN h k : Nat) : Int) := hV 5 (by decide)
  have e6 : x 6 = .int .u64 ((setN h k : Nat) : Int) := hV 6 (by decide)
  clear hV
  simp only [e0, e1, e3, e4, e5, e6]
  rw [hR]
  refine wpAny_done (by kernel_rfl) ?_ _
  have HB := hI.now.2.2
  clear hR HI hI
  go_wp2_with fail
  go_ret
  exact ⟨rfl, HB⟩
theorem Only.grow {S Q : List Nat} {a b c : World} (h : Only S a b) (k : Only Q b c) (hq : ∀ x ∈ Q, x ∈ S ∨ a.heap.size ≤ x) : Only S a c :=
  ⟨k.os.trans h.os, k.tape.trans h.tape, k.output.trans h.output, Nat.le_trans h.size k.size, fun i hi hn => (k.block i (Nat.lt_of_lt_of_le hi h.size) (fun hc => (hq i hc).elim hn (fun h9 => by omega))).trans (h.block i hi hn)⟩
set_option maxHeartbeats 4000000 in
theorem deadCycle_any (v : Value) (h : HeapM) (k : Nat) (w : World) (hv : RH w v h) (hva : validM h = true) (hk : usedN h.cells k = true) :
    Calls Try.prog 56 #[v, .int .i64 (k : Int)] w fun e w' => e = .returned (.int .u64 ((dedN h k : Nat) : Int)) ∧ Below w.heap.size w w' := by
  obtain ⟨A, c, A', c', rfl⟩ := hv.parts
  have HVA := Lib.hid hva
  have hsm := (valid_small hva).1
  have hkl := usedN_lt hk
  obtain ⟨sn, hsn⟩ : ∃ sn, Hid (sn = setN h k) := ⟨_, rfl⟩
  have HS64 : Hid (sn < 18446744073709551616) := by rw [hsn.out]; exact setN_lt h k
  obtain ⟨cn, hcn⟩ : ∃ cn, Hid (cn = cloN h sn (heldN h sn h.cells.length)) := ⟨_, rfl⟩
  have HE2 : Hid (bits .andNot .u64 ((sn : Nat) : Int) ((cn : Nat) : Int) = ((dedN h k : Nat) : Int)) := by
    rw [hcn.out, hsn.out]; exact u64_andNot_nat _ _ (setN_lt h k) cloN_lt
  have HSC : Hid (∀ r, hasB sn r = true → r < h.cells.length) := fun r hr => by
    rw [hsn.out] at hr
    unfold hasB at hr
    simp only [Bool.and_eq_true, decide_eq_true_eq] at hr
    have h9 := pth_lt hva hk ((setN_test hva hk _).1 hr.2)
    omega
  clear hva hk
  go_enter Try.func56, Try.ntmps56
  go_wp2_with fail
  refine Calls.gen (Stb (fun W => RH W (.agg #[.slice A h.cells.length c, .slice A' h.roots.length c']) h ∧ Bx W w.heap.size [.slice A h.cells.length c, .slice A' h.roots.length c'] ∧ Below w.heap.size w W)) (Stb.and (Stb.rh (hv.below blw_)) (Stb.and (Stb.bx (Bx.new w [.slice A h.cells.length c, .slice A' h.roots.length c'] 26)) (Stb.here blw_))) ?_
  rintro W HI
  (with_reducible refine (cellsFrom_any _ h k _ HI.now.1 HVA.out hkl).mono ?_); rw [← hsn.out]; rintro e w1 ⟨rfl, hB⟩
  replace HI := HI.step hB
  clear hB
  have c0 := HI.now.2.1.c 0 _ rfl
  have c1 := HI.now.2.1.c 1 _ rfl
  have hw1 := HI.now.2.1.lt
  go_wp2_with fail
  (with_reducible refine (refCounts_any _ h sn _ (HI.now.1.below blw_) HVA.out HS64.out).mono ?_); rintro e w2 ⟨S, kS, rfl, hS, hgS, hB⟩
  have HK0 : Hid (OF 3 fi w2 (some ⟨w1.heap.size, 0, none⟩) 0 ([] : List Int)) := (OF.new0 (w := w1.alloc (.cells #[] 3 (0, 0))) (heap_alloc_at _ _ _ (by simp))).below hB
  have Y2 : Below w1.heap.size w1 w2 := blw_
  have hz2 := hB.size
  simp at hz2 hgS
  replace HI := HI.step Y2
  have HSS := Lib.hid hS
  have HGS := Lib.hid hgS
  have HB2 := Lib.hid HI.now.2.2
  have HX2 := Lib.hid HI.now.2.1
  have hwb : w.heap.size < w1.heap.size := hw1
  clear HI c0 c1 hw1 hB Y2 hS hgS
  go_wp2
  generalize w1.heap.size = b0 at *
  go_loopw [6, 17] (fun s6 i wr => ∃ (j : Nat) (Q : Option Addr) (cQ : Nat), j ≤ h.cells.length ∧ i = .int .i64 j ∧ s6 = .slice Q (heldN h sn j).length cQ ∧ Hid (OF 3 fi wr Q cQ (heldN h sn j)) ∧ Hid (∀ b ∈ blk Q, b = b0 ∨ w2.heap.size ≤ b) ∧ Hid (Only [b0] w2 wr)) (fun _ i _ => h.cells.length - (intOf i).toNat)
  case atStart => exact ⟨0, some ⟨b0, 0, none⟩, 0, by omega, rfl, by simp [heldN], by unfold Hid; simpa [heldN] using HK0.out, fun b hb => .inl (mem_blk_some hb), Only.refl _ _⟩
  case round =>
    clear HK0
    obtain ⟨j, Q, cQ, hj, rfl, rfl, HK, HQ, HO⟩ := hrel
    have hsl := heldN_len h sn j
    have sO := HO.out.size
    by_cases hlt : j < h.cells.length
    · have hcl : j < (cntsD h sn.testBit).length := by rw [cntsD_len]; exact hlt
      obtain ⟨y, hy⟩ : ∃ y, (cntsD h sn.testBit)[j]? = some y := ⟨_, List.getElem?_eq_getElem hcl⟩
      obtain ⟨gS, rfl, hgS2⟩ := HSS.out.some_ hcl
      have d1 : wr.cell? ⟨gS, j, none⟩ = some (.int .i64 y) := (HSS.out.only HO.out (fun g hg hc => by have := HGS.out g hg; simp at hc; omega)).cell hy
      have hyd : (cntsD h sn.testBit).getD j 0 = y := by rw [List.getD_eq_getElem?_getD, hy]; rfl
      have HYD := Lib.hid hyd
      have hy0 : 0 ≤ y := by rw [← hyd, cntsD_getD hlt]; omega
      have hj64 : (j : Int) < 64 := by omega
      have i0 : (0 : Int) ≤ (j : Int) := by omega
      have i1 : (j : Int) < (h.cells.length : Int) := by omega
      clear hcl hy hyd
      rcases bool_ft (sn.testBit j) with hx | hx
      all_goals
        have HX := Lib.hid hx
        clear hx
        go_wp2_with fail
        (with_reducible refine (has_any sn (j : Int) _ hj64 HS64.out).mono ?_)
        rw [hasB_nat, HX.out]
        rintro e w3 ⟨rfl, rfl⟩
      · have HN : Hid (heldN h sn (j + 1) = heldN h sn j) := heldN_no (.inl HX.out)
        clear hy0
        go_wp2
        go_roundw
        case rel => exact ⟨j + 1, Q, cQ, by omega, by go_num, by rw [HN.out], by unfold Hid; rw [HN.out]; exact HK.out, HQ, HO⟩
        case measure => simp [intOf]; omega
      · by_cases hyp : 0 < y
        · have HN : Hid (heldN h sn (j + 1) = heldN h sn j ++ [(j : Int)]) := heldN_yes HX.out (by rw [HYD.out]; exact hyp)
          clear hy0
          go_wp2_with (at_builtin; (refine wpList_appi rfl (.tmp 29) (.tmp 31) rfl (heldN h sn j) rfl rfl (HK.out.below blw_) (RF.singR (x := (j : Int)) (by simp [go_sem, fi])) (by simp; omega) ?_); intro Q2 cQ2 w3 hO3 hOn3 hg3; have HO3 : Hid (Only [b0] w2 w3) := (HO.out.trans (Only.of_below blw_)).grow hOn3 (fun b9 hb9 => (HQ.out b9 hb9).elim (fun h9 => .inl (by simp [h9])) .inr); have HQ3 : Hid (∀ b9 ∈ blk Q2, b9 = b0 ∨ w2.heap.size ≤ b9) := (fun b9 hb9 => by rcases hg3 b9 hb9 with h9 | h9; exact HQ.out b9 h9; (try simp at h9); right; omega); have HK3 := Lib.hid hO3; clear hO3 hOn3 hg3)
          go_roundw
          case rel => exact ⟨j + 1, Q2, cQ2, by omega, by go_num, by rw [HN.out]; simp, by unfold Hid; rw [HN.out]; exact HK3.out, HQ3, HO3⟩
          case measure => simp [intOf]; omega
        · have hy1 : y = 0 := by omega
          subst hy1
          have HN : Hid (heldN h sn (j + 1) = heldN h sn j) := heldN_no (.inr (by rw [HYD.out]; omega))
          clear hy0 hyp
          go_wp2
          go_roundw
          case rel => exact ⟨j + 1, Q, cQ, by omega, by go_num, by rw [HN.out], by unfold Hid; rw [HN.out]; exact HK.out, HQ, HO⟩
          case measure => simp [intOf]; omega
    · have hje : j = h.cells.length := by omega
      subst hje
      have hX := HX2.out.only HO.out (by simp; omega)
      have c0 := hX.c 0 _ rfl
      have c1 := hX.c 1 _ rfl
      have HBr : Hid (Below w.heap.size w wr) := HB2.out.trans (HO.out.below HB2.out.size (by simp; omega))
      have e2 := HE2.out
      clear hX
      go_wp2_with fail
      (with_reducible refine (closureN_any _ h Q (heldN h sn h.cells.length) cQ sn _ ((hv.below HBr.out).below blw_) (HK.out.rf.below blw_) HS64.out HSC.out HVA.out (by omega) (fun r hr => by have := heldN_lt hr; omega)).mono ?_)
      rw [← hcn.out]
      rintro e w4 ⟨rfl, hB4⟩
      have HB := HBr.out
      have HB4 : Below w.heap.size w w4 := HB.trans (Below.mono (show Below wr.heap.size wr w4 from blw_) HB.size)
      clear hB4 HB
      go_wp2_with fail
      go_ret
      exact ⟨rfl, HB4⟩
end Go.Proofs.Ytkikeanpbffpkaa

/- impl.CollectCycles. -/
namespace Go.Proofs.Ytkikeanpbffpkaa
open Go.RowKit
set_option maxRecDepth 100000
set_option linter.unusedSimpArgs false
set_option linter.unusedVariables false
section
variable {n lo s2 s3 : Nat} {w0 W W' : World} {A A' : Option Addr} {c c' : Nat} {os os' : List OCell} {rs : List Int}
theorem LfS.puts (h : LfS n lo s2 s3 w0 A c A' c' os rs W) (hC : OC W' A c os') (hsub : List.Sublist (blks os') (blks os)) (hl : os'.length = os.length) (hO : Only (blk A) W W') : LfS n lo s2 s3 w0 A c A' c' os' rs W' := by
  have nn : ∀ g, g ∈ blk A → g ∈ hblks A os A' := fun g hg => List.mem_append.2 (.inl (List.mem_append.2 (.inl hg)))
  have hh : ∀ g, g ∈ hblks A os' A' → g ∈ hblks A os A' := by
    intro g hg
    rcases List.mem_append.1 hg with hg | hg
    · rcases List.mem_append.1 hg with hg | hg
      · exact nn g hg
      · exact List.mem_append.2 (.inl (List.mem_append.2 (.inr (hsub.subset hg))))
    · exact List.mem_append.2 (.inr hg)
  exact ⟨h.own.put_ hC hsub hl hO, fun g hg => h.low g (hh g hg), h.b2.only hO (fun hc => h.n2 (nn _ hc)), h.b3.only hO (fun hc => h.n3 (nn _ hc)), fun hc => h.n2 (hh _ hc), fun hc => h.n3 (hh _ hc), h.ls, by rw [hl]; exact h.nl,
    h.bel.trans (hO.below (by have := h.b2.lt; have := h.ls; omega) (fun g hg => h.low g (nn g hg)))⟩
end
set_option maxHeartbeats 4000000 in
theorem collectCycles_any (v : Value) (p : CountM) (w : World) (hv : RCt w v p) (hok : countOk p = true) :
    Calls Try.prog 20 #[v] w fun e w' => ∃ v' z, e = .returned (.tuple #[v', .int .i64 z]) ∧ RCt w' v' ⟨cycM p.store, cntsM (cycM p.store)⟩ ∧ Below w.heap.size w w' := by
  obtain ⟨A, c, A', c', A2, c2, rfl⟩ := hv.parts
  have hva := (countOk_iff.1 hok).1
  have HVA := Lib.hid hva
  have HSM := Lib.hid (valid_small hva)
  have hn40 := HSM.out.1
  clear hva
  go_enter Try.func20, Try.ntmps20
  go_wp2_with fail
  refine Calls.gen (fun W => RCt W (.agg #[.slice A p.store.cells.length c, .slice A' p.store.roots.length c', .slice A2 p.counts.length c2]) p ∧ Bx W w.heap.size [.slice A p.store.cells.length c, .slice A' p.store.roots.length c', .slice A2 p.counts.length c2] ∧ Bx W (w.heap.size + 1) [.slice none 0 0, .slice none 0 0, .slice none 0 0] ∧ Below w.heap.size w W) ⟨hv.below blw_, (Bx.new w [.slice A p.store.cells.length c, .slice A' p.store.roots.length c', .slice A2 p.counts.length c2] 28).below blw_, (show Bx ((w.alloc (.cells #[.slice A p.store.cells.length c, .slice A' p.store.roots.length c', .slice A2 p.counts.length c2] 28)).alloc (.cells #[.slice none 0 0, .slice none 0 0, .slice none 0 0] 28)) (w.heap.size + 1) [.slice none 0 0, .slice none 0 0, .slice none 0 0] by simpa using Bx.new (w.alloc (.cells #[.slice A p.store.cells.length c, .slice A' p.store.roots.length c', .slice A2 p.counts.length c2] 28)) [.slice none 0 0, .slice none 0 0, .slice none 0 0] 28).below blw_, blw_⟩ ?_
  clear hv
  rintro W ⟨hv, XP, X2, HB⟩
  (with_reducible refine (implCountedValid_any _ p _ hv).mono ?_); rw [hok]; rintro e w1 ⟨rfl, hB⟩
  have hv := hv.below hB
  have XP := XP.below hB
  have X2 := X2.below hB
  have HB := HB.trans (hB.mono HB.size)
  clear hB hok
  have c0 := XP.c 0 _ rfl
  have c1 := XP.c 1 _ rfl
  have c2_ := XP.c 2 _ rfl
  have hx2 := X2.lt
  go_wp2_with fail
  (with_reducible refine (copyHeap_any _ p.store _ (hv.st.below blw_) (by omega) (fun d hd => by have := HSM.out.2.2 d hd; omega) (by have := HSM.out.2.1; omega)).mono ?_); rintro e w2 ⟨v2, rfl, ⟨B, d, B', d', os, rfl, hm, hO, hlo⟩, hB2⟩
  have hBr : Below w1.heap.size w1 w2 := blw_
  try simp at hlo
  have X2 := X2.below hBr
  have HB := HB.trans (hBr.mono HB.size)
  have sB := hBr.size
  have hlt2 := hO.lt
  have HLO := Lib.hid hlo
  clear hv XP c0 c1 c2_ hB2 hBr hlo
  go_upto_region 5 with fail
  refine Code.gen (fun W => LfS p.store.cells.length w.heap.size (w.heap.size + 1) w2.heap.size w B d B' d' os p.store.roots W) ⟨hO.keep fun g hg => Below.block (show Below w2.heap.size w2 _ from blw_) g (hO.lt g hg), fun g hg => by have := HLO.out g hg; omega, X2.below blw_, (Bx.new w2 [.slice B p.store.cells.length d, .slice B' p.store.roots.length d'] 26).below blw_, fun hc => by have := HLO.out _ hc; omega, fun hc => by have := hlt2 _ hc; omega, ⟨by omega, by omega⟩, by rw [← hm, List.length_map], blw_⟩ ?_
  have HM := Lib.hid hm
  clear hm hO HLO X2 HB hlt2
  have hb4 : w.heap.size + 1 < w2.heap.size := by omega
  clear hx2 sB
  generalize w2.heap.size = b4 at hb4 ⊢
  rintro W hF
  have HF := Lib.hid hF
  have q0 := hF.b3.c 0 _ rfl
  clear hF
  go_wp2
  go_loopw [17, 5] (fun i f wr => ∃ (j : Nat) (z : Int) (os : List OCell), i = .int .i64 (j : Int) ∧ f = .int .i64 z ∧ j ≤ p.store.cells.length ∧ 0 ≤ z ∧ z ≤ 40 * (j : Int) ∧ Hid (os.map (·.c) = (cycN p.store j).cells) ∧ Hid (LfS p.store.cells.length w.heap.size (w.heap.size + 1) b4 w B d B' d' os p.store.roots wr)) (fun i _ _ => p.store.cells.length - (intOf i).toNat)
  case atStart => exact ⟨0, 0, os, rfl, rfl, by omega, by omega, by omega, HM, HF⟩
  case round =>
    clear HF HM q0
    obtain ⟨j, z, os, rfl, rfl, hj, hz0, hz1, HM, HF⟩ := hrel
    have q0 := HF.out.b3.c 0 _ rfl
    have q1 := HF.out.b3.c 1 _ rfl
    have HOK := Lib.hid (cycN_ok HVA.out j)
    have HRT := Lib.hid (cycN_roots p.store j)
    have hrh : RH wr (.agg #[.slice B p.store.cells.length d, .slice B' p.store.roots.length d']) (cycN p.store j) := by
      have h9 := (OHs.rhs (h := cycN p.store j) (by rw [HRT.out]; exact HF.out.own) HM.out).rh d d'
      rw [HOK.out.2, HRT.out] at h9
      exact h9
    by_cases hlt : j < p.store.cells.length
    · have hjo : j < os.length := by rw [HF.out.nl]; exact hlt
      obtain ⟨o, ho2⟩ : ∃ o, os[j]? = some o := ⟨_, List.getElem?_eq_getElem hjo⟩
      obtain ⟨gA, rfl, d0, -, -, hgA⟩ := HF.out.own.cells.at_ ho2
      have hus : usedN (cycN p.store j).cells j = o.c.used := by rw [← HM.out]; exact usedN_at (by rw [List.getElem?_map, ho2]; rfl)
      have HU := Lib.hid hus
      have i0 : (0 : Int) ≤ (j : Int) := by omega
      have i1 : (j : Int) < (p.store.cells.length : Int) := by omega
      have i3 : (j : Int) + 1 < 9223372036854775807 := by omega
      clear ho2 hus hjo
      rcases bool_ft o.c.used with hu | hu
      · rw [hu] at d0 HU
        have HN : Hid (cycN p.store (j + 1) = cycN p.store j) := by unfold Hid; rw [cycN_succ, cycS_no HU.out]
        go_wp2
        go_roundw
        case rel => exact ⟨j + 1, z, os, by go_num, rfl, by omega, hz0, by omega, by unfold Hid; rw [HN.out]; exact HM.out, HF⟩
        case measure => simp [intOf]; omega
      · rw [hu] at d0 HU
        have HN : Hid (cycN p.store (j + 1) = dropM (cycN p.store j) (dedL (cycN p.store j) j)) := by unfold Hid; rw [cycN_succ, cycS_yes HU.out]
        go_wp2_with fail
        (with_reducible refine (deadCycle_any _ (cycN p.store j) j _ (hrh.below blw_) HOK.out.1 HU.out).mono ?_); rintro e w5 ⟨rfl, hB5⟩
        have hBr : Below wr.heap.size wr w5 := blw_
        have HF5 := Lib.hid (HF.out.below hBr)
        have p0 := HF5.out.b3.c 0 _ rfl
        have hd64 := dedN_lt (cycN p.store j) j
        have HD := Lib.hid (fun (i : Nat) (hi : i < (cycN p.store j).cells.length) => dedN_list HOK.out.1 HU.out hi)
        generalize dedN (cycN p.store j) j = D at hd64 HD ⊢
        clear hB5 hBr HF q0 q1 d0 hrh
        go_wp2_with fail
        have hnl := HF5.out.nl
        have p0' : w5.cell? ⟨b4, 0, none⟩ = some (.slice (some ⟨gA, 0, none⟩) os.length d) := by rw [hnl]; exact p0
        (with_reducible refine (freeCells_any b4 (some ⟨gA, 0, none⟩) d os D _ p0' HF5.out.own.cells (fun hc => absurd (List.mem_append.2 (.inl (List.mem_append.2 (.inl hc)))) HF5.out.n3) (by omega) hd64).mono ?_)
        rintro e w6 ⟨rfl, hC6, hO6⟩
        have HF6 := Lib.hid (HF5.out.puts hC6 (oPut_blks _ _ _ (Nat.le_refl _)) (oPut_len _ _ _) hO6)
        have HM6 : Hid ((oPut (setF D) os.length os).map (·.c) = (cycN p.store (j + 1)).cells) := by
          unfold Hid
          rw [HN.out, oPut_set (dead := dedL (cycN p.store j) j) (by rw [dedL_len, ← HM.out, List.length_map]) (fun i o hi _ => HD.out i (by rw [← HM.out, List.length_map]; exact (List.getElem?_eq_some_iff.1 hi).1)) (fun o ho hu => valid_free HOK.out.1 o.c (by rw [← HM.out]; exact List.mem_map_of_mem ho) hu), HM.out]
          rfl
        have hfr := freeN_le D (os.map (·.c)) os.length
        obtain ⟨fz, hfz⟩ : ∃ fz, Hid (fz = freeN D (os.map (·.c)) os.length) := ⟨_, rfl⟩
        rw [← hfz.out] at hfr ⊢
        have hz3 : (fz : Int) ≤ 40 := by omega
        have hz4 : z + (fz : Int) < 9223372036854775807 := by omega
        generalize oPut (setF D) os.length os = os6 at HF6 HM6
        clear hC6 hO6 HF5 p0 p0' hfr hfz HM HD hd64 HN HU
        go_wp2
        go_roundw
        case rel => exact ⟨j + 1, z + (fz : Int), os6, by go_num, by go_num, by omega, by omega, by omega, HM6, HF6⟩
        case measure => simp [intOf]; omega
    · have hje : j = p.store.cells.length := by omega
      subst hje
      have i9 : ¬ (p.store.cells.length : Int) < (p.store.cells.length : Int) := by omega
      have HCM : Hid (cycN p.store p.store.cells.length = cycM p.store) := cycN_all _
      go_wp2_with fail
      have h9 := counted_any B B' d d' (cycN p.store p.store.cells.length) wr (by rw [HOK.out.2, HRT.out]; exact hrh) HOK.out.1
      rw [HOK.out.2, HRT.out] at h9
      (with_reducible refine h9.mono ?_); rintro e w5 ⟨S, k, rfl, hS, hgS, hB5⟩
      have HF5 := Lib.hid (HF.out.below hB5)
      have hlt5 := HF.out.own.lt
      have HA : Hid (∀ g ∈ blk S, w.heap.size ≤ g ∧ g ∉ hblks B os B') := fun g hg => ⟨by have := hgS g hg; have := HF.out.bel.size; omega, fun hc => by have := hgS g hg; have := hlt5 g hc; omega⟩
      have HA2 : Hid (w.heap.size + 1 ∉ blk S) := fun hc => by have := hgS _ hc; have := HF.out.b2.lt; omega
      have HSS := Lib.hid hS
      have r0 := HF5.out.b2.c 0 _ rfl
      have r1 := HF5.out.b2.c 1 _ rfl
      have r2 := HF5.out.b2.c 2 _ rfl
      have f0 := HF5.out.b2.f 0
      have f1 := HF5.out.b2.f 1
      have f2 := HF5.out.b2.f 2
      clear h9 hrh hS hgS hB5 HF hlt5 q0 q1
      go_wp2_with fail
      refine bodyPost_ret (v := .tuple #[.agg #[.slice B p.store.cells.length d, .slice B' p.store.roots.length d', .slice S p.store.cells.length k], .int .i64 z]) (by simp [results, Try.results20, go_sem, r0, r1, r2]) rfl ⟨_, z, rfl, (HF5.out.oc (p := ⟨cycM p.store, cntsM (cycM p.store)⟩) (cnt := cntsM (cycN p.store p.store.cells.length)) (by rw [HM.out, HCM.out]) (by rw [← HCM.out, HRT.out]) (by rw [HCM.out]) HSS.out HA.out HA2.out (by rw [cntsM_len, HOK.out.2]) ?_).rc, ?_⟩
      · exact (by repeat (first | (with_reducible exact Only.refl _ _) | (with_reducible refine Only.drew ?_) | (refine Only.setCell ?_ (.inl (by simp)) _)))
      · have hbl := HF5.out.bel
        exact (by repeat (first | (with_reducible assumption) | (with_reducible refine Below.drew ?_) | (refine Below.setCell ?_ (by simp only; omega) _)))
end Go.Proofs.Ytkikeanpbffpkaa
