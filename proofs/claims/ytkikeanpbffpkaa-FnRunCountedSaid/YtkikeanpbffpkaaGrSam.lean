/- Texts of one family, one behind the other: Sam, UsedC, Leak. -/
import Derived.Test.YtkikeanpbffpkaaChecked
import Derived.Deep.QuietTactic
import Derived.BigQuiet
import Derived.Test.YtkikeanpbffpkaaGrSame
import Derived.Test.YtkikeanpbffpkaaGrCtx
import Derived.IntWalk
import Derived.Test.YtkikeanpbffpkaaCloD
import Derived.Test.YtkikeanpbffpkaaGrIso
import Derived.Deep.DeepCutAuto
import Derived.Test.YtkikeanpbffpkaaGrCopy
/- The laws' comparisons of two equal values. -/
namespace Go.Proofs.Ytkikeanpbffpkaa
open Go.RowKit
set_option maxRecDepth 100000
set_option linter.unusedSimpArgs false
set_option linter.unusedVariables false
set_option maxHeartbeats 4000000 in
theorem sameCounted_eq (v u : Value) (p : CountM) (w : World) (hv : RCt w v p) (hu : RCt w u p) :
    Calls Try.prog 9 #[v, u] w fun e w' => e = .returned (.bool true) ∧ Below w.heap.size w w' := by
  obtain ⟨A, c, A', c', A2, c2, rfl⟩ := hv.parts
  obtain ⟨B, d, B', d', B2, d2, rfl⟩ := hu.parts
  go_enter Try.func9, Try.ntmps9
  go_wp2_with fail
  refine Calls.gen (Stb (fun W => Bx W w.heap.size [.slice A p.store.cells.length c, .slice A' p.store.roots.length c', .slice A2 p.counts.length c2] ∧ Bx W (w.heap.size + 1) [.slice B p.store.cells.length d, .slice B' p.store.roots.length d', .slice B2 p.counts.length d2] ∧ RCt W (.agg #[.slice A p.store.cells.length c, .slice A' p.store.roots.length c', .slice A2 p.counts.length c2]) p ∧ RCt W (.agg #[.slice B p.store.cells.length d, .slice B' p.store.roots.length d', .slice B2 p.counts.length d2]) p ∧ Below w.heap.size w W)) (Stb.and (Stb.bx ((Bx.new w [.slice A p.store.cells.length c, .slice A' p.store.roots.length c', .slice A2 p.counts.length c2] 28).below blw_)) (Stb.and (Stb.bx (by simpa using Bx.new (w.alloc (.cells #[.slice A p.store.cells.length c, .slice A' p.store.roots.length c', .slice A2 p.counts.length c2] 28)) [.slice B p.store.cells.length d, .slice B' p.store.roots.length d', .slice B2 p.counts.length d2] 28)) (Stb.and (Stb.rct (hv.below blw_)) (Stb.and (Stb.rct (hu.below blw_)) (Stb.here blw_))))) ?_
  clear hv hu
  rintro W HI
  (with_reducible refine (sameHeap_any _ _ p.store p.store _ HI.now.2.2.1.st HI.now.2.2.2.1.st).mono ?_); rw [eqB_of (rfl : p.store = p.store)]; rintro e w2 ⟨rfl, hB⟩
  replace HI := HI.step hB
  clear hB
  have cc2 := HI.now.1.c 2 _ rfl
  have dd2 := HI.now.2.1.c 2 _ rfl
  have z0 := HI.now.1.lt
  have z1 := HI.now.2.1.lt
  go_wp2_with fail
  refine Calls.gen (Stb (fun W => Bx W w.heap.size [.slice A p.store.cells.length c, .slice A' p.store.roots.length c', .slice A2 p.counts.length c2] ∧ Bx W (w.heap.size + 1) [.slice B p.store.cells.length d, .slice B' p.store.roots.length d', .slice B2 p.counts.length d2] ∧ RCt W (.agg #[.slice A p.store.cells.length c, .slice A' p.store.roots.length c', .slice A2 p.counts.length c2]) p ∧ RCt W (.agg #[.slice B p.store.cells.length d, .slice B' p.store.roots.length d', .slice B2 p.counts.length d2]) p ∧ Below w.heap.size w W)) (HI.step blw_) ?_
  clear HI cc2 dd2 z0 z1
  rintro W HI
  (with_reducible refine (sameInts_any A2 B2 p.counts p.counts c2 d2 _ HI.now.2.2.1.co HI.now.2.2.2.1.co HI.now.2.2.1.ln HI.now.2.2.2.1.ln).mono ?_); rw [eqB_of (rfl : p.counts = p.counts)]; rintro e w2 ⟨rfl, n9, hw2⟩
  replace HI := HI.step (show Below W.heap.size W w2 from by rw [hw2]; exact Below.drewn (Below.refl _ _))
  clear hw2
  have HB := HI.now.2.2.2.2
  have zB := HB.size
  clear HI
  go_wp2_with fail
  go_ret
  exact ⟨rfl, blw_⟩
end Go.Proofs.Ytkikeanpbffpkaa

/- How many cells are used, and how many can be reached. -/
namespace Go.Proofs.Ytkikeanpbffpkaa
open Go.RowKit
set_option maxRecDepth 100000
set_option linter.unusedSimpArgs false
set_option linter.unusedVariables false
def cntB (l : List Bool) : Nat := (l.filter id).length
theorem cntB_snoc {l : List Bool} {k : Nat} {b : Bool} (h : l[k]? = some b) : cntB (l.take (k + 1)) = cntB (l.take k) + (if b then 1 else 0) := by
  have hk := (List.getElem?_eq_some_iff.1 h).1
  rw [List.take_add_one, h]
  cases b <;> simp [cntB]
theorem cntB_le (l : List Bool) : cntB l ≤ l.length := List.length_filter_le _ _
set_option maxHeartbeats 4000000 in
theorem count_any (A : Option Addr) (xs : List Bool) (c : Nat) (w : World) (hx : RF fb w A xs) (hn : xs.length ≤ 9223372036854775807) :
    Calls Try.prog 57 #[.slice A xs.length c] w fun e w' => e = .returned (.int .i64 (cntB xs : Int)) ∧ w = w' := by
  go_enter Try.func57, Try.ntmps57
  go_wp2
  go_loopw [3, 5, 8] (fun s3 s5 s8 wr => ∃ k : Nat, k ≤ xs.length ∧ s8 = .int .i64 (k : Int) ∧ s3 = .int .i64 (cntB (xs.take k) : Int) ∧ wr = w) (fun _ _ s8 _ => xs.length - (intOf s8).toNat)
  case atStart => exact ⟨0, by omega, rfl, rfl, rfl⟩
  case round =>
    obtain ⟨k, hk, rfl, rfl, rfl⟩ := hrel
    by_cases hlt : k < xs.length
    · obtain ⟨b, o, x, rfl, gx, c1, -⟩ := hx.at_ hlt
      have d1 : wr.cell? ⟨b, o + k, none⟩ = some (.bool x) := c1
      have i1 : (0 : Int) ≤ (k : Int) := by omega
      have i2 : (k : Int) < (xs.length : Int) := by omega
      have hc := cntB_snoc gx
      have hl : cntB (xs.take k) ≤ k := Nat.le_trans (cntB_le _) (by simp; omega)
      have HC := Lib.hid hc
      clear c1 gx hc hx
      obtain ⟨m, hm⟩ : ∃ m, Hid (m = cntB (xs.take k)) := ⟨_, rfl⟩
      rw [← hm.out] at HC hl ⊢
      rcases bool_ft x with hb | hb
      · rw [hb] at d1 HC
        go_wp2
        go_roundw
        case rel => exact ⟨k + 1, by omega, by go_num, by have h9 := HC.out; simp at h9; rw [h9], by first | trivial | rfl⟩
        case measure => simp [intOf]; omega
      · rw [hb] at d1 HC
        go_wp2
        go_roundw
        case rel => exact ⟨k + 1, by omega, by go_num, by have h9 := HC.out; simp at h9; rw [h9]; go_num, by first | trivial | rfl⟩
        case measure => simp [intOf]; omega
    · have hke : k = xs.length := by omega
      have HK := Lib.hid hke
      have i2 : ¬ (k : Int) < (xs.length : Int) := by omega
      clear hke
      go_wp2
      go_ret
      refine ⟨ret_int ?_, rfl⟩
      rw [HK.out, List.take_length]
theorem used_list (cs : List CellM) : listB (usedBits cs) cs.length = cs.map (·.used) := by
  apply List.ext_getElem?
  intro k
  by_cases hk : k < cs.length
  · simp [listB, usedBits, bitsOf_test, hk]
  · rw [List.getElem?_eq_none (by simp [listB]; omega), List.getElem?_eq_none (by simp; omega)]
theorem cnt_used (h : HeapM) : cntB (listB (usedBits h.cells) h.cells.length) = usedC h := by
  rw [used_list]
  unfold cntB usedC
  rw [List.filter_map, List.length_map]
  rfl
set_option maxHeartbeats 4000000 in
theorem usedCells_any (v : Value) (h : HeapM) (w : World) (hv : RH w v h) :
    Calls Try.prog 21 #[v] w fun e w' => e = .returned (.tuple #[.int .i64 (usedCellsM h).1, .int .i64 (usedCellsM h).2]) ∧ Below w.heap.size w w' := by
  obtain ⟨A, c, A', c', rfl⟩ := hv.parts
  go_enter Try.func21, Try.ntmps21
  go_wp2_with fail
  refine Calls.gen (fun W => Below w.heap.size w W ∧ RH W (.agg #[.slice A h.cells.length c, .slice A' h.roots.length c']) h ∧ Bx W w.heap.size [.slice A h.cells.length c, .slice A' h.roots.length c']) ⟨blw_, hv.below blw_, Bx.new w [.slice A h.cells.length c, .slice A' h.roots.length c'] 26⟩ ?_
  clear hv
  rintro W ⟨HB, HV, HH⟩
  (with_reducible refine (implHeapValid_any _ h _ HV).mono ?_); rintro e w1 ⟨rfl, hB⟩
  have HB := HB.trans (hB.mono HB.size)
  have zB := HB.size
  have HV := HV.below hB
  have HH := HH.below hB
  clear hB
  rcases bool_ft (validM h) with hva | hva
  · have hE : usedCellsM h = (-1, -1) := by unfold usedCellsM; rw [hva]; rfl
    rw [hva]
    go_wp2_with fail
    refine bodyPost_ret (v := .tuple #[.int .i64 (-1), .int .i64 (-1)]) (by simp [results, Try.results21, go_sem]) rfl ⟨by rw [hE], HB⟩
  have hE : Hid (usedCellsM h = ((usedC h : Int), (((reachM h).filter id).length : Int))) := by unfold Hid usedCellsM; rw [hva]; rfl
  have hE2 : Hid (reachableM h = reachM h) := by unfold Hid reachableM; rw [hva]; rfl
  have hsm := (valid_small hva).1
  have hu64 := used64 hva
  rw [hva]
  clear hva
  go_wp2_with fail
  refine wp_region_R (by kernel_rfl) (fun R wd hR hwd => ?_)
  have hBd : Below w1.heap.size w1 wd := by rw [hwd]; exact blw_
  have HB := HB.trans (hBd.mono HB.size)
  have HV := HV.below hBd
  have HH := HH.below hBd
  clear hwd hBd
  rw [hR]
  (refine wpAny_take (i := 2) (v := ?v9_2_u0) rfl (by kernel_rfl) (by kernel_rfl) (by kernel_rfl) (fun _ _ _ h => h) (Or.inl ⟨by kernel_rfl, ?h9_2_u0⟩) ?r9_2_u0; (case h9_2_u0 => (intro w9; go_simp; try with_reducible rfl)))
  rw [← hR]
  refine rel_at (fr := ?fr_0) hR (fun f W => Below w.heap.size w W ∧ RH W (.agg #[.slice A h.cells.length c, .slice A' h.roots.length c']) h ∧ Bx W w.heap.size [.slice A h.cells.length c, .slice A' h.roots.length c']) [(fun v W => v = .agg #[.slice A h.cells.length c, .slice A' h.roots.length c']), (fun v W => v = .int .u64 ((usedBits h.cells : Nat) : Int)), tt, (fun v W => v = .slice A h.cells.length c), (fun v W => v = .int .i64 (h.cells.length : Int)), (fun v W => ∃ S cs, v = .slice S h.cells.length cs ∧ RF fb W S (listB (usedBits h.cells) h.cells.length)), (fun v W => v = .int .i64 (usedC h : Int)), (fun v W => v = .agg #[.slice A h.cells.length c, .slice A' h.roots.length c']), (fun v W => ∃ S cs, v = .slice S (reachM h).length cs ∧ RF fb W S (reachM h)), (fun v W => v = .int .i64 (cntB (reachM h) : Int)), tt, tt] (fun W W' => Below W.heap.size W W') [(0, []), (1, [0]), (3, []), (4, [3]), (5, [1, 0, 4, 3]), (6, [5, 1, 0, 4, 3]), (7, []), (8, [7, 6, 5, 1, 0, 4, 3]), (9, [8, 7, 6, 5, 1, 0, 4, 3]), (10, [0, 1, 3, 4, 5, 6, 7, 8, 9]), (11, [0, 1, 3, 4, 5, 6, 7, 8, 9])] [(7, 0), (8, 1), (10, 3), (11, 4), (12, 5), (13, 6), (14, 7), (15, 8), (16, 9)] [0, 1, 3, 4, 5, 6, 7, 8, 9] #[true, true, true, true, true, true, true, true, true, true, false, false] 11 2 (by kernel_rfl) (by kernel_rfl) ?hfr_0 ?h0_0 ?mono_0 ?steps_0 ?_
  case hfr_0 => intro x; (simp [frOf, fill, Act.put, List.lookup]; with_reducible rfl)
  case h0_0 => exact ⟨HB, HV, HH⟩
  case mono_0 => exact (Pm.cons (fun _ _ _ _ h => h) (Pm.cons (fun _ _ _ _ h => h) (Pm.cons (fun _ _ _ _ h => h) (Pm.cons (fun _ _ _ _ h => h) (Pm.cons (fun _ _ _ _ h => h) (Pm.cons (fun _ _ _ hG ⟨S, cs, e, h9⟩ => ⟨S, cs, e, h9.below hG⟩) (Pm.cons (fun _ _ _ _ h => h) (Pm.cons (fun _ _ _ _ h => h) (Pm.cons (fun _ _ _ hG ⟨S, cs, e, h9⟩ => ⟨S, cs, e, h9.below hG⟩) (Pm.cons (fun _ _ _ _ h => h) (Pm.cons (fun _ _ _ _ h => h) (Pm.cons (fun _ _ _ _ h => h) Pm.nil))))))))))))
  case steps_0 =>
    refine Steps.cons (RStep.of rfl fun x W f hI hD K9 hK => ?_) ?_
    · clear hD
      have c0 := hI.2.2.c 0 _ rfl
      have c1 := hI.2.2.c 1 _ rfl
      go_simp
      exact hK (.agg #[.slice A h.cells.length c, .slice A' h.roots.length c']) _ _ (by kernel_rfl) (Below.refl _ _) (hI) rfl
    refine Steps.cons (RStep.of rfl fun x W f hI hD K9 hK => ?_) ?_
    · have e0 : x 0 = .agg #[.slice A h.cells.length c, .slice A' h.roots.length c'] := hD 0 (by decide)
      clear hD
      simp only [e0] at hK ⊢
      go_wp2_with fail
      (with_reducible refine (usedSet_any _ h _ hI.2.1 (by omega)).mono ?_)
      rintro e w6 ⟨rfl, hB⟩
      exact hK _ _ _ (by kernel_rfl) hB ⟨hI.1.trans (hB.mono hI.1.size), hI.2.1.below hB, hI.2.2.below hB⟩ rfl
    refine Steps.cons (RStep.of rfl fun x W f hI hD K9 hK => ?_) ?_
    · clear hD
      have c0 := hI.2.2.c 0 _ rfl
      go_simp
      exact hK (.slice A h.cells.length c) _ _ (by kernel_rfl) (Below.refl _ _) (hI) rfl
    refine Steps.cons (RStep.of rfl fun x W f hI hD K9 hK => ?_) ?_
    · have e3 : x 3 = .slice A h.cells.length c := hD 3 (by decide)
      clear hD
      simp only [e3] at hK ⊢
      go_simp
      exact hK (.int .i64 (h.cells.length : Int)) _ _ (by kernel_rfl) (Below.refl _ _) (hI) rfl
    refine Steps.cons (RStep.of rfl fun x W f hI hD K9 hK => ?_) ?_
    · have e1 : x 1 = .int .u64 ((usedBits h.cells : Nat) : Int) := hD 1 (by decide)
      have e4 : x 4 = .int .i64 (h.cells.length : Int) := hD 4 (by decide)
      clear hD
      simp only [e1, e4] at hK ⊢
      go_wp2_with fail
      (with_reducible refine (list_any (usedBits h.cells) h.cells.length _ hu64 (by omega)).mono ?_)
      rintro e w6 ⟨rfl, hO, hB⟩
      exact hK (.slice (some ⟨W.heap.size, 0, none⟩) h.cells.length h.cells.length) _ _ (by kernel_rfl) hB ⟨hI.1.trans (hB.mono hI.1.size), hI.2.1.below hB, hI.2.2.below hB⟩ ⟨_, _, rfl, hO.rf⟩
    refine Steps.cons (RStep.of rfl fun x W f hI hD K9 hK => ?_) ?_
    · have h5 : (fun v W => ∃ S cs, v = .slice S h.cells.length cs ∧ RF fb W S (listB (usedBits h.cells) h.cells.length)) (x 5) W := hD 5 (by decide)
      clear hD
      obtain ⟨S, cs, e5, h5⟩ := h5
      simp only [e5] at hK ⊢
      have hl9 : (listB (usedBits h.cells) h.cells.length).length = h.cells.length := listB_len _ _
      go_wp2_with fail
      have h8 := count_any S (listB (usedBits h.cells) h.cells.length) cs W h5 (by omega)
      rw [hl9] at h8
      (with_reducible refine h8.mono ?_)
      rintro e w6 ⟨rfl, rfl⟩
      rw [cnt_used]
      exact hK _ _ _ (by kernel_rfl) (Below.refl _ _) hI rfl
    refine Steps.cons (RStep.of rfl fun x W f hI hD K9 hK => ?_) ?_
    · clear hD
      have c0 := hI.2.2.c 0 _ rfl
      have c1 := hI.2.2.c 1 _ rfl
      go_simp
      exact hK (.agg #[.slice A h.cells.length c, .slice A' h.roots.length c']) _ _ (by kernel_rfl) (Below.refl _ _) (hI) rfl
    refine Steps.cons (RStep.of rfl fun x W f hI hD K9 hK => ?_) ?_
    · have e7 : x 7 = .agg #[.slice A h.cells.length c, .slice A' h.roots.length c'] := hD 7 (by decide)
      have e6 : x 6 = .int .i64 (usedC h : Int) := hD 6 (by decide)
      clear hD
      simp only [e7, e6] at hK ⊢
      go_wp2_with fail
      (with_reducible refine (implReachable_any _ h _ hI.2.1).mono ?_)
      rw [hE2.out]
      rintro e w6 ⟨S, cs, rfl, hO, -, hB⟩
      exact hK (.slice S (reachM h).length cs) _ _ (by kernel_rfl) hB ⟨hI.1.trans (hB.mono hI.1.size), hI.2.1.below hB, hI.2.2.below hB⟩ ⟨_, _, rfl, hO.rf⟩
    refine Steps.cons (RStep.of rfl fun x W f hI hD K9 hK => ?_) ?_
    · have h8 : (fun v W => ∃ S cs, v = .slice S (reachM h).length cs ∧ RF fb W S (reachM h)) (x 8) W := hD 8 (by decide)
      clear hD
      obtain ⟨S, cs, e8, h8⟩ := h8
      simp only [e8] at hK ⊢
      go_wp2_with fail
      (with_reducible refine (count_any S (reachM h) cs W h8 (by rw [reachM_len]; omega)).mono ?_)
      rintro e w6 ⟨rfl, rfl⟩
      exact hK _ _ _ (by kernel_rfl) (Below.refl _ _) hI rfl
    exact Steps.nil
  intro x W hI hV
  have e0 : x 0 = .agg #[.slice A h.cells.length c, .slice A' h.roots.length c'] := hV 0 (by decide)
  have e1 : x 1 = .int .u64 ((usedBits h.cells : Nat) : Int) := hV 1 (by decide)
  have e3 : x 3 = .slice A h.cells.length c := hV 3 (by decide)
  have e4 : x 4 = .int .i64 (h.cells.length : Int) := hV 4 (by decide)
  have h5 : (fun v W => ∃ S cs, v = .slice S h.cells.length cs ∧ RF fb W S (listB (usedBits h.cells) h.cells.length)) (x 5) W := hV 5 (by decide)
  have e6 : x 6 = .int .i64 (usedC h : Int) := hV 6 (by decide)
  have e7 : x 7 = .agg #[.slice A h.cells.length c, .slice A' h.roots.length c'] := hV 7 (by decide)
  have h8 : (fun v W => ∃ S cs, v = .slice S (reachM h).length cs ∧ RF fb W S (reachM h)) (x 8) W := hV 8 (by decide)
  have e9 : x 9 = .int .i64 (cntB (reachM h) : Int) := hV 9 (by decide)
  clear hV
  simp only [e0, e1, e3, e4, e6, e7, e9]
  clear h5 h8
  rw [hR]
  (refine wpAny_take (i := 10) (v := ?v8_u1) rfl (by kernel_rfl) (by kernel_rfl) (by kernel_rfl) (fun _ _ _ h => h) (Or.inl ⟨by kernel_rfl, ?h8_u1⟩) ?r8_u1; (case h8_u1 => (intro w9; go_simp; try with_reducible rfl)))
  (refine wpAny_take (i := 11) (v := ?v8_u2) rfl (by kernel_rfl) (by kernel_rfl) (by kernel_rfl) (fun _ _ _ h => h) (Or.inl ⟨by kernel_rfl, ?h8_u2⟩) ?r8_u2; (case h8_u2 => (intro w9; go_simp; try with_reducible rfl)))
  rw [← hR]
  refine R_norm (a' := ?a8_u3) ?n8_u3 ?_
  case n8_u3 => (simp [Act.put]; with_reducible rfl)
  rw [hR]
  refine wpAny_done (by kernel_rfl) ?_ _
  have hE3 := hE.out
  go_wp2_with fail
  refine bodyPost_ret (v := .tuple #[.int .i64 (usedC h : Int), .int .i64 (cntB (reachM h) : Int)]) (by simp [results, Try.results21, go_sem]) rfl ⟨by rw [hE3]; rfl, hI.1⟩
end Go.Proofs.Ytkikeanpbffpkaa

/- The program's leaked cells. -/
namespace Go.Proofs.Ytkikeanpbffpkaa
open Go.RowKit
set_option maxRecDepth 100000
set_option linter.unusedSimpArgs false
set_option linter.unusedVariables false
noncomputable def leakN (h : HeapM) (j : Nat) : List Int := ((List.range j).filter (leakB h (reachM h))).map fun k : Nat => (k : Int)
theorem leakN_succ (h : HeapM) (j : Nat) : leakN h (j + 1) = if leakB h (reachM h) j then leakN h j ++ [(j : Int)] else leakN h j := by
  unfold leakN
  rw [List.range_succ, List.filter_append, List.map_append]
  rcases bool_ft (leakB h (reachM h) j) with e | e
  all_goals simp [e]
theorem leakN_len (h : HeapM) (j : Nat) : (leakN h j).length ≤ j := by
  unfold leakN; rw [List.length_map]; exact Nat.le_trans (List.length_filter_le _ _) (by simp)
theorem leakM_is {h : HeapM} (hv : validM h = true) : leakM h = leakN h h.cells.length := by unfold leakM; rw [if_pos hv]; rfl
theorem leak_bit {h : HeapM} (hv : validM h = true) {j : Nat} (hj : j < h.cells.length) : (andN (usedBits h.cells) (rchN h)).testBit j = leakB h (reachM h) j := by
  have h1 := rchN_list hv
  have h2 : (reachM h).getD j false = (rchN h).testBit j := by rw [← h1]; simp [listB, List.getD, hj]
  rw [andN_test (used64 hv) (rchN_lt hv), usedBits_test]
  unfold leakB
  rw [h2]
/-- A slice that reads as a list of numbers. -/
def LkR (w : World) (v : Value) (l : List Int) : Prop := ∃ S c, v = .slice S l.length c ∧ RF fi w S l
theorem LkR.below {w w' : World} {v : Value} {l : List Int} (h : LkR w v l) (hB : Below w.heap.size w w') : LkR w' v l := by
  obtain ⟨S, c, e, h⟩ := h
  exact ⟨S, c, e, h.below hB⟩
set_option maxHeartbeats 4000000 in
theorem leakedCells_any (v : Value) (h : HeapM) (w : World) (hv : RH w v h) :
    Calls Try.prog 18 #[v] w fun e w' => ∃ v', e = .returned v' ∧ LkR w' v' (leakM h) ∧ Below w.heap.size w w' := by
  obtain ⟨A, c, A', c', rfl⟩ := hv.parts
  go_enter Try.func18, Try.ntmps18
  go_wp2_with fail
  refine Calls.gen (Stb (fun W => RH W (.agg #[.slice A h.cells.length c, .slice A' h.roots.length c']) h ∧ Bx W w.heap.size [.slice A h.cells.length c, .slice A' h.roots.length c'] ∧ Below w.heap.size w W)) (Stb.and (Stb.rh (hv.below blw_)) (Stb.and (Stb.bx (Bx.new w [.slice A h.cells.length c, .slice A' h.roots.length c'] 26)) (Stb.here blw_))) ?_
  clear hv
  rintro W HI
  (with_reducible refine (implHeapValid_any _ h _ HI.now.1).mono ?_); rintro e w1 ⟨rfl, hB⟩
  replace HI := HI.step hB
  clear hB
  rcases bool_ft (validM h) with hva | hva
  · have hE : leakM h = [] := by unfold leakM; rw [hva]; rfl
    rw [hva]
    have HB := HI.now.2.2
    have zB := HB.size
    clear HI
    go_wp2_with fail
    go_ret
    exact ⟨_, rfl, ⟨none, 0, by rw [hE]; rfl, by rw [hE]; exact fun i hi => by simp at hi⟩, blw_⟩
  have HVA := Lib.hid hva
  have hsm := (valid_small hva).1
  have hu64 := used64 hva
  have hr64 := rchN_lt hva
  rw [hva]
  clear hva
  obtain ⟨rn, hrn⟩ : ∃ rn, Hid (rn = andN (usedBits h.cells) (rchN h)) := ⟨_, rfl⟩
  have HN64 : Hid (rn < 18446744073709551616) := by rw [hrn.out]; exact andN_lt hu64
  have HE2 : Hid (bits .andNot .u64 ((usedBits h.cells : Nat) : Int) ((rchN h : Nat) : Int) = ((rn : Nat) : Int)) := by rw [hrn.out]; exact u64_andNot_nat _ _ hu64 hr64
  have HLB : Hid (∀ j, j < h.cells.length → rn.testBit j = leakB h (reachM h) j) := by rw [hrn.out]; exact fun j hj => leak_bit HVA.out hj
  clear hrn hu64 hr64
  go_wp2_with fail
  refine Code.gen (Stb (fun W => RH W (.agg #[.slice A h.cells.length c, .slice A' h.roots.length c']) h ∧ Bx W w.heap.size [.slice A h.cells.length c, .slice A' h.roots.length c'] ∧ Below w.heap.size w W)) (HI.step blw_) ?_
  clear HI
  rintro W HI
  refine wp_region_R (by kernel_rfl) (fun R wd hR hwd => ?_)
  have hBd : Below W.heap.size W wd := by rw [hwd]; exact blw_
  replace HI := HI.step hBd
  clear hwd hBd
  refine rel_at (fr := ?fr_0) hR (fun f W => Stb (fun W => RH W (.agg #[.slice A h.cells.length c, .slice A' h.roots.length c']) h ∧ Bx W w.heap.size [.slice A h.cells.length c, .slice A' h.roots.length c'] ∧ Below w.heap.size w W) W) [(fun v W => v = (.agg #[.slice A h.cells.length c, .slice A' h.roots.length c'])), (fun v W => v = .int .u64 ((usedBits h.cells : Nat) : Int)), (fun v W => v = (.agg #[.slice A h.cells.length c, .slice A' h.roots.length c'])), (fun v W => v = .int .u64 ((rchN h : Nat) : Int)), (fun v W => v = .int .u64 ((rn : Nat) : Int)), (fun v W => v = .int .u64 ((rn : Nat) : Int))] (fun W W' => Below W.heap.size W W') [(0, []), (1, [0]), (2, []), (3, [2]), (4, [1, 0, 3, 2]), (5, [4, 1, 0, 3, 2])] [(9, 0), (10, 1), (11, 2), (12, 3), (13, 4), (3, 5)] [0, 1, 2, 3, 4, 5] #[true, true, true, true, true, true] 6 0 (by kernel_rfl) (by kernel_rfl) ?hfr_0 ?h0_0 ?mono_0 ?steps_0 ?_
  case hfr_0 => intro x; (simp [frOf, fill, Act.put, List.lookup]; with_reducible rfl)
  case h0_0 => exact HI
  case mono_0 => exact (Pm.cons (fun _ _ _ _ h => h) (Pm.cons (fun _ _ _ _ h => h) (Pm.cons (fun _ _ _ _ h => h) (Pm.cons (fun _ _ _ _ h => h) (Pm.cons (fun _ _ _ _ h => h) (Pm.cons (fun _ _ _ _ h => h) Pm.nil))))))
  case steps_0 =>
    refine Steps.cons (RStep.of rfl fun x W f hI hD K9 hK => ?_) ?_
    · clear hD
      have c0 := hI.now.2.1.c 0 _ rfl
      have c1 := hI.now.2.1.c 1 _ rfl
      go_simp
      exact hK ((.agg #[.slice A h.cells.length c, .slice A' h.roots.length c'])) _ _ (by kernel_rfl) (Below.refl _ _) (hI) rfl
    refine Steps.cons (RStep.of rfl fun x W f hI hD K9 hK => ?_) ?_
    · have e0 : x 0 = (.agg #[.slice A h.cells.length c, .slice A' h.roots.length c']) := hD 0 (by decide)
      clear hD
      simp only [e0] at hK ⊢
      go_wp2_with fail
      (with_reducible refine (usedSet_any _ h _ hI.now.1 (by omega)).mono ?_)
      rintro e w6 ⟨rfl, hB⟩
      exact hK _ _ _ (by kernel_rfl) hB (hI.step hB) rfl
    refine Steps.cons (RStep.of rfl fun x W f hI hD K9 hK => ?_) ?_
    · clear hD
      have c0 := hI.now.2.1.c 0 _ rfl
      have c1 := hI.now.2.1.c 1 _ rfl
      go_simp
      exact hK ((.agg #[.slice A h.cells.length c, .slice A' h.roots.length c'])) _ _ (by kernel_rfl) (Below.refl _ _) (hI) rfl
    refine Steps.cons (RStep.of rfl fun x W f hI hD K9 hK => ?_) ?_
    · have e2 : x 2 = (.agg #[.slice A h.cells.length c, .slice A' h.roots.length c']) := hD 2 (by decide)
      clear hD
      simp only [e2] at hK ⊢
      go_wp2_with fail
      (with_reducible refine (reachable_any _ h _ hI.now.1 HVA.out).mono ?_)
      rintro e w6 ⟨rfl, hB⟩
      exact hK _ _ _ (by kernel_rfl) hB (hI.step hB) rfl
    refine Steps.cons (RStep.of rfl fun x W f hI hD K9 hK => ?_) ?_
    · have e1 : x 1 = .int .u64 ((usedBits h.cells : Nat) : Int) := hD 1 (by decide)
      have e3 : x 3 = .int .u64 ((rchN h : Nat) : Int) := hD 3 (by decide)
      clear hD
      have e2 := HE2.out
      simp only [e1, e3] at hK ⊢
      go_simp
      exact hK (.int .u64 ((rn : Nat) : Int)) _ _ (by kernel_rfl) (Below.refl _ _) (hI) rfl
    refine Steps.cons (RStep.of rfl fun x W f hI hD K9 hK => ?_) ?_
    · have e4 : x 4 = .int .u64 ((rn : Nat) : Int) := hD 4 (by decide)
      clear hD
      simp only [e4] at hK ⊢
      go_simp
      exact hK (.int .u64 ((rn : Nat) : Int)) _ _ (by kernel_rfl) (Below.refl _ _) (hI) rfl
    exact Steps.nil
  intro x W hI hV
  have e0 : x 0 = (.agg #[.slice A h.cells.length c, .slice A' h.roots.length c']) := hV 0 (by decide)
  have e1 : x 1 = .int .u64 ((usedBits h.cells : Nat) : Int) := hV 1 (by decide)
  have e2 : x 2 = (.agg #[.slice A h.cells.length c, .slice A' h.roots.length c']) := hV 2 (by decide)
  have e3 : x 3 = .int .u64 ((rchN h : Nat) : Int) := hV 3 (by decide)
  have e4 : x 4 = .int .u64 ((rn : Nat) : Int) := hV 4 (by decide)
  have e5 : x 5 = .int .u64 ((rn : Nat) : Int) := hV 5 (by decide)
  clear hV
  simp only [e0, e1, e2, e3, e4, e5]
  rw [hR]
  refine wpAny_done (by kernel_rfl) ?_ _
  clear hR HE2 HI
  have HLM : Hid (leakM h = leakN h h.cells.length) := leakM_is HVA.out
  have hN64 := HN64.out
  clear HN64
  have hX := hI.now.2.1
  have hYB := hI.now.2.2
  have kb0 := hX.c 0 _ rfl
  have hlt0 := hX.lt
  clear hI hX
  have hW0 : Below w.heap.size w (W.alloc (.cells #[] 3 (0, 0))) := blw_
  have hz0 : (W.alloc (.cells #[] 3 (0, 0))).heap.size = W.heap.size + 1 := by simp
  have HK0 : Hid (OF 3 fi (W.alloc (.cells #[] 3 (0, 0))) (some ⟨W.heap.size, 0, none⟩) 0 ([] : List Int)) := OF.new0 (heap_alloc_at _ _ _ (by simp))
  have kb : (W.alloc (.cells #[] 3 (0, 0))).cell? ⟨w.heap.size, 0, none⟩ = some (.slice A h.cells.length c) := by simp [go_sem, hlt0, kb0]
  have hS0 : w.heap.size < W.heap.size := hlt0
  go_wp2
  generalize (W.alloc (.cells #[] 3 (0, 0))) = W0 at *
  generalize W.heap.size = b0 at *
  clear kb0 hYB hlt0
  go_loopw [4, 18] (fun s3 i wr => ∃ (j : Nat) (S : Option Addr) (cS : Nat), j ≤ h.cells.length ∧ i = .int .i64 j ∧ s3 = .slice S (leakN h j).length cS ∧ Hid (OF 3 fi wr S cS (leakN h j)) ∧ Hid (∀ b ∈ blk S, w.heap.size + 1 ≤ b) ∧ Below (w.heap.size + 1) W0 wr) (fun _ i _ => h.cells.length - (intOf i).toNat)
  case atStart => exact ⟨0, some ⟨b0, 0, none⟩, 0, by omega, rfl, by simp [leakN], by unfold Hid; simpa [leakN] using HK0.out, fun b hb => (by have := mem_blk_some hb; omega), Below.refl _ _⟩
  case round =>
    clear HK0 kb
    obtain ⟨j, S, cS, hj, rfl, rfl, HK, HSL, Y⟩ := hrel
    have sY := Y.size
    have hsl := leakN_len h j
    by_cases hlt : j < h.cells.length
    · have HXJ : Hid (leakB h (reachM h) j = rn.testBit j) := by unfold Hid; rw [HLB.out j hlt]
      have HS := Lib.hid (leakN_succ h j)
      have hj64 : (j : Int) < 64 := by omega
      rcases bool_ft (rn.testBit j) with hx | hx
      all_goals
        have HX := Lib.hid hx
        clear hx
        go_wp2_with fail
        (with_reducible refine (has_any rn (j : Int) _ hj64 hN64).mono ?_)
        rw [hasB_nat, HX.out]
        rintro e w3 ⟨rfl, rfl⟩
      · have HN : Hid (leakN h (j + 1) = leakN h j) := by unfold Hid; rw [HS.out, HXJ.out, HX.out, if_neg (by simp)]
        go_wp2
        go_roundw
        case rel => exact ⟨j + 1, S, cS, by omega, by go_num, by rw [HN.out], by unfold Hid; rw [HN.out]; exact HK.out, HSL, Y⟩
        case measure => simp [intOf]; omega
      · have HN : Hid (leakN h (j + 1) = leakN h j ++ [(j : Int)]) := by unfold Hid; rw [HS.out, HXJ.out, HX.out, if_pos rfl]
        go_wp2_with (at_builtin; (refine wpList_appi rfl (.tmp 24) (.tmp 26) rfl (leakN h j) rfl rfl (HK.out.below blw_) (RF.singR (x := (j : Int)) (by simp [go_sem, fi])) (by simp; omega) ?_); intro S2 cS2 w3 hO3 hOn3 hg3; have HB3 : Hid (Below (w.heap.size + 1) W0 w3) := Below.trans blw_ (hOn3.below (by simp; omega) (fun b9 hb9 => HSL.out b9 hb9)); have HSL3 : Hid (∀ b9 ∈ blk S2, w.heap.size + 1 ≤ b9) := (fun b9 hb9 => by rcases hg3 b9 hb9 with h9 | h9; exact HSL.out b9 h9; (try simp at h9); omega); have HK3 := Lib.hid hO3; clear hO3 hOn3 hg3)
        go_roundw
        case rel => exact ⟨j + 1, S2, cS2, by omega, by go_num, by rw [HN.out]; simp, by unfold Hid; rw [HN.out]; exact HK3.out, HSL3, HB3.out⟩
        case measure => simp [intOf]; omega
    · have hje : j = h.cells.length := by omega
      have HJ := Lib.hid hje
      have hge : ¬ (j : Int) < (h.cells.length : Int) := by omega
      clear hje
      go_wp2
      go_ret
      exact ⟨_, rfl, ⟨S, cS, by rw [HLM.out, ← HJ.out]; rfl, by rw [HLM.out, ← HJ.out]; exact HK.out.rf⟩, hW0.trans (Y.mono (by omega))⟩
end Go.Proofs.Ytkikeanpbffpkaa
