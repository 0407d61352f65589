/- Texts of one family, one behind the other: Sam, UsedC. -/
import Derived.Test.YtmlgndeihfpfgaaChecked
import Derived.Deep.QuietTactic
import Derived.BigQuiet
import Derived.Test.YtmlgndeihfpfgaaGrSame
import Derived.Test.YtmlgndeihfpfgaaGrCtx
import Derived.IntWalk
import Derived.Test.YtmlgndeihfpfgaaCloD
import Derived.Test.YtmlgndeihfpfgaaGrIso
/- The laws' comparisons of two equal values. -/
namespace Go.Proofs.Ytmlgndeihfpfgaa
open Go.RowKit
set_option maxRecDepth 100000
set_option linter.unusedSimpArgs false
set_option linter.unusedVariables false
set_option maxHeartbeats 4000000 in
theorem sameAged_eq (v u : Value) (p : TwoM) (w : World) (hv : RTw w v p) (hu : RTw w u p) :
    Calls Try.prog 20 #[v, u] w fun e w' => e = .returned (.bool true) ∧ Below w.heap.size w w' := by
  obtain ⟨A, c, A', c', A2, c2, A3, c3, rfl⟩ := hv.parts
  obtain ⟨B, d, B', d', B2, d2, B3, d3, rfl⟩ := hu.parts
  go_enter Try.func20, Try.ntmps20
  go_wp2_with fail
  refine Calls.gen (Stb (fun W => Bx W w.heap.size [.slice A p.store.cells.length c, .slice A' p.store.roots.length c', .slice A2 p.x.length c2, .slice A3 p.y.length c3] ∧ Bx W (w.heap.size + 1) [.slice B p.store.cells.length d, .slice B' p.store.roots.length d', .slice B2 p.x.length d2, .slice B3 p.y.length d3] ∧ RTw W (.agg #[.slice A p.store.cells.length c, .slice A' p.store.roots.length c', .slice A2 p.x.length c2, .slice A3 p.y.length c3]) p ∧ RTw W (.agg #[.slice B p.store.cells.length d, .slice B' p.store.roots.length d', .slice B2 p.x.length d2, .slice B3 p.y.length d3]) p ∧ Below w.heap.size w W)) (Stb.and (Stb.bx ((Bx.new w [.slice A p.store.cells.length c, .slice A' p.store.roots.length c', .slice A2 p.x.length c2, .slice A3 p.y.length c3] 45).below blw_)) (Stb.and (Stb.bx (by simpa using Bx.new (w.alloc (.cells #[.slice A p.store.cells.length c, .slice A' p.store.roots.length c', .slice A2 p.x.length c2, .slice A3 p.y.length c3] 45)) [.slice B p.store.cells.length d, .slice B' p.store.roots.length d', .slice B2 p.x.length d2, .slice B3 p.y.length d3] 45)) (Stb.and (Stb.rtw (hv.below blw_)) (Stb.and (Stb.rtw (hu.below blw_)) (Stb.here blw_))))) ?_
  clear hv hu
  rintro W HI
  (with_reducible refine (sameHeap_any _ _ p.store p.store _ HI.now.2.2.1.st HI.now.2.2.2.1.st).mono ?_); rw [eqB_of (rfl : p.store = p.store)]; rintro e w2 ⟨rfl, hB⟩
  replace HI := HI.step hB
  clear hB
  have cc2 := HI.now.1.c 2 _ rfl
  have dd2 := HI.now.2.1.c 2 _ rfl
  have z0 := HI.now.1.lt
  have z1 := HI.now.2.1.lt
  go_wp2_with fail
  refine Calls.gen (Stb (fun W => Bx W w.heap.size [.slice A p.store.cells.length c, .slice A' p.store.roots.length c', .slice A2 p.x.length c2, .slice A3 p.y.length c3] ∧ Bx W (w.heap.size + 1) [.slice B p.store.cells.length d, .slice B' p.store.roots.length d', .slice B2 p.x.length d2, .slice B3 p.y.length d3] ∧ RTw W (.agg #[.slice A p.store.cells.length c, .slice A' p.store.roots.length c', .slice A2 p.x.length c2, .slice A3 p.y.length c3]) p ∧ RTw W (.agg #[.slice B p.store.cells.length d, .slice B' p.store.roots.length d', .slice B2 p.x.length d2, .slice B3 p.y.length d3]) p ∧ Below w.heap.size w W)) (HI.step blw_) ?_
  clear HI cc2 dd2 z0 z1
  rintro W HI
  (with_reducible refine (sameFlags_any A2 B2 p.x p.x c2 d2 _ HI.now.2.2.1.fx HI.now.2.2.2.1.fx HI.now.2.2.1.lx HI.now.2.2.2.1.lx).mono ?_); rw [eqB_of (rfl : p.x = p.x)]; rintro e w2 ⟨rfl, n9, hw2⟩
  replace HI := HI.step (show Below W.heap.size W w2 from by rw [hw2]; exact Below.drewn (Below.refl _ _))
  clear hw2
  have cc3 := HI.now.1.c 3 _ rfl
  have dd3 := HI.now.2.1.c 3 _ rfl
  have z0 := HI.now.1.lt
  have z1 := HI.now.2.1.lt
  go_wp2_with fail
  refine Calls.gen (Stb (fun W => Bx W w.heap.size [.slice A p.store.cells.length c, .slice A' p.store.roots.length c', .slice A2 p.x.length c2, .slice A3 p.y.length c3] ∧ Bx W (w.heap.size + 1) [.slice B p.store.cells.length d, .slice B' p.store.roots.length d', .slice B2 p.x.length d2, .slice B3 p.y.length d3] ∧ RTw W (.agg #[.slice A p.store.cells.length c, .slice A' p.store.roots.length c', .slice A2 p.x.length c2, .slice A3 p.y.length c3]) p ∧ RTw W (.agg #[.slice B p.store.cells.length d, .slice B' p.store.roots.length d', .slice B2 p.x.length d2, .slice B3 p.y.length d3]) p ∧ Below w.heap.size w W)) (HI.step blw_) ?_
  clear HI cc3 dd3 z0 z1
  rintro W HI
  (with_reducible refine (sameFlags_any A3 B3 p.y p.y c3 d3 _ HI.now.2.2.1.fy HI.now.2.2.2.1.fy HI.now.2.2.1.ly HI.now.2.2.2.1.ly).mono ?_); rw [eqB_of (rfl : p.y = p.y)]; rintro e w2 ⟨rfl, n9, hw2⟩
  replace HI := HI.step (show Below W.heap.size W w2 from by rw [hw2]; exact Below.drewn (Below.refl _ _))
  clear hw2
  have HB := HI.now.2.2.2.2
  have zB := HB.size
  clear HI
  go_wp2_with fail
  go_ret
  exact ⟨rfl, blw_⟩
end Go.Proofs.Ytmlgndeihfpfgaa

/- How many cells are used, and how many can be reached. -/
namespace Go.Proofs.Ytmlgndeihfpfgaa
open Go.RowKit
set_option maxRecDepth 100000
set_option linter.unusedSimpArgs false
set_option linter.unusedVariables false
def cntB (l : List Bool) : Nat := (l.filter id).length
theorem cntB_snoc {l : List Bool} {k : Nat} {b : Bool} (h : l[k]? = some b) : cntB (l.take (k + 1)) = cntB (l.take k) + (if b then 1 else 0) := by
  have hk := (List.getElem?_eq_some_iff.1 h).1
  rw [List.take_add_one, h]
  cases b <;> simp [cntB]
theorem cntB_le (l : List Bool) : cntB l ≤ l.length := List.length_filter_le _ _
set_option maxHeartbeats 4000000 in
theorem count_any (A : Option Addr) (xs : List Bool) (c : Nat) (w : World) (hx : RF fb w A xs) (hn : xs.length ≤ 9223372036854775807) :
    Calls Try.prog 59 #[.slice A xs.length c] w fun e w' => e = .returned (.int .i64 (cntB xs : Int)) ∧ w = w' := by
  go_enter Try.func59, Try.ntmps59
  go_wp2
  go_loopw [3, 5, 8] (fun s3 s5 s8 wr => ∃ k : Nat, k ≤ xs.length ∧ s8 = .int .i64 (k : Int) ∧ s3 = .int .i64 (cntB (xs.take k) : Int) ∧ wr = w) (fun _ _ s8 _ => xs.length - (intOf s8).toNat)
  case atStart => exact ⟨0, by omega, rfl, rfl, rfl⟩
  case round =>
    obtain ⟨k, hk, rfl, rfl, rfl⟩ := hrel
    by_cases hlt : k < xs.length
    · obtain ⟨b, o, x, rfl, gx, c1, -⟩ := hx.at_ hlt
      have d1 : wr.cell? ⟨b, o + k, none⟩ = some (.bool x) := c1
      have i1 : (0 : Int) ≤ (k : Int) := by omega
      have i2 : (k : Int) < (xs.length : Int) := by omega
      have hc := cntB_snoc gx
      have hl : cntB (xs.take k) ≤ k := Nat.le_trans (cntB_le _) (by simp; omega)
      have HC := Lib.hid hc
      clear c1 gx hc hx
      obtain ⟨m, hm⟩ : ∃ m, Hid (m = cntB (xs.take k)) := ⟨_, rfl⟩
      rw [← hm.out] at HC hl ⊢
      rcases bool_ft x with hb | hb
      · rw [hb] at d1 HC
        go_wp2
        go_roundw
        case rel => exact ⟨k + 1, by omega, by go_num, by have h9 := HC.out; simp at h9; rw [h9], by first | trivial | rfl⟩
        case measure => simp [intOf]; omega
      · rw [hb] at d1 HC
        go_wp2
        go_roundw
        case rel => exact ⟨k + 1, by omega, by go_num, by have h9 := HC.out; simp at h9; rw [h9]; go_num, by first | trivial | rfl⟩
        case measure => simp [intOf]; omega
    · have hke : k = xs.length := by omega
      have HK := Lib.hid hke
      have i2 : ¬ (k : Int) < (xs.length : Int) := by omega
      clear hke
      go_wp2
      go_ret
      refine ⟨ret_int ?_, rfl⟩
      rw [HK.out, List.take_length]
theorem used_list (cs : List CellM) : listB (usedBits cs) cs.length = cs.map (·.used) := by
  apply List.ext_getElem?
  intro k
  by_cases hk : k < cs.length
  · simp [listB, usedBits, bitsOf_test, hk]
  · rw [List.getElem?_eq_none (by simp [listB]; omega), List.getElem?_eq_none (by simp; omega)]
theorem cnt_used (h : HeapM) : cntB (listB (usedBits h.cells) h.cells.length) = usedC h := by
  rw [used_list]
  unfold cntB usedC
  rw [List.filter_map, List.length_map]
  rfl
set_option maxHeartbeats 4000000 in
theorem usedCells_any (v : Value) (h : HeapM) (w : World) (hv : RH w v h) :
    Calls Try.prog 23 #[v] w fun e w' => e = .returned (.tuple #[.int .i64 (usedCellsM h).1, .int .i64 (usedCellsM h).2]) ∧ Below w.heap.size w w' := by
  obtain ⟨A, c, A', c', rfl⟩ := hv.parts
  go_enter Try.func23, Try.ntmps23
  go_wp2_with fail
  refine Calls.gen (fun W => Below w.heap.size w W ∧ RH W (.agg #[.slice A h.cells.length c, .slice A' h.roots.length c']) h ∧ Bx W w.heap.size [.slice A h.cells.length c, .slice A' h.roots.length c']) ⟨blw_, hv.below blw_, Bx.new w [.slice A h.cells.length c, .slice A' h.roots.length c'] 29⟩ ?_
  clear hv
  rintro W ⟨HB, HV, HH⟩
  (with_reducible refine (implHeapValid_any _ h _ HV).mono ?_); rintro e w1 ⟨rfl, hB⟩
  have HB := HB.trans (hB.mono HB.size)
  have zB := HB.size
  have HV := HV.below hB
  have HH := HH.below hB
  clear hB
  rcases bool_ft (validM h) with hva | hva
  · have hE : usedCellsM h = (-1, -1) := by unfold usedCellsM; rw [hva]; rfl
    rw [hva]
    go_wp2_with fail
    refine bodyPost_ret (v := .tuple #[.int .i64 (-1), .int .i64 (-1)]) (by simp [results, Try.results23, go_sem]) rfl ⟨by rw [hE], HB⟩
  have hE : Hid (usedCellsM h = ((usedC h : Int), (((reachM h).filter id).length : Int))) := by unfold Hid usedCellsM; rw [hva]; rfl
  have hE2 : Hid (reachableM h = reachM h) := by unfold Hid reachableM; rw [hva]; rfl
  have hsm := (valid_small hva).1
  have hu64 := used64 hva
  rw [hva]
  clear hva
  go_wp2_with fail
  refine wp_region_R (by kernel_rfl) (fun R wd hR hwd => ?_)
  have hBd : Below w1.heap.size w1 wd := by rw [hwd]; exact blw_
  have HB := HB.trans (hBd.mono HB.size)
  have HV := HV.below hBd
  have HH := HH.below hBd
  clear hwd hBd
  rw [hR]
  (refine wpAny_take (i := 2) (v := ?v9_2_u0) rfl (by kernel_rfl) (by kernel_rfl) (by kernel_rfl) (fun _ _ _ h => h) (Or.inl ⟨by kernel_rfl, ?h9_2_u0⟩) ?r9_2_u0; (case h9_2_u0 => (intro w9; go_simp; try with_reducible rfl)))
  rw [← hR]
  refine rel_at (fr := ?fr_0) hR (fun f W => Below w.heap.size w W ∧ RH W (.agg #[.slice A h.cells.length c, .slice A' h.roots.length c']) h ∧ Bx W w.heap.size [.slice A h.cells.length c, .slice A' h.roots.length c']) [(fun v W => v = .agg #[.slice A h.cells.length c, .slice A' h.roots.length c']), (fun v W => v = .int .u64 ((usedBits h.cells : Nat) : Int)), tt, (fun v W => v = .slice A h.cells.length c), (fun v W => v = .int .i64 (h.cells.length : Int)), (fun v W => ∃ S cs, v = .slice S h.cells.length cs ∧ RF fb W S (listB (usedBits h.cells) h.cells.length)), (fun v W => v = .int .i64 (usedC h : Int)), (fun v W => v = .agg #[.slice A h.cells.length c, .slice A' h.roots.length c']), (fun v W => ∃ S cs, v = .slice S (reachM h).length cs ∧ RF fb W S (reachM h)), (fun v W => v = .int .i64 (cntB (reachM h) : Int)), tt, tt] (fun W W' => Below W.heap.size W W') [(0, []), (1, [0]), (3, []), (4, [3]), (5, [1, 0, 4, 3]), (6, [5, 1, 0, 4, 3]), (7, []), (8, [7, 6, 5, 1, 0, 4, 3]), (9, [8, 7, 6, 5, 1, 0, 4, 3]), (10, [0, 1, 3, 4, 5, 6, 7, 8, 9]), (11, [0, 1, 3, 4, 5, 6, 7, 8, 9])] [(7, 0), (8, 1), (10, 3), (11, 4), (12, 5), (13, 6), (14, 7), (15, 8), (16, 9)] [0, 1, 3, 4, 5, 6, 7, 8, 9] #[true, true, true, true, true, true, true, true, true, true, false, false] 11 2 (by kernel_rfl) (by kernel_rfl) ?hfr_0 ?h0_0 ?mono_0 ?steps_0 ?_
  case hfr_0 => intro x; (simp [frOf, fill, Act.put, List.lookup]; with_reducible rfl)
  case h0_0 => exact ⟨HB, HV, HH⟩
  case mono_0 => exact (Pm.cons (fun _ _ _ _ h => h) (Pm.cons (fun _ _ _ _ h => h) (Pm.cons (fun _ _ _ _ h => h) (Pm.cons (fun _ _ _ _ h => h) (Pm.cons (fun _ _ _ _ h => h) (Pm.cons (fun _ _ _ hG ⟨S, cs, e, h9⟩ => ⟨S, cs, e, h9.below hG⟩) (Pm.cons (fun _ _ _ _ h => h) (Pm.cons (fun _ _ _ _ h => h) (Pm.cons (fun _ _ _ hG ⟨S, cs, e, h9⟩ => ⟨S, cs, e, h9.below hG⟩) (Pm.cons (fun _ _ _ _ h => h) (Pm.cons (fun _ _ _ _ h => h) (Pm.cons (fun _ _ _ _ h => h) Pm.nil))))))))))))
  case steps_0 =>
    refine Steps.cons (RStep.of rfl fun x W f hI hD K9 hK => ?_) ?_
    · clear hD
      have c0 := hI.2.2.c 0 _ rfl
      have c1 := hI.2.2.c 1 _ rfl
      go_simp
      exact hK (.agg #[.slice A h.cells.length c, .slice A' h.roots.length c']) _ _ (by kernel_rfl) (Below.refl _ _) (hI) rfl
    refine Steps.cons (RStep.of rfl fun x W f hI hD K9 hK => ?_) ?_
    · have e0 : x 0 = .agg #[.slice A h.cells.length c, .slice A' h.roots.length c'] := hD 0 (by decide)
      clear hD
      simp only [e0] at hK ⊢
      go_wp2_with fail
      (with_reducible refine (usedSet_any _ h _ hI.2.1 (by omega)).mono ?_)
      rintro e w6 ⟨rfl, hB⟩
      exact hK _ _ _ (by kernel_rfl) hB ⟨hI.1.trans (hB.mono hI.1.size), hI.2.1.below hB, hI.2.2.below hB⟩ rfl
    refine Steps.cons (RStep.of rfl fun x W f hI hD K9 hK => ?_) ?_
    · clear hD
      have c0 := hI.2.2.c 0 _ rfl
      go_simp
      exact hK (.slice A h.cells.length c) _ _ (by kernel_rfl) (Below.refl _ _) (hI) rfl
    refine Steps.cons (RStep.of rfl fun x W f hI hD K9 hK => ?_) ?_
    · have e3 : x 3 = .slice A h.cells.length c := hD 3 (by decide)
      clear hD
      simp only [e3] at hK ⊢
      go_simp
      exact hK (.int .i64 (h.cells.length : Int)) _ _ (by kernel_rfl) (Below.refl _ _) (hI) rfl
    refine Steps.cons (RStep.of rfl fun x W f hI hD K9 hK => ?_) ?_
    · have e1 : x 1 = .int .u64 ((usedBits h.cells : Nat) : Int) := hD 1 (by decide)
      have e4 : x 4 = .int .i64 (h.cells.length : Int) := hD 4 (by decide)
      clear hD
      simp only [e1, e4] at hK ⊢
      go_wp2_with fail
      (with_reducible refine (list_any (usedBits h.cells) h.cells.length _ hu64 (by omega)).mono ?_)
      rintro e w6 ⟨rfl, hO, hB⟩
      exact hK (.slice (some ⟨W.heap.size, 0, none⟩) h.cells.length h.cells.length) _ _ (by kernel_rfl) hB ⟨hI.1.trans (hB.mono hI.1.size), hI.2.1.below hB, hI.2.2.below hB⟩ ⟨_, _, rfl, hO.rf⟩
    refine Steps.cons (RStep.of rfl fun x W f hI hD K9 hK => ?_) ?_
    · have h5 : (fun v W => ∃ S cs, v = .slice S h.cells.length cs ∧ RF fb W S (listB (usedBits h.cells) h.cells.length)) (x 5) W := hD 5 (by decide)
      clear hD
      obtain ⟨S, cs, e5, h5⟩ := h5
      simp only [e5] at hK ⊢
      have hl9 : (listB (usedBits h.cells) h.cells.length).length = h.cells.length := listB_len _ _
      go_wp2_with fail
      have h8 := count_any S (listB (usedBits h.cells) h.cells.length) cs W h5 (by omega)
      rw [hl9] at h8
      (with_reducible refine h8.mono ?_)
      rintro e w6 ⟨rfl, rfl⟩
      rw [cnt_used]
      exact hK _ _ _ (by kernel_rfl) (Below.refl _ _) hI rfl
    refine Steps.cons (RStep.of rfl fun x W f hI hD K9 hK => ?_) ?_
    · clear hD
      have c0 := hI.2.2.c 0 _ rfl
      have c1 := hI.2.2.c 1 _ rfl
      go_simp
      exact hK (.agg #[.slice A h.cells.length c, .slice A' h.roots.length c']) _ _ (by kernel_rfl) (Below.refl _ _) (hI) rfl
    refine Steps.cons (RStep.of rfl fun x W f hI hD K9 hK => ?_) ?_
    · have e7 : x 7 = .agg #[.slice A h.cells.length c, .slice A' h.roots.length c'] := hD 7 (by decide)
      have e6 : x 6 = .int .i64 (usedC h : Int) := hD 6 (by decide)
      clear hD
      simp only [e7, e6] at hK ⊢
      go_wp2_with fail
      (with_reducible refine (implReachable_any _ h _ hI.2.1).mono ?_)
      rw [hE2.out]
      rintro e w6 ⟨S, cs, rfl, hO, -, hB⟩
      exact hK (.slice S (reachM h).length cs) _ _ (by kernel_rfl) hB ⟨hI.1.trans (hB.mono hI.1.size), hI.2.1.below hB, hI.2.2.below hB⟩ ⟨_, _, rfl, hO.rf⟩
    refine Steps.cons (RStep.of rfl fun x W f hI hD K9 hK => ?_) ?_
    · have h8 : (fun v W => ∃ S cs, v = .slice S (reachM h).length cs ∧ RF fb W S (reachM h)) (x 8) W := hD 8 (by decide)
      clear hD
      obtain ⟨S, cs, e8, h8⟩ := h8
      simp only [e8] at hK ⊢
      go_wp2_with fail
      (with_reducible refine (count_any S (reachM h) cs W h8 (by rw [reachM_len]; omega)).mono ?_)
      rintro e w6 ⟨rfl, rfl⟩
      exact hK _ _ _ (by kernel_rfl) (Below.refl _ _) hI rfl
    exact Steps.nil
  intro x W hI hV
  have e0 : x 0 = .agg #[.slice A h.cells.length c, .slice A' h.roots.length c'] := hV 0 (by decide)
  have e1 : x 1 = .int .u64 ((usedBits h.cells : Nat) : Int) := hV 1 (by decide)
  have e3 : x 3 = .slice A h.cells.length c := hV 3 (by decide)
  have e4 : x 4 = .int .i64 (h.cells.length : Int) := hV 4 (by decide)
  have h5 : (fun v W => ∃ S cs, v = .slice S h.cells.length cs ∧ RF fb W S (listB (usedBits h.cells) h.cells.length)) (x 5) W := hV 5 (by decide)
  have e6 : x 6 = .int .i64 (usedC h : Int) := hV 6 (by decide)
  have e7 : x 7 = .agg #[.slice A h.cells.length c, .slice A' h.roots.length c'] := hV 7 (by decide)
  have h8 : (fun v W => ∃ S cs, v = .slice S (reachM h).length cs ∧ RF fb W S (reachM h)) (x 8) W := hV 8 (by decide)
  have e9 : x 9 = .int .i64 (cntB (reachM h) : Int) := hV 9 (by decide)
  clear hV
  simp only [e0, e1, e3, e4, e6, e7, e9]
  clear h5 h8
  rw [hR]
  (refine wpAny_take (i := 10) (v := ?v8_u1) rfl (by kernel_rfl) (by kernel_rfl) (by kernel_rfl) (fun _ _ _ h => h) (Or.inl ⟨by kernel_rfl, ?h8_u1⟩) ?r8_u1; (case h8_u1 => (intro w9; go_simp; try with_reducible rfl)))
  (refine wpAny_take (i := 11) (v := ?v8_u2) rfl (by kernel_rfl) (by kernel_rfl) (by kernel_rfl) (fun _ _ _ h => h) (Or.inl ⟨by kernel_rfl, ?h8_u2⟩) ?r8_u2; (case h8_u2 => (intro w9; go_simp; try with_reducible rfl)))
  rw [← hR]
  refine R_norm (a' := ?a8_u3) ?n8_u3 ?_
  case n8_u3 => (simp [Act.put]; with_reducible rfl)
  rw [hR]
  refine wpAny_done (by kernel_rfl) ?_ _
  have hE3 := hE.out
  go_wp2_with fail
  refine bodyPost_ret (v := .tuple #[.int .i64 (usedC h : Int), .int .i64 (cntB (reachM h) : Int)]) (by simp [results, Try.results23, go_sem]) rfl ⟨by rw [hE3]; rfl, hI.1⟩
end Go.Proofs.Ytmlgndeihfpfgaa
