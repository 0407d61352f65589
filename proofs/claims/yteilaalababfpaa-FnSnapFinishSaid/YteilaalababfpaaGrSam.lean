/- Texts of one family, one behind the other: Sam, Leak. -/
import Derived.Test.YteilaalababfpaaChecked
import Derived.Deep.QuietTactic
import Derived.BigQuiet
import Derived.Test.YteilaalababfpaaGrSame
import Derived.Test.YteilaalababfpaaGrCtx
import Derived.Deep.DeepCutAuto
import Derived.IntWalk
import Derived.Test.YteilaalababfpaaCloD
import Derived.Test.YteilaalababfpaaGrCopy
import Derived.Test.YteilaalababfpaaGrIso
/- The laws' comparisons of two equal values. -/
namespace Go.Proofs.Yteilaalababfpaa
open Go.RowKit
set_option maxRecDepth 100000
set_option linter.unusedSimpArgs false
set_option linter.unusedVariables false
set_option maxHeartbeats 4000000 in
theorem sameSnap_eq (v u : Value) (p : TwoM) (w : World) (hv : RTw w v p) (hu : RTw w u p) :
    Calls Try.prog 21 #[v, u] w fun e w' => e = .returned (.bool true) ∧ Below w.heap.size w w' := by
  obtain ⟨A, c, A', c', A2, c2, A3, c3, rfl⟩ := hv.parts
  obtain ⟨B, d, B', d', B2, d2, B3, d3, rfl⟩ := hu.parts
  go_enter Try.func21, Try.ntmps21
  go_wp2_with fail
  refine Calls.gen (Stb (fun W => Bx W w.heap.size [.slice A p.store.cells.length c, .slice A' p.store.roots.length c', .slice A2 p.x.length c2, .slice A3 p.y.length c3] ∧ Bx W (w.heap.size + 1) [.slice B p.store.cells.length d, .slice B' p.store.roots.length d', .slice B2 p.x.length d2, .slice B3 p.y.length d3] ∧ RTw W (.agg #[.slice A p.store.cells.length c, .slice A' p.store.roots.length c', .slice A2 p.x.length c2, .slice A3 p.y.length c3]) p ∧ RTw W (.agg #[.slice B p.store.cells.length d, .slice B' p.store.roots.length d', .slice B2 p.x.length d2, .slice B3 p.y.length d3]) p ∧ Below w.heap.size w W)) (Stb.and (Stb.bx ((Bx.new w [.slice A p.store.cells.length c, .slice A' p.store.roots.length c', .slice A2 p.x.length c2, .slice A3 p.y.length c3] 29).below blw_)) (Stb.and (Stb.bx (by simpa using Bx.new (w.alloc (.cells #[.slice A p.store.cells.length c, .slice A' p.store.roots.length c', .slice A2 p.x.length c2, .slice A3 p.y.length c3] 29)) [.slice B p.store.cells.length d, .slice B' p.store.roots.length d', .slice B2 p.x.length d2, .slice B3 p.y.length d3] 29)) (Stb.and (Stb.rtw (hv.below blw_)) (Stb.and (Stb.rtw (hu.below blw_)) (Stb.here blw_))))) ?_
  clear hv hu
  rintro W HI
  (with_reducible refine (sameHeap_any _ _ p.store p.store _ HI.now.2.2.1.st HI.now.2.2.2.1.st).mono ?_); rw [eqB_of (rfl : p.store = p.store)]; rintro e w2 ⟨rfl, hB⟩
  replace HI := HI.step hB
  clear hB
  have cc2 := HI.now.1.c 2 _ rfl
  have dd2 := HI.now.2.1.c 2 _ rfl
  have z0 := HI.now.1.lt
  have z1 := HI.now.2.1.lt
  go_wp2_with fail
  refine Calls.gen (Stb (fun W => Bx W w.heap.size [.slice A p.store.cells.length c, .slice A' p.store.roots.length c', .slice A2 p.x.length c2, .slice A3 p.y.length c3] ∧ Bx W (w.heap.size + 1) [.slice B p.store.cells.length d, .slice B' p.store.roots.length d', .slice B2 p.x.length d2, .slice B3 p.y.length d3] ∧ RTw W (.agg #[.slice A p.store.cells.length c, .slice A' p.store.roots.length c', .slice A2 p.x.length c2, .slice A3 p.y.length c3]) p ∧ RTw W (.agg #[.slice B p.store.cells.length d, .slice B' p.store.roots.length d', .slice B2 p.x.length d2, .slice B3 p.y.length d3]) p ∧ Below w.heap.size w W)) (HI.step blw_) ?_
  clear HI cc2 dd2 z0 z1
  rintro W HI
  (with_reducible refine (sameFlags_any A2 B2 p.x p.x c2 d2 _ HI.now.2.2.1.fx HI.now.2.2.2.1.fx HI.now.2.2.1.lx HI.now.2.2.2.1.lx).mono ?_); rw [eqB_of (rfl : p.x = p.x)]; rintro e w2 ⟨rfl, n9, hw2⟩
  replace HI := HI.step (show Below W.heap.size W w2 from by rw [hw2]; exact Below.drewn (Below.refl _ _))
  clear hw2
  have cc3 := HI.now.1.c 3 _ rfl
  have dd3 := HI.now.2.1.c 3 _ rfl
  have z0 := HI.now.1.lt
  have z1 := HI.now.2.1.lt
  go_wp2_with fail
  refine Calls.gen (Stb (fun W => Bx W w.heap.size [.slice A p.store.cells.length c, .slice A' p.store.roots.length c', .slice A2 p.x.length c2, .slice A3 p.y.length c3] ∧ Bx W (w.heap.size + 1) [.slice B p.store.cells.length d, .slice B' p.store.roots.length d', .slice B2 p.x.length d2, .slice B3 p.y.length d3] ∧ RTw W (.agg #[.slice A p.store.cells.length c, .slice A' p.store.roots.length c', .slice A2 p.x.length c2, .slice A3 p.y.length c3]) p ∧ RTw W (.agg #[.slice B p.store.cells.length d, .slice B' p.store.roots.length d', .slice B2 p.x.length d2, .slice B3 p.y.length d3]) p ∧ Below w.heap.size w W)) (HI.step blw_) ?_
  clear HI cc3 dd3 z0 z1
  rintro W HI
  (with_reducible refine (sameFlags_any A3 B3 p.y p.y c3 d3 _ HI.now.2.2.1.fy HI.now.2.2.2.1.fy HI.now.2.2.1.ly HI.now.2.2.2.1.ly).mono ?_); rw [eqB_of (rfl : p.y = p.y)]; rintro e w2 ⟨rfl, n9, hw2⟩
  replace HI := HI.step (show Below W.heap.size W w2 from by rw [hw2]; exact Below.drewn (Below.refl _ _))
  clear hw2
  have HB := HI.now.2.2.2.2
  have zB := HB.size
  clear HI
  go_wp2_with fail
  go_ret
  exact ⟨rfl, blw_⟩
end Go.Proofs.Yteilaalababfpaa

/- The program's leaked cells. -/
namespace Go.Proofs.Yteilaalababfpaa
open Go.RowKit
set_option maxRecDepth 100000
set_option linter.unusedSimpArgs false
set_option linter.unusedVariables false
noncomputable def leakN (h : HeapM) (j : Nat) : List Int := ((List.range j).filter (leakB h (reachM h))).map fun k : Nat => (k : Int)
theorem leakN_succ (h : HeapM) (j : Nat) : leakN h (j + 1) = if leakB h (reachM h) j then leakN h j ++ [(j : Int)] else leakN h j := by
  unfold leakN
  rw [List.range_succ, List.filter_append, List.map_append]
  rcases bool_ft (leakB h (reachM h) j) with e | e
  all_goals simp [e]
theorem leakN_len (h : HeapM) (j : Nat) : (leakN h j).length ≤ j := by
  unfold leakN; rw [List.length_map]; exact Nat.le_trans (List.length_filter_le _ _) (by simp)
theorem leakM_is {h : HeapM} (hv : validM h = true) : leakM h = leakN h h.cells.length := by unfold leakM; rw [if_pos hv]; rfl
theorem leak_bit {h : HeapM} (hv : validM h = true) {j : Nat} (hj : j < h.cells.length) : (andN (usedBits h.cells) (rchN h)).testBit j = leakB h (reachM h) j := by
  have h1 := rchN_list hv
  have h2 : (reachM h).getD j false = (rchN h).testBit j := by rw [← h1]; simp [listB, List.getD, hj]
  rw [andN_test (used64 hv) (rchN_lt hv), usedBits_test]
  unfold leakB
  rw [h2]
/-- A slice that reads as a list of numbers. -/
def LkR (w : World) (v : Value) (l : List Int) : Prop := ∃ S c, v = .slice S l.length c ∧ RF fi w S l
theorem LkR.below {w w' : World} {v : Value} {l : List Int} (h : LkR w v l) (hB : Below w.heap.size w w') : LkR w' v l := by
  obtain ⟨S, c, e, h⟩ := h
  exact ⟨S, c, e, h.below hB⟩
set_option maxHeartbeats 4000000 in
theorem leakedCells_any (v : Value) (h : HeapM) (w : World) (hv : RH w v h) :
    Calls Try.prog 37 #[v] w fun e w' => ∃ v', e = .returned v' ∧ LkR w' v' (leakM h) ∧ Below w.heap.size w w' := by
  obtain ⟨A, c, A', c', rfl⟩ := hv.parts
  go_enter Try.func37, Try.ntmps37
  go_wp2_with fail
  refine Calls.gen (Stb (fun W => RH W (.agg #[.slice A h.cells.length c, .slice A' h.roots.length c']) h ∧ Bx W w.heap.size [.slice A h.cells.length c, .slice A' h.roots.length c'] ∧ Below w.heap.size w W)) (Stb.and (Stb.rh (hv.below blw_)) (Stb.and (Stb.bx (Bx.new w [.slice A h.cells.length c, .slice A' h.roots.length c'] 26)) (Stb.here blw_))) ?_
  clear hv
  rintro W HI
  (with_reducible refine (implHeapValid_any _ h _ HI.now.1).mono ?_); rintro e w1 ⟨rfl, hB⟩
  replace HI := HI.step hB
  clear hB
  rcases bool_ft (validM h) with hva | hva
  · have hE : leakM h = [] := by unfold leakM; rw [hva]; rfl
    rw [hva]
    have HB := HI.now.2.2
    have zB := HB.size
    clear HI
    go_wp2_with fail
    go_ret
    exact ⟨_, rfl, ⟨none, 0, by rw [hE]; rfl, by rw [hE]; exact fun i hi => by simp at hi⟩, blw_⟩
  have HVA := Lib.hid hva
  have hsm := (valid_small hva).1
  have hu64 := used64 hva
  have hr64 := rchN_lt hva
  rw [hva]
  clear hva
  obtain ⟨rn, hrn⟩ : ∃ rn, Hid (rn = andN (usedBits h.cells) (rchN h)) := ⟨_, rfl⟩
  have HN64 : Hid (rn < 18446744073709551616) := by rw [hrn.out]; exact andN_lt hu64
  have HE2 : Hid (bits .andNot .u64 ((usedBits h.cells : Nat) : Int) ((rchN h : Nat) : Int) = ((rn : Nat) : Int)) := by rw [hrn.out]; exact u64_andNot_nat _ _ hu64 hr64
  have HLB : Hid (∀ j, j < h.cells.length → rn.testBit j = leakB h (reachM h) j) := by rw [hrn.out]; exact fun j hj => leak_bit HVA.out hj
  clear hrn hu64 hr64
  go_wp2_with fail
  refine Code.gen (Stb (fun W => RH W (.agg #[.slice A h.cells.length c, .slice A' h.roots.length c']) h ∧ Bx W w.heap.size [.slice A h.cells.length c, .slice A' h.roots.length c'] ∧ Below w.heap.size w W)) (HI.step blw_) ?_
  clear HI
  rintro W HI
  refine wp_region_R (by kernel_rfl) (fun R wd hR hwd => ?_)
  have hBd : Below W.heap.size W wd := by rw [hwd]; exact blw_
  replace HI := HI.step hBd
  clear hwd hBd
  refine rel_at (fr := ?fr_0) hR (fun f W => Stb (fun W => RH W (.agg #[.slice A h.cells.length c, .slice A' h.roots.length c']) h ∧ Bx W w.heap.size [.slice A h.cells.length c, .slice A' h.roots.length c'] ∧ Below w.heap.size w W) W) [(fun v W => v = (.agg #[.slice A h.cells.length c, .slice A' h.roots.length c'])), (fun v W => v = .int .u64 ((usedBits h.cells : Nat) : Int)), (fun v W => v = (.agg #[.slice A h.cells.length c, .slice A' h.roots.length c'])), (fun v W => v = .int .u64 ((rchN h : Nat) : Int)), (fun v W => v = .int .u64 ((rn : Nat) : Int)), (fun v W => v = .int .u64 ((rn : Nat) : Int))] (fun W W' => Below W.heap.size W W') [(0, []), (1, [0]), (2, []), (3, [2]), (4, [1, 0, 3, 2]), (5, [4, 1, 0, 3, 2])] [(9, 0), (10, 1), (11, 2), (12, 3), (13, 4), (3, 5)] [0, 1, 2, 3, 4, 5] #[true, true, true, true, true, true] 6 0 (by kernel_rfl) (by kernel_rfl) ?hfr_0 ?h0_0 ?mono_0 ?steps_0 ?_
  case hfr_0 => intro x; (simp [frOf, fill, Act.put, List.lookup]; with_reducible rfl)
  case h0_0 => exact HI
  case mono_0 => exact (Pm.cons (fun _ _ _ _ h => h) (Pm.cons (fun _ _ _ _ h => h) (Pm.cons (fun _ _ _ _ h => h) (Pm.cons (fun _ _ _ _ h => h) (Pm.cons (fun _ _ _ _ h => h) (Pm.cons (fun _ _ _ _ h => h) Pm.nil))))))
  case steps_0 =>
    refine Steps.cons (RStep.of rfl fun x W f hI hD K9 hK => ?_) ?_
    · clear hD
      have c0 := hI.now.2.1.c 0 _ rfl
      have c1 := hI.now.2.1.c 1 _ rfl
      go_simp
      exact hK ((.agg #[.slice A h.cells.length c, .slice A' h.roots.length c'])) _ _ (by kernel_rfl) (Below.refl _ _) (hI) rfl
    refine Steps.cons (RStep.of rfl fun x W f hI hD K9 hK => ?_) ?_
    · have e0 : x 0 = (.agg #[.slice A h.cells.length c, .slice A' h.roots.length c']) := hD 0 (by decide)
      clear hD
      simp only [e0] at hK ⊢
      go_wp2_with fail
      (with_reducible refine (usedSet_any _ h _ hI.now.1 (by omega)).mono ?_)
      rintro e w6 ⟨rfl, hB⟩
      exact hK _ _ _ (by kernel_rfl) hB (hI.step hB) rfl
    refine Steps.cons (RStep.of rfl fun x W f hI hD K9 hK => ?_) ?_
    · clear hD
      have c0 := hI.now.2.1.c 0 _ rfl
      have c1 := hI.now.2.1.c 1 _ rfl
      go_simp
      exact hK ((.agg #[.slice A h.cells.length c, .slice A' h.roots.length c'])) _ _ (by kernel_rfl) (Below.refl _ _) (hI) rfl
    refine Steps.cons (RStep.of rfl fun x W f hI hD K9 hK => ?_) ?_
    · have e2 : x 2 = (.agg #[.slice A h.cells.length c, .slice A' h.roots.length c']) := hD 2 (by decide)
      clear hD
      simp only [e2] at hK ⊢
      go_wp2_with fail
      (with_reducible refine (reachable_any _ h _ hI.now.1 HVA.out).mono ?_)
      rintro e w6 ⟨rfl, hB⟩
      exact hK _ _ _ (by kernel_rfl) hB (hI.step hB) rfl
    refine Steps.cons (RStep.of rfl fun x W f hI hD K9 hK => ?_) ?_
    · have e1 : x 1 = .int .u64 ((usedBits h.cells : Nat) : Int) := hD 1 (by decide)
      have e3 : x 3 = .int .u64 ((rchN h : Nat) : Int) := hD 3 (by decide)
      clear hD
      have e2 := HE2.out
      simp only [e1, e3] at hK ⊢
      go_simp
      exact hK (.int .u64 ((rn : Nat) : Int)) _ _ (by kernel_rfl) (Below.refl _ _) (hI) rfl
    refine Steps.cons (RStep.of rfl fun x W f hI hD K9 hK => ?_) ?_
    · have e4 : x 4 = .int .u64 ((rn : Nat) : Int) := hD 4 (by decide)
      clear hD
      simp only [e4] at hK ⊢
      go_simp
      exact hK (.int .u64 ((rn : Nat) : Int)) _ _ (by kernel_rfl) (Below.refl _ _) (hI) rfl
    exact Steps.nil
  intro x W hI hV
  have e0 : x 0 = (.agg #[.slice A h.cells.length c, .slice A' h.roots.length c']) := hV 0 (by decide)
  have e1 : x 1 = .int .u64 ((usedBits h.cells : Nat) : Int) := hV 1 (by decide)
  have e2 : x 2 = (.agg #[.slice A h.cells.length c, .slice A' h.roots.length c']) := hV 2 (by decide)
  have e3 : x 3 = .int .u64 ((rchN h : Nat) : Int) := hV 3 (by decide)
  have e4 : x 4 = .int .u64 ((rn : Nat) : Int) := hV 4 (by decide)
  have e5 : x 5 = .int .u64 ((rn : Nat) : Int) := hV 5 (by decide)
  clear hV
  simp only [e0, e1, e2, e3, e4, e5]
  rw [hR]
  refine wpAny_done (by kernel_rfl) ?_ _
  clear hR HE2 HI
  have HLM : Hid (leakM h = leakN h h.cells.length) := leakM_is HVA.out
  have hN64 := HN64.out
  clear HN64
  have hX := hI.now.2.1
  have hYB := hI.now.2.2
  have kb0 := hX.c 0 _ rfl
  have hlt0 := hX.lt
  clear hI hX
  have hW0 : Below w.heap.size w (W.alloc (.cells #[] 3 (0, 0))) := blw_
  have hz0 : (W.alloc (.cells #[] 3 (0, 0))).heap.size = W.heap.size + 1 := by simp
  have HK0 : Hid (OF 3 fi (W.alloc (.cells #[] 3 (0, 0))) (some ⟨W.heap.size, 0, none⟩) 0 ([] : List Int)) := OF.new0 (heap_alloc_at _ _ _ (by simp))
  have kb : (W.alloc (.cells #[] 3 (0, 0))).cell? ⟨w.heap.size, 0, none⟩ = some (.slice A h.cells.length c) := by simp [go_sem, hlt0, kb0]
  have hS0 : w.heap.size < W.heap.size := hlt0
  go_wp2
  generalize (W.alloc (.cells #[] 3 (0, 0))) = W0 at *
  generalize W.heap.size = b0 at *
  clear kb0 hYB hlt0
  go_loopw [4, 18] (fun s3 i wr => ∃ (j : Nat) (S : Option Addr) (cS : Nat), j ≤ h.cells.length ∧ i = .int .i64 j ∧ s3 = .slice S (leakN h j).length cS ∧ Hid (OF 3 fi wr S cS (leakN h j)) ∧ Hid (∀ b ∈ blk S, w.heap.size + 1 ≤ b) ∧ Below (w.heap.size + 1) W0 wr) (fun _ i _ => h.cells.length - (intOf i).toNat)
  case atStart => exact ⟨0, some ⟨b0, 0, none⟩, 0, by omega, rfl, by simp [leakN], by unfold Hid; simpa [leakN] using HK0.out, fun b hb => (by have := mem_blk_some hb; omega), Below.refl _ _⟩
  case round =>
    clear HK0 kb
    obtain ⟨j, S, cS, hj, rfl, rfl, HK, HSL, Y⟩ := hrel
    have sY := Y.size
    have hsl := leakN_len h j
    by_cases hlt : j < h.cells.length
    · have HXJ : Hid (leakB h (reachM h) j = rn.testBit j) := by unfold Hid; rw [HLB.out j hlt]
      have HS := Lib.hid (leakN_succ h j)
      have hj64 : (j : Int) < 64 := by omega
      rcases bool_ft (rn.testBit j) with hx | hx
      all_goals
        have HX := Lib.hid hx
        clear hx
        go_wp2_with fail
        (with_reducible refine (has_any rn (j : Int) _ hj64 hN64).mono ?_)
        rw [hasB_nat, HX.out]
        rintro e w3 ⟨rfl, rfl⟩
      · have HN : Hid (leakN h (j + 1) = leakN h j) := by unfold Hid; rw [HS.out, HXJ.out, HX.out, if_neg (by simp)]
        go_wp2
        go_roundw
        case rel => exact ⟨j + 1, S, cS, by omega, by go_num, by rw [HN.out], by unfold Hid; rw [HN.out]; exact HK.out, HSL, Y⟩
        case measure => simp [intOf]; omega
      · have HN : Hid (leakN h (j + 1) = leakN h j ++ [(j : Int)]) := by unfold Hid; rw [HS.out, HXJ.out, HX.out, if_pos rfl]
        go_wp2_with (at_builtin; (refine wpList_appi rfl (.tmp 24) (.tmp 26) rfl (leakN h j) rfl rfl (HK.out.below blw_) (RF.singR (x := (j : Int)) (by simp [go_sem, fi])) (by simp; omega) ?_); intro S2 cS2 w3 hO3 hOn3 hg3; have HB3 : Hid (Below (w.heap.size + 1) W0 w3) := Below.trans blw_ (hOn3.below (by simp; omega) (fun b9 hb9 => HSL.out b9 hb9)); have HSL3 : Hid (∀ b9 ∈ blk S2, w.heap.size + 1 ≤ b9) := (fun b9 hb9 => by rcases hg3 b9 hb9 with h9 | h9; exact HSL.out b9 h9; (try simp at h9); omega); have HK3 := Lib.hid hO3; clear hO3 hOn3 hg3)
        go_roundw
        case rel => exact ⟨j + 1, S2, cS2, by omega, by go_num, by rw [HN.out]; simp, by unfold Hid; rw [HN.out]; exact HK3.out, HSL3, HB3.out⟩
        case measure => simp [intOf]; omega
    · have hje : j = h.cells.length := by omega
      have HJ := Lib.hid hje
      have hge : ¬ (j : Int) < (h.cells.length : Int) := by omega
      clear hje
      go_wp2
      go_ret
      exact ⟨_, rfl, ⟨S, cS, by rw [HLM.out, ← HJ.out]; rfl, by rw [HLM.out, ← HJ.out]; exact HK.out.rf⟩, hW0.trans (Y.mono (by omega))⟩
end Go.Proofs.Yteilaalababfpaa
