/- CollectYoung of the program returns collectYoungM, in new memory. -/
import Derived.Test.YtmlgndeihfpfgaaChecked
import Derived.Deep.RegionHeld3
import Derived.Deep.DeepCutAuto
import Derived.IntWalk
import Derived.Test.YtmlgndeihfpfgaaGrKeep
import Derived.Test.YtmlgndeihfpfgaaGrCopy
namespace Go.Proofs.Ytmlgndeihfpfgaa
open Go.RowKit
set_option maxRecDepth 100000
set_option linter.unusedSimpArgs false
set_option linter.unusedVariables false
theorem collectYoung_no {p : TwoM} (h : agedM p = false) : collectYoungM p = (zeroT, -1) := by unfold collectYoungM; rw [h]; rfl
theorem collectYoung_yes {p : TwoM} (h : agedM p = true) : collectYoungM p = (⟨dropM p.store (nots (keepM p)), keepM p, List.replicate p.store.cells.length false⟩, (freedN p.store.cells (nots (keepM p)) : Int)) := by unfold collectYoungM; rw [h]; rfl
theorem refsAt_small {h : HeapM} (hv : validM h = true) (k : Nat) : (refsAt h k).length ≤ 3 := by
  unfold refsAt
  split
  · next c hc => exact (valid_small hv).2.2 c (List.mem_of_getElem? hc)
  · simp
theorem fromM_len {p : TwoM} (hv : validM p.store = true) (j : Nat) : (fromM p j).length ≤ 4 + 3 * j := by
  induction j with
  | zero => rw [fromM_zero]; have := (valid_small hv).2.1; omega
  | succ j ih =>
    rw [fromM_succ]
    have := refsAt_small hv j
    split
    · rw [List.length_append]; omega
    · omega
theorem fromM_leads {p : TwoM} (hv : validM p.store = true) (j : Nat) : ∀ r ∈ fromM p j, leadsM p.store.cells r = true := by
  intro r hr
  unfold fromM at hr
  rcases List.mem_append.1 hr with h | h
  · exact (validM_leads hv).2 r h
  · obtain ⟨k, -, h2⟩ := List.mem_flatMap.1 h
    exact refsAt_leads hv k r h2
theorem young_lt {p : TwoM} (hv : validM p.store = true) (hx : p.x.length = p.store.cells.length) {r : Int} (hr : hasB (youngBits p) r = true) : r < p.store.cells.length := by
  have h40 := (valid_small hv).1
  refine used_lt ?_
  by_cases h0 : 0 ≤ r
  · rw [hasB_at h0] at hr ⊢
    unfold youngBits at hr
    rw [andN_test (used64 hv) (bitsOf_lt64 (by omega))] at hr
    simp at hr
    exact hr.1
  · rw [hasB_neg (by omega)] at hr; cases hr
theorem young64 {p : TwoM} (hv : validM p.store = true) : youngBits p < 18446744073709551616 := andN_lt (used64 hv)
/-- What is kept, as a set. -/
noncomputable def keepB (p : TwoM) : Nat := bitsOf p.x ||| cloN p.store (youngBits p) (fromM p p.store.cells.length)
theorem cloN_64 (h : HeapM) (s : Nat) (fr : List Int) : cloN h s fr < 18446744073709551616 := bitsOf_lt64 (by rw [rchL_len]; omega)
theorem keepB_64 {p : TwoM} (hx : p.x.length ≤ 64) : keepB p < 18446744073709551616 := or_lt64 (bitsOf_lt64 hx) (cloN_64 _ _ _)
theorem keepB_list {p : TwoM} (hv : validM p.store = true) (hx : p.x.length = p.store.cells.length) : listB (keepB p) p.store.cells.length = keepM p := by
  have h40 := (valid_small hv).1
  have hyb : ∀ r : Int, leadsM p.store.cells r = true → hasB (youngBits p) r = youngRef p.x r := fun r hr => youngRef_bit p (by omega) (by omega) hr
  refine keepM_of (K := (keepB p).testBit) hx (listB_len _ _) (fun k => ?_) (fun k => ?_)
  · unfold listB
    by_cases hk : k < p.store.cells.length
    · simp [List.getD, hk]
    · rw [getD_len (by simp; omega)]
      unfold keepB
      rw [Nat.testBit_or, bitsOf_test, getD_len (by omega), Bool.false_or]
      rcases bool_ft ((cloN p.store (youngBits p) (fromM p p.store.cells.length)).testBit k) with e | e
      · exact e.symm
      · have h2 := (cloN_test (young64 hv) _ k).1 e
        have h3 : hasB (youngBits p) (k : Int) = true := by
          have key : ∀ j, Rch (refsAt p.store) (hasB (youngBits p)) (fromM p p.store.cells.length) j → hasB (youngBits p) (j : Int) = true := fun j hj => by
            cases hj with
            | start _ ho => have h7 := ho; unfold hasB at h7; simp at h7; rw [Int.toNat_of_nonneg h7.1]; exact ho
            | next _ _ ho => have h7 := ho; unfold hasB at h7; simp at h7; rw [Int.toNat_of_nonneg h7.1]; exact ho
          exact key k h2
        have := young_lt hv hx h3
        omega
  · unfold keepB
    rw [Nat.testBit_or, bitsOf_test, Bool.or_eq_true, cloN_test (young64 hv)]
    refine or_congr Iff.rfl ⟨fun h => h.congr (fun r hr => hyb r (fromM_leads hv _ r hr)) (fun k r hr => hyb r (refsAt_leads hv k r hr)), fun h => h.congr (fun r hr => (hyb r (fromM_leads hv _ r hr)).symm) (fun k r hr => (hyb r (refsAt_leads hv k r hr)).symm)⟩
theorem keepM_len2 {p : TwoM} (h : agedM p = true) : (keepM p).length = p.store.cells.length := keepM_len (agedM_parts h).2.1
set_option maxHeartbeats 8000000 in
theorem implCollectYoung_any (v : Value) (p : TwoM) (w : World) (hv : RTw w v p) :
    Calls Try.prog 52 #[v] w fun e w' => ∃ v', e = .returned (.tuple #[v', .int .i64 (collectYoungM p).2]) ∧ OTw w.heap.size w' v' (collectYoungM p).1 ∧ Below w.heap.size w w' := by
  have hv00 := hv
  obtain ⟨A, c, A', c', A2, c2, A3, c3, rfl, hh0, hx0, -, hy0, -⟩ := hv
  have HG0 : Hid (∀ W, Below (((w.alloc (.cells #[.slice A p.store.cells.length c, .slice A' p.store.roots.length c', .slice A2 p.x.length c2, .slice A3 p.y.length c3] 45)).alloc (.cells #[.slice none 0 0, .slice none 0 0, .slice none 0 0, .slice none 0 0] 45))).heap.size (((w.alloc (.cells #[.slice A p.store.cells.length c, .slice A' p.store.roots.length c', .slice A2 p.x.length c2, .slice A3 p.y.length c3] 45)).alloc (.cells #[.slice none 0 0, .slice none 0 0, .slice none 0 0, .slice none 0 0] 45))) W → (W.cell? ⟨w.heap.size + 1, 0, none⟩ = some (.slice none 0 0) ∧ W.cell? ⟨w.heap.size + 1, 1, none⟩ = some (.slice none 0 0) ∧ W.cell? ⟨w.heap.size + 1, 2, none⟩ = some (.slice none 0 0) ∧ W.cell? ⟨w.heap.size + 1, 3, none⟩ = some (.slice none 0 0) ∧ ∀ o, W.frozen? ⟨w.heap.size + 1, o, none⟩ = false)) := fun W hW => ⟨cell_below (by simp [go_sem]) hW, cell_below (by simp [go_sem]) hW, cell_below (by simp [go_sem]) hW, cell_below (by simp [go_sem]) hW, fun o => ((bcell hW).2.1 _ _ (by simp)).trans (by simp [go_sem])⟩
  have HF0 : Hid (∀ W, Only [w.heap.size + 1] (((w.alloc (.cells #[.slice A p.store.cells.length c, .slice A' p.store.roots.length c', .slice A2 p.x.length c2, .slice A3 p.y.length c3] 45)).alloc (.cells #[.slice none 0 0, .slice none 0 0, .slice none 0 0, .slice none 0 0] 45))) W → (W.cell? ⟨w.heap.size, 0, none⟩ = some (.slice A p.store.cells.length c) ∧ W.cell? ⟨w.heap.size, 1, none⟩ = some (.slice A' p.store.roots.length c') ∧ W.cell? ⟨w.heap.size, 2, none⟩ = some (.slice A2 p.x.length c2) ∧ W.cell? ⟨w.heap.size, 3, none⟩ = some (.slice A3 p.y.length c3))) := fun W hW => ⟨hW.cell (by simp [go_sem]) (by simp), hW.cell (by simp [go_sem]) (by simp), hW.cell (by simp [go_sem]) (by simp), hW.cell (by simp [go_sem]) (by simp)⟩
  have hz0 : (((w.alloc (.cells #[.slice A p.store.cells.length c, .slice A' p.store.roots.length c', .slice A2 p.x.length c2, .slice A3 p.y.length c3] 45)).alloc (.cells #[.slice none 0 0, .slice none 0 0, .slice none 0 0, .slice none 0 0] 45))).heap.size = w.heap.size + 2 := by simp
  have hW0 : Below w.heap.size w (((w.alloc (.cells #[.slice A p.store.cells.length c, .slice A' p.store.roots.length c', .slice A2 p.x.length c2, .slice A3 p.y.length c3] 45)).alloc (.cells #[.slice none 0 0, .slice none 0 0, .slice none 0 0, .slice none 0 0] 45))) := blw_
  have hv0 := hv00.below hW0
  have hh : RHs (((w.alloc (.cells #[.slice A p.store.cells.length c, .slice A' p.store.roots.length c', .slice A2 p.x.length c2, .slice A3 p.y.length c3] 45)).alloc (.cells #[.slice none 0 0, .slice none 0 0, .slice none 0 0, .slice none 0 0] 45))) A A' p.store := hh0.below hW0
  have hx := hx0.below hW0
  have HY := Lib.hid (hy0.below hW0)
  clear hv00 hh0 hx0 hy0
  cases hva : agedM p
  · have HV := Lib.hid hva
    have HE := Lib.hid (collectYoung_no hva)
    clear hva
    go_enter Try.func52, Try.ntmps52; go_wp2_with fail; generalize (((w.alloc (.cells #[.slice A p.store.cells.length c, .slice A' p.store.roots.length c', .slice A2 p.x.length c2, .slice A3 p.y.length c3] 45)).alloc (.cells #[.slice none 0 0, .slice none 0 0, .slice none 0 0, .slice none 0 0] 45))) = W0 at *; (with_reducible refine (implAgedValid_any _ p _ (hv0.below blw_)).mono ?_); rw [HV.out]; rintro e w1 ⟨rfl, hB⟩; (have z_hB := Below.size hB); (try simp only [World.size_alloc, World.size_setCell, World.size_drew, World.heap_drewN] at z_hB); have Y : Below W0.heap.size W0 w1 := blw_; clear hB; have sY := Y.size; obtain ⟨a0, a1, a2, a3⟩ := HF0.out w1 (Only.of_below Y)
    obtain ⟨r0, r1, r2, r3, rf⟩ := HG0.out w1 Y; have rf0 := rf 0; have rf1 := rf 1; have rf2 := rf 2; have rf3 := rf 3; clear rf
    go_wp2_with fail
    have X : Below w.heap.size w w1 := hW0.trans (Y.mono hW0.size)
    refine bodyPost_ret (v := .tuple #[.agg #[.slice none 0 0, .slice none 0 0, .slice none 0 0, .slice none 0 0], .int .i64 (-1)]) (by simp [results, Try.results52, go_sem, r0, r1, r2, r3]) rfl ⟨_, by rw [HE.out], ?_, blw_⟩
    rw [HE.out]
    exact OTw.zero
  have HV := Lib.hid hva
  have HE := Lib.hid (collectYoung_yes hva)
  obtain ⟨hvs, hxl, hyl⟩ := agedM_parts hva
  have HVS := Lib.hid hvs
  have HXL := Lib.hid hxl
  have HYL := Lib.hid hyl
  obtain ⟨v1, v2_, -⟩ := valid_small hvs
  have v2 : p.store.roots.length ≤ 4 := by omega
  clear v2_
  have x40 : p.x.length ≤ 64 := by omega
  have y40 : p.y.length ≤ 40 := by omega
  have hkb := keepB_64 (p := p) x40
  have HKL : Hid (listB (keepB p) p.store.cells.length = keepM p) := keepB_list hvs hxl
  obtain ⟨kn, hkn⟩ : ∃ kn, kn = keepB p := ⟨_, rfl⟩
  obtain ⟨yn, hyn⟩ : ∃ yn, yn = youngBits p := ⟨_, rfl⟩
  obtain ⟨xn, hxn⟩ : ∃ xn, xn = bitsOf p.x := ⟨_, rfl⟩
  obtain ⟨cn, hcn⟩ : ∃ cn, cn = cloN p.store yn (fromM p p.store.cells.length) := ⟨_, rfl⟩
  have hor : bits .or .u64 (xn : Int) (cn : Int) = (kn : Int) := by rw [hkn, hxn, hcn, hyn]; exact u64_or_nat _ _ (bitsOf_lt64 x40) (cloN_64 _ _ _)
  have hy64 : yn < 18446744073709551616 := by rw [hyn]; exact young64 hvs
  have HYB : Hid (∀ r, hasB yn r = true → r < p.store.cells.length) := by rw [hyn]; exact fun r hr => young_lt hvs hxl hr
  have HFR : Hid (∀ r ∈ fromM p p.store.cells.length, r < 64) := fun r hr => by have := leadsM_lt (fromM_leads hvs _ r hr); omega
  have HKL2 : Hid (listB kn p.store.cells.length = keepM p) := by rw [hkn]; exact HKL.out
  rw [← hkn] at hkb
  have HYN := Lib.hid hyn
  have HXN := Lib.hid hxn
  have HCN := Lib.hid hcn
  have HKM := Lib.hid (keepM_len2 hva)
  clear hva hvs hxl hyl HKL hkn hyn hxn hcn
  go_enter Try.func52, Try.ntmps52; go_wp2_with fail; generalize (((w.alloc (.cells #[.slice A p.store.cells.length c, .slice A' p.store.roots.length c', .slice A2 p.x.length c2, .slice A3 p.y.length c3] 45)).alloc (.cells #[.slice none 0 0, .slice none 0 0, .slice none 0 0, .slice none 0 0] 45))) = W0 at *; (with_reducible refine (implAgedValid_any _ p _ (hv0.below blw_)).mono ?_); rw [HV.out]; rintro e w1 ⟨rfl, hB⟩; (have z_hB := Below.size hB); (try simp only [World.size_alloc, World.size_setCell, World.size_drew, World.heap_drewN] at z_hB); have Y : Below W0.heap.size W0 w1 := blw_; clear hB; have sY := Y.size; obtain ⟨a0, a1, a2, a3⟩ := HF0.out w1 (Only.of_below Y)
  go_wp2_with fail
  (with_reducible refine (cloneInt_any A' p.store.roots c' _ (hh.roots.below blw_) (by omega)).mono ?_)
  rintro e w2 ⟨S, k, rfl, hO, hlo, hB⟩
  (have z_hB := Below.size hB); (try simp only [World.size_alloc, World.size_setCell, World.size_drew, World.heap_drewN] at z_hB)
  have Y2 : Below W0.heap.size W0 w2 := blw_
  have hlo2 : ∀ b ∈ blk S, W0.heap.size ≤ b := fun b hb => by have h7 := hlo b hb; (try simp only [World.size_alloc, World.size_setCell, World.size_drew, World.heap_drewN] at h7); omega
  clear hB hlo Y a0 a1 a2 a3
  obtain ⟨a0, a1, a2, a3⟩ := HF0.out w2 (Only.of_below Y2)
  have HLO2 := Lib.hid hlo2
  have HO2 := Lib.hid hO
  clear hO hlo2
  go_wp2
  go_loopw [4, 18] (fun s4 i wr => ∃ (j : Nat) (S : Option Addr) (cS : Nat) (fr : List Int), j ≤ p.y.length ∧ i = .int .i64 j ∧ s4 = .slice S fr.length cS ∧ Hid (fr = fromM p j) ∧ Hid (OF 3 fi wr S cS fr) ∧ Hid (∀ b ∈ blk S, W0.heap.size ≤ b) ∧ Below W0.heap.size W0 wr) (fun _ i _ => p.y.length - (intOf i).toNat)
  case atStart => exact ⟨0, S, k, p.store.roots, by omega, rfl, rfl, (fromM_zero p).symm, HO2.out.below blw_, HLO2.out, blw_⟩
  case round =>
    clear HLO2 HO2 a0 a1 a2 a3 Y2
    obtain ⟨j, S, cS, fr, hj, rfl, rfl, HF, HO, HLO, Y⟩ := hrel
    have sY := Y.size
    obtain ⟨a0, a1, a2, a3⟩ := HF0.out wr (Only.of_below Y)
    have hfl : fr.length ≤ 1000 := by have := fromM_len HVS.out j; rw [← HF.out] at this; omega
    by_cases hlt : j < p.y.length
    · obtain ⟨b3, o3, y, rfl, g3, m3, -⟩ := (HY.out.below Y).at_ hlt
      have hjc : j < p.store.cells.length := by have := HYL.out; omega
      obtain ⟨b, o, cc, Ac, cr2, rfl, gc, -, -, d2, hrr, hrl2, hb⟩ := (hh.cells.below Y).at_ hjc
      have n3 : wr.cell? ⟨b3, o3 + j, none⟩ = some (.bool y) := m3
      have HRR := Lib.hid hrr
      have HN := Lib.hid (fromM_succ p j)
      have HYJ : Hid (p.y.getD j false = y) := by unfold Hid; rw [List.getD, g3]; rfl
      have HCR := Lib.hid (refsAt_of gc)
      have hrl3 : cc.refs.length ≤ 3 := (valid_small HVS.out).2.2 cc (List.mem_of_getElem? gc)
      clear m3 g3 hrr gc hrl2
      rcases (bool_ft y).symm with rfl | rfl
      · have HN2 : Hid (fr ++ cc.refs = fromM p (j + 1)) := by unfold Hid; rw [HN.out, HYJ.out, if_pos rfl, ← HF.out, HCR.out]
        go_wp2_with (at_builtin; (refine wpList_appi rfl (.tmp 24) (.tmp 31) rfl fr rfl rfl (HO.out.below blw_) (HRR.out.below blw_) (by omega) ?_); intro S2 cS2 w3 hO3 hOn3 hg3; have HB3 : Hid (Below W0.heap.size W0 w3) := Below.trans blw_ (hOn3.below (by first | omega | (simp; done) | (simp; omega)) (fun b9 hb9 => HLO.out b9 hb9)); have HLO3 : Hid (∀ b9 ∈ blk S2, W0.heap.size ≤ b9) := (fun b9 hb9 => by rcases hg3 b9 hb9 with h9 | h9; exact HLO.out b9 h9; (try simp at h9); omega); have HO3 := Lib.hid hO3; clear hO3 hOn3 hg3)
        go_roundw
        case rel => exact ⟨j + 1, S2, cS2, fr ++ cc.refs, by omega, by go_num, by simp, HN2, HO3, HLO3, HB3.out⟩
        case measure => simp [intOf]; omega
      · have HN2 : Hid (fr = fromM p (j + 1)) := by unfold Hid; rw [HN.out, HYJ.out, if_neg (by simp), ← HF.out]
        go_wp2
        go_roundw
        case rel => exact ⟨j + 1, S, cS, fr, by omega, by go_num, rfl, HN2, HO, HLO, Y⟩
        case measure => simp [intOf]; omega
    · have hje : j = p.store.cells.length := by have := HYL.out; omega
      have HF2 : Hid (fr = fromM p p.store.cells.length) := by unfold Hid; rw [HF.out, hje]
      have hfr64 : ∀ r ∈ fr, r < 64 := by rw [HF2.out]; exact HFR.out
      have HF64 := Lib.hid hfr64
      have HCN2 : Hid (cn = cloN p.store yn fr) := by unfold Hid; rw [HCN.out, HF2.out]
      have HRF := Lib.hid HO.out.rf
      have hgh : wr.heap.size ≥ W0.heap.size := sY
      clear hje hfr64 HFR HF HF2 HCN HO
      go_wp2_with fail
      go_region_held3 (fun W => (W.cell? ⟨w.heap.size, 0, none⟩ = some (.slice A p.store.cells.length c) ∧ W.cell? ⟨w.heap.size, 1, none⟩ = some (.slice A' p.store.roots.length c') ∧ W.cell? ⟨w.heap.size, 2, none⟩ = some (.slice A2 p.x.length c2) ∧ W.cell? ⟨w.heap.size, 3, none⟩ = some (.slice A3 p.y.length c3))) (first | with_reducible exact HF0.out _ (by repeat (first | (with_reducible refine Only.setCell ?_ (.inl (by simp)) _) | (with_reducible refine Only.drew ?_) | (with_reducible refine Only.alloc ?_ _) | (with_reducible assumption) | (with_reducible exact Only.refl _ _) | (with_reducible refine Only.trans ?_ (Only.of_below (by with_reducible assumption))))))
        (first
          | (go_at_call 85; (with_reducible refine (setOf_any _ p.x _ _ (hx.below blw_) x40).mono ?_); rw [← HXN.out]; rintro e w5 ⟨rfl, hB⟩; (have z_hB := Below.size hB); (try simp only [World.size_alloc, World.size_setCell, World.size_drew, World.heap_drewN] at z_hB))
          | (go_at_call 102; (with_reducible refine (young_any _ p _ (hv0.below blw_) (by omega) x40).mono ?_); rw [← HYN.out]; rintro e w6 ⟨rfl, hB⟩; (have z_hB := Below.size hB); (try simp only [World.size_alloc, World.size_setCell, World.size_drew, World.heap_drewN] at z_hB))
          | (go_at_call 101; (with_reducible refine (closureN_any _ p.store _ fr _ yn _ ((hh.below blw_).rh _ _) (HRF.out.below blw_) hy64 HYB.out HVS.out (by omega) HF64.out).mono ?_); rw [← HCN2.out]; rintro e w7 ⟨rfl, hB⟩; (have z_hB := Below.size hB); (try simp only [World.size_alloc, World.size_setCell, World.size_drew, World.heap_drewN] at z_hB))
          | (go_at_call 57; (with_reducible refine (keep_any _ p kn _ (hv0.below blw_) HVS.out hkb).mono ?_); rw [HKL2.out]; rintro e w8 ⟨v4, rfl, ⟨B, d, B', d', os, B2, d2, B3, d3, rfl, o4⟩, hB4⟩; (have z_hB4 := Below.size hB4); (try simp only [World.size_alloc, World.size_setCell, World.size_drew, World.heap_drewN] at z_hB4); have Y8 : Below W0.heap.size W0 w8 := blw_; clear hB4; obtain ⟨r0, r1, r2, r3, rf⟩ := HG0.out w8 Y8; have rf0 := rf 0; have rf1 := rf 1; have rf2 := rf 2; have rf3 := rf 3))
      all_goals
        go_wp2_with fail
        have X : Below w.heap.size w w8 := hW0.trans (Y8.mono hW0.size)
        refine bodyPost_ret (v := .tuple #[.agg #[.slice B (dropM p.store (nots (keepM p))).cells.length d, .slice B' p.store.roots.length d', .slice B2 (keepM p).length d2, .slice B3 p.store.cells.length d3], .int .i64 (freedN p.store.cells (nots (keepM p)))]) (by simp [results, Try.results52, go_sem, r0, r1, r2, r3]; try rfl) rfl ⟨_, by rw [HE.out], ?_, blw_⟩
        rw [HE.out]
        have hb : OTw (w.heap.size + 2) w8 (.agg #[.slice B (dropM p.store (nots (keepM p))).cells.length d, .slice B' p.store.roots.length d', .slice B2 (keepM p).length d2, .slice B3 p.store.cells.length d3]) ⟨dropM p.store (nots (keepM p)), keepM p, List.replicate p.store.cells.length false⟩ := ⟨B, d, B', d', os, B2, d2, B3, d3, by simp; rfl, o4.1, o4.2.1, o4.2.2.1, o4.2.2.2.1, o4.2.2.2.2.1, fun b hb => by have h7 := o4.2.2.2.2.2.1 b hb; (try simp only [World.size_alloc, World.size_setCell, World.size_drew, World.heap_drewN] at h7); omega, o4.2.2.2.2.2.2⟩
        exact ((((hb.setlt (by simp) _).setlt (by simp) _).setlt (by simp) _).setlt (by simp) _).lo_ (by omega)
end Go.Proofs.Ytmlgndeihfpfgaa
