/- The program's new numbers and its order of sliding. -/
import Derived.Test.YtkmfhadanbfadaaChecked
import Derived.Deep.DeepCutAuto
import Derived.IntWalk
import Derived.Test.YtkmfhadanbfadaaOrd
import Derived.Test.YtkmfhadanbfadaaCloD
import Derived.Test.YtkmfhadanbfadaaGrCopy
namespace Go.Proofs.Ytkmfhadanbfadaa
open Go.RowKit
set_option maxRecDepth 100000
set_option linter.unusedSimpArgs false
set_option linter.unusedVariables false
def renM (nm : List Int) (r : Int) : Int := if 0 ≤ r then (nm[r.toNat]?).getD (-1) else r
theorem renM_new (order : List Int) (n : Nat) (r : Int) : newName order n r = renM (namesM order n order.length) r := rfl
theorem set_rep {n j : Nat} (h : j < n) : (List.replicate j (-1 : Int) ++ List.replicate (n - j) 0).set j (-1) = List.replicate (j + 1) (-1) ++ List.replicate (n - (j + 1)) 0 := by
  apply List.ext_getElem?
  intro i
  rw [List.getElem?_set]
  simp only [List.getElem?_append, List.getElem?_replicate, List.length_replicate, List.length_append]
  grind
set_option maxHeartbeats 4000000 in
theorem numbersIn_any (A : Option Addr) (order : List Int) (c n : Nat) (w : World) (hr : RF fi w A order) (hl : order.length ≤ 1048576) (hn : n ≤ 1048576) (hlt : ∀ r ∈ order, 0 ≤ r ∧ r < n) (hnd : order.Pairwise fun a b => a ≠ b) :
    Calls Try.prog 183 #[.slice A order.length c, .int .i64 (n : Int)] w fun e w' => ∃ S cS, e = .returned (.slice S n cS) ∧ OF 3 fi w' S cS (namesM order n order.length) ∧ (∀ b ∈ blk S, w.heap.size ≤ b) ∧ Below w.heap.size w w' := by
  have hmk := mk_ints n (by omega)
  have HR := Lib.hid hr
  have HLT := Lib.hid hlt
  have HND := Lib.hid hnd
  clear hr hlt hnd
  go_enter Try.func183, Try.ntmps183
  go_wp2
  go_loopw [13] (fun i wr => ∃ (j : Nat), j ≤ n ∧ i = .int .i64 j ∧ OF 3 fi wr (some ⟨w.heap.size, 0, none⟩) n (List.replicate j (-1) ++ List.replicate (n - j) 0) ∧ Below w.heap.size w wr) (fun i _ => n - (intOf i).toNat)
  case atStart => exact ⟨0, by omega, rfl, OF.of_blkn (by simp) (by simpa using heap_alloc_at w _ _ rfl) (by simp only [maxLen]; simp; omega), (by repeat (first | ((with_reducible refine Below.setc ?_ ?_ _); focus (first | omega | (simp; done) | (simp; omega))) | ((with_reducible refine Below.allocc ?_ ?_ _); focus (first | omega | (simp; done) | (simp; omega))) | (with_reducible refine Below.drew ?_) | (with_reducible refine Below.drewn ?_) | (with_reducible assumption) | (with_reducible exact Below.refl _ _) | ((with_reducible refine Below.stepp (by with_reducible assumption) ?_ ?_); focus (first | omega | (simp; done) | (simp; omega)))))⟩
  case round =>
    obtain ⟨j, hj, rfl, hO, Y⟩ := hrel
    by_cases hlt : j < n
    · have f2 := hO.frozen j
      have hlI : (j : Int) < (n : Int) := by omega
      have m2 : ∃ x, wr.cell? ⟨w.heap.size, j, none⟩ = some (.int .i64 x) := ⟨_, hO.cell (List.getElem?_eq_getElem (by simp; omega))⟩
      obtain ⟨x, m2⟩ := m2
      have HO2 := Lib.hid (hO.set_ j (-1 : Int))
      clear hO
      go_wp2
      go_roundw
      case rel => exact ⟨j + 1, by omega, by go_num, by rw [← set_rep hlt]; exact HO2.out, (by repeat (first | ((with_reducible refine Below.setc ?_ ?_ _); focus (first | omega | (simp; done) | (simp; omega))) | ((with_reducible refine Below.allocc ?_ ?_ _); focus (first | omega | (simp; done) | (simp; omega))) | (with_reducible refine Below.drew ?_) | (with_reducible refine Below.drewn ?_) | (with_reducible assumption) | (with_reducible exact Below.refl _ _) | ((with_reducible refine Below.stepp (by with_reducible assumption) ?_ ?_); focus (first | omega | (simp; done) | (simp; omega)))))⟩
      case measure => simp [intOf]; omega
    · have hje : j = n := by omega
      subst hje
      have HO := Lib.hid (show OF 3 fi wr (some ⟨w.heap.size, 0, none⟩) j (namesM order j 0) from by rw [namesM_zero]; simpa using hO)
      have hge : ¬ (j : Int) < (j : Int) := by omega
      clear hO
      go_wp2
      go_loopw [22] (fun i wr => ∃ (k : Nat), k ≤ order.length ∧ i = .int .i64 k ∧ Hid (OF 3 fi wr (some ⟨w.heap.size, 0, none⟩) j (namesM order j k)) ∧ Below w.heap.size w wr) (fun i _ => order.length - (intOf i).toNat)
      case atStart => exact ⟨0, by omega, rfl, HO, Y⟩
      case round =>
        clear HO Y
        obtain ⟨k, hk, rfl, HO, Y⟩ := hrel
        by_cases hlt2 : k < order.length
        · obtain ⟨b, o, r, rfl, gr, m, hb⟩ := HR.out.at_ hlt2
          have n1 : wr.cell? ⟨b, o + k, none⟩ = some (.int .i64 r) := cell_below m Y
          obtain ⟨hr0, hrn⟩ := HLT.out r (List.mem_of_getElem? gr)
          have HN := Lib.hid (namesM_succ (n := j) gr hr0 HND.out)
          have f2 := HO.out.frozen r.toNat
          have m2 : ∃ x, wr.cell? ⟨w.heap.size, r.toNat, none⟩ = some (.int .i64 x) := ⟨_, HO.out.cell (List.getElem?_eq_getElem (by rw [namesM_len]; omega))⟩
          obtain ⟨x, m2⟩ := m2
          have HO2 : Hid (OF 3 fi (wr.setCell ⟨w.heap.size, r.toNat, none⟩ (.int .i64 (k : Int))) (some ⟨w.heap.size, 0, none⟩) j (namesM order j (k + 1))) := by unfold Hid; rw [HN.out]; exact HO.out.set_ r.toNat (k : Int)
          clear m gr
          go_wp2
          go_roundw
          case rel => exact ⟨k + 1, by omega, by go_num, HO2, (by repeat (first | ((with_reducible refine Below.setc ?_ ?_ _); focus (first | omega | (simp; done) | (simp; omega))) | ((with_reducible refine Below.allocc ?_ ?_ _); focus (first | omega | (simp; done) | (simp; omega))) | (with_reducible refine Below.drew ?_) | (with_reducible refine Below.drewn ?_) | (with_reducible assumption) | (with_reducible exact Below.refl _ _) | ((with_reducible refine Below.stepp (by with_reducible assumption) ?_ ?_); focus (first | omega | (simp; done) | (simp; omega)))))⟩
          case measure => simp [intOf]; omega
        · have hke : k = order.length := by omega
          subst hke
          go_wp2
          go_ret
          exact ⟨_, _, rfl, HO.out, fun b hb => by rw [mem_blk_some hb]; exact Nat.le_refl _, Y⟩
set_option maxHeartbeats 4000000 in
theorem renamed_any (A B : Option Addr) (rs nm : List Int) (c c2 n : Nat) (w : World) (hr : RF fi w A rs) (hm : RF fi w B nm) (hl : rs.length ≤ 1048576) (hnl : nm.length = n) (hn : n ≤ 1048576) (hlt : ∀ r ∈ rs, r < n) :
    Calls Try.prog 184 #[.slice A rs.length c, .slice B n c2] w fun e w' => ∃ S cS, e = .returned (.slice S rs.length cS) ∧ OF 3 fi w' S cS (rs.map (renM nm)) ∧ (∀ b ∈ blk S, w.heap.size ≤ b) ∧ Below w.heap.size w w' := by
  have HR := Lib.hid hr
  have HM := Lib.hid hm
  have HLT := Lib.hid hlt
  have HNL := Lib.hid hnl
  clear hr hm hlt hnl
  go_enter Try.func184, Try.ntmps184
  go_wp2
  go_loopw [5, 11] (fun s5 i wr => ∃ (j : Nat) (S : Option Addr) (cS : Nat) (ys : List Int), j ≤ rs.length ∧ i = .int .i64 j ∧ s5 = .slice S ys.length cS ∧ Hid (ys = (rs.take j).map (renM nm)) ∧ Hid (OF 3 fi wr S cS ys) ∧ Hid (∀ b ∈ blk S, w.heap.size ≤ b) ∧ Below w.heap.size w wr) (fun _ i _ => rs.length - (intOf i).toNat)
  case atStart => exact ⟨0, some ⟨w.heap.size, 0, none⟩, 0, [], by omega, rfl, rfl, rfl, OF.new0 (heap_alloc_at _ _ _ rfl), fun b hb => by rw [mem_blk_some hb]; exact Nat.le_refl _, (by repeat (first | ((with_reducible refine Below.setc ?_ ?_ _); focus (first | omega | (simp; done) | (simp; omega))) | ((with_reducible refine Below.allocc ?_ ?_ _); focus (first | omega | (simp; done) | (simp; omega))) | (with_reducible refine Below.drew ?_) | (with_reducible refine Below.drewn ?_) | (with_reducible assumption) | (with_reducible exact Below.refl _ _) | ((with_reducible refine Below.stepp (by with_reducible assumption) ?_ ?_); focus (first | omega | (simp; done) | (simp; omega)))))⟩
  case round =>
    obtain ⟨j, S, cS, ys, hj, rfl, rfl, HY, HO, HLO, Y⟩ := hrel
    have sY := Y.size
    have hyl : ys.length ≤ 1048576 := by rw [HY.out, List.length_map, List.length_take]; omega
    by_cases hlt : j < rs.length
    · obtain ⟨b, o, r, rfl, gr, m, hb⟩ := HR.out.at_ hlt
      have n1 : wr.cell? ⟨b, o + j, none⟩ = some (.int .i64 r) := cell_below m Y
      have hrn := HLT.out r (List.mem_of_getElem? gr)
      have HS : Hid ((rs.take (j + 1)).map (renM nm) = ys ++ [renM nm r]) := by unfold Hid; rw [take_snoc_of gr, List.map_append, ← HY.out]; rfl
      clear m gr
      rcases Classical.em (r < 0) with h0 | h0
      · have HV : Hid (renM nm r = r) := by unfold Hid renM; rw [if_neg (by omega)]
        go_wp2_with (at_builtin; (refine wpList_appi rfl (.tmp 21) (.tmp 23) rfl ys rfl rfl (HO.out.below (by repeat (first | ((with_reducible refine Below.setc ?_ ?_ _); focus (first | omega | (simp; done) | (simp; omega))) | ((with_reducible refine Below.allocc ?_ ?_ _); focus (first | omega | (simp; done) | (simp; omega))) | (with_reducible refine Below.drew ?_) | (with_reducible refine Below.drewn ?_) | (with_reducible assumption) | (with_reducible exact Below.refl _ _) | ((with_reducible refine Below.stepp (by with_reducible assumption) ?_ ?_); focus (first | omega | (simp; done) | (simp; omega)))))) (RF.singR (x := r) (by simp [go_sem, fi])) (by simp; omega) ?_); intro S2 cS2 w3 hO3 hOn3 hg3; have HB3 : Hid (Below w.heap.size w w3) := Below.trans (by repeat (first | ((with_reducible refine Below.setc ?_ ?_ _); focus (first | omega | (simp; done) | (simp; omega))) | ((with_reducible refine Below.allocc ?_ ?_ _); focus (first | omega | (simp; done) | (simp; omega))) | (with_reducible refine Below.drew ?_) | (with_reducible refine Below.drewn ?_) | (with_reducible assumption) | (with_reducible exact Below.refl _ _) | ((with_reducible refine Below.stepp (by with_reducible assumption) ?_ ?_); focus (first | omega | (simp; done) | (simp; omega))))) (hOn3.below (by simp; omega) (fun b9 hb9 => HLO.out b9 hb9)); have HLO3 : Hid (∀ b9 ∈ blk S2, w.heap.size ≤ b9) := (fun b9 hb9 => by rcases hg3 b9 hb9 with h9 | h9; exact HLO.out b9 h9; (try simp at h9); omega); have HO3 := Lib.hid hO3; clear hO3 hOn3 hg3)
        go_roundw
        case rel => exact ⟨j + 1, S2, cS2, ys ++ [r], by omega, by go_num, by simp, by unfold Hid; rw [HS.out, HV.out], HO3, HLO3, HB3.out⟩
        case measure => simp [intOf]; omega
      · have hr0 : 0 ≤ r := by omega
        have hrm : r.toNat < nm.length := by rw [HNL.out]; omega
        obtain ⟨b2, o2, x, rfl, gx, m2, hb2⟩ := HM.out.at_ hrm
        have n2 : wr.cell? ⟨b2, o2 + r.toNat, none⟩ = some (.int .i64 x) := cell_below m2 Y
        have HV : Hid (renM nm r = x) := by unfold Hid renM; rw [if_pos hr0, gx]; rfl
        have hrI : r < (n : Int) := hrn
        clear m2 gx h0
        go_wp2_with (at_builtin; (refine wpList_appi rfl (.tmp 21) (.tmp 23) rfl ys rfl rfl (HO.out.below (by repeat (first | ((with_reducible refine Below.setc ?_ ?_ _); focus (first | omega | (simp; done) | (simp; omega))) | ((with_reducible refine Below.allocc ?_ ?_ _); focus (first | omega | (simp; done) | (simp; omega))) | (with_reducible refine Below.drew ?_) | (with_reducible refine Below.drewn ?_) | (with_reducible assumption) | (with_reducible exact Below.refl _ _) | ((with_reducible refine Below.stepp (by with_reducible assumption) ?_ ?_); focus (first | omega | (simp; done) | (simp; omega)))))) (RF.singR (x := x) (by simp [go_sem, fi])) (by simp; omega) ?_); intro S2 cS2 w3 hO3 hOn3 hg3; have HB3 : Hid (Below w.heap.size w w3) := Below.trans (by repeat (first | ((with_reducible refine Below.setc ?_ ?_ _); focus (first | omega | (simp; done) | (simp; omega))) | ((with_reducible refine Below.allocc ?_ ?_ _); focus (first | omega | (simp; done) | (simp; omega))) | (with_reducible refine Below.drew ?_) | (with_reducible refine Below.drewn ?_) | (with_reducible assumption) | (with_reducible exact Below.refl _ _) | ((with_reducible refine Below.stepp (by with_reducible assumption) ?_ ?_); focus (first | omega | (simp; done) | (simp; omega))))) (hOn3.below (by simp; omega) (fun b9 hb9 => HLO.out b9 hb9)); have HLO3 : Hid (∀ b9 ∈ blk S2, w.heap.size ≤ b9) := (fun b9 hb9 => by rcases hg3 b9 hb9 with h9 | h9; exact HLO.out b9 h9; (try simp at h9); omega); have HO3 := Lib.hid hO3; clear hO3 hOn3 hg3)
        go_roundw
        case rel => exact ⟨j + 1, S2, cS2, ys ++ [x], by omega, by go_num, by simp, by unfold Hid; rw [HS.out, HV.out], HO3, HLO3, HB3.out⟩
        case measure => simp [intOf]; omega
    · have hje : j = rs.length := by omega
      have HE : Hid (ys = rs.map (renM nm)) := by unfold Hid; rw [HY.out, hje, List.take_length]
      have HEL : Hid (ys.length = rs.length) := by unfold Hid; rw [HE.out, List.length_map]
      clear hje HY
      go_wp2
      go_ret
      exact ⟨S, cS, by rw [← HEL.out]; rfl, by rw [← HE.out]; exact HO.out, HLO.out, Y⟩
set_option maxHeartbeats 4000000 in
theorem slideOrder_any (v : Value) (h : HeapM) (w : World) (hv : RH w v h) (hva : validM h = true) :
    Calls Try.prog 171 #[v] w fun e w' => ∃ S c, e = .returned (.slice S (slideM h).length c) ∧ OF 3 fi w' S c (slideM h) ∧ (∀ b ∈ blk S, w.heap.size ≤ b) ∧ Below w.heap.size w w' := by
  have hv0 := hv
  obtain ⟨A, c, A', c', rfl, -, hr, hl1, hl2⟩ := hv
  obtain ⟨v1, -, -⟩ := valid_small hva
  have HVA := Lib.hid hva
  have hr64 := rchN_lt hva
  have HL := Lib.hid (rchN_list hva)
  obtain ⟨rn, hrn⟩ : ∃ rn, rn = rchN h := ⟨_, rfl⟩
  rw [← hrn] at hr64 HL
  have HRN := Lib.hid hrn
  clear hva hrn
  go_enter Try.func171, Try.ntmps171
  go_wp2_with fail
  have hW0 : Below w.heap.size w (((w.alloc (.cells #[.slice A h.cells.length c, .slice A' h.roots.length c'] 32)).alloc (.cells #[] 3))) := (by repeat (first | ((with_reducible refine Below.setc ?_ ?_ _); focus (first | omega | (simp; done) | (simp; omega))) | ((with_reducible refine Below.allocc ?_ ?_ _); focus (first | omega | (simp; done) | (simp; omega))) | (with_reducible refine Below.drew ?_) | (with_reducible refine Below.drewn ?_) | (with_reducible assumption) | (with_reducible exact Below.refl _ _) | ((with_reducible refine Below.stepp (by with_reducible assumption) ?_ ?_); focus (first | omega | (simp; done) | (simp; omega)))))
  have hz0 : (((w.alloc (.cells #[.slice A h.cells.length c, .slice A' h.roots.length c'] 32)).alloc (.cells #[] 3))).heap.size = w.heap.size + 2 := by simp
  have hK0 : OF 3 fi (((w.alloc (.cells #[.slice A h.cells.length c, .slice A' h.roots.length c'] 32)).alloc (.cells #[] 3))) (some ⟨w.heap.size + 1, 0, none⟩) 0 ([] : List Int) := OF.new0 (heap_alloc_at _ _ _ (by simp))
  have kb0 : (((w.alloc (.cells #[.slice A h.cells.length c, .slice A' h.roots.length c'] 32)).alloc (.cells #[] 3))).cell? ⟨w.heap.size, 0, none⟩ = some (.slice A h.cells.length c) := by simp [go_sem]
  have HK0 := Lib.hid hK0
  clear hK0
  generalize (((w.alloc (.cells #[.slice A h.cells.length c, .slice A' h.roots.length c'] 32)).alloc (.cells #[] 3))) = W0 at *
  (with_reducible refine (reachable_any _ h _ (hv0.below (by repeat (first | ((with_reducible refine Below.setc ?_ ?_ _); focus (first | omega | (simp; done) | (simp; omega))) | ((with_reducible refine Below.allocc ?_ ?_ _); focus (first | omega | (simp; done) | (simp; omega))) | (with_reducible refine Below.drew ?_) | (with_reducible refine Below.drewn ?_) | (with_reducible assumption) | (with_reducible exact Below.refl _ _) | ((with_reducible refine Below.stepp (by with_reducible assumption) ?_ ?_); focus (first | omega | (simp; done) | (simp; omega)))))) HVA.out).mono ?_)
  rw [← HRN.out]
  rintro e w2 ⟨rfl, hB⟩
  have Y : Below W0.heap.size W0 w2 := hB
  have HK := Lib.hid (HK0.out.below Y)
  have kb := cell_below kb0 Y
  clear hB HK0
  go_wp2
  go_loopw [3, 12] (fun s3 i wr => ∃ (j : Nat) (S : Option Addr) (cS : Nat), j ≤ h.cells.length ∧ i = .int .i64 j ∧ s3 = .slice S (slideN h j).length cS ∧ Hid (OF 3 fi wr S cS (slideN h j)) ∧ Hid (∀ b ∈ blk S, w.heap.size + 1 ≤ b) ∧ Below (w.heap.size + 1) W0 wr) (fun _ i _ => h.cells.length - (intOf i).toNat)
  case atStart => exact ⟨0, some ⟨w.heap.size + 1, 0, none⟩, 0, by omega, rfl, by simp [slideN], by unfold Hid; simpa [slideN] using HK.out, fun b hb => (by have := mem_blk_some hb; omega), Y.mono (by omega)⟩
  case round =>
    clear HK Y kb
    obtain ⟨j, S, cS, hj, rfl, rfl, HK, HSL, Y⟩ := hrel
    have sY := Y.size
    have hsl := slideN_len h j
    by_cases hlt : j < h.cells.length
    · have HXJ : Hid ((reachM h).getD j false = rn.testBit j) := by unfold Hid; rw [← HL.out]; simp [listB, List.getD, hlt]
      have HS := Lib.hid (slideN_succ h j)
      have hj64 : (j : Int) < 64 := by omega
      rcases bool_ft (rn.testBit j) with hx | hx
      all_goals
        have HX := Lib.hid hx
        clear hx
        go_wp2_with fail
        (with_reducible refine (has_any rn (j : Int) _ hj64 hr64).mono ?_)
        rw [hasB_nat, HX.out]
        rintro e w3 ⟨rfl, rfl⟩
      · have HN : Hid (slideN h (j + 1) = slideN h j) := by unfold Hid; rw [HS.out, HXJ.out, HX.out, if_neg (by simp)]
        go_wp2
        go_roundw
        case rel => exact ⟨j + 1, S, cS, by omega, by go_num, by rw [HN.out], by unfold Hid; rw [HN.out]; exact HK.out, HSL, Y⟩
        case measure => simp [intOf]; omega
      · have HN : Hid (slideN h (j + 1) = slideN h j ++ [(j : Int)]) := by unfold Hid; rw [HS.out, HXJ.out, HX.out, if_pos rfl]
        go_wp2_with (at_builtin; (refine wpList_appi rfl (.tmp 18) (.tmp 20) rfl (slideN h j) rfl rfl (HK.out.below (by repeat (first | ((with_reducible refine Below.setc ?_ ?_ _); focus (first | omega | (simp; done) | (simp; omega))) | ((with_reducible refine Below.allocc ?_ ?_ _); focus (first | omega | (simp; done) | (simp; omega))) | (with_reducible refine Below.drew ?_) | (with_reducible refine Below.drewn ?_) | (with_reducible assumption) | (with_reducible exact Below.refl _ _) | ((with_reducible refine Below.stepp (by with_reducible assumption) ?_ ?_); focus (first | omega | (simp; done) | (simp; omega)))))) (RF.singR (x := (j : Int)) (by simp [go_sem, fi])) (by simp; omega) ?_); intro S2 cS2 w3 hO3 hOn3 hg3; have HB3 : Hid (Below (w.heap.size + 1) W0 w3) := Below.trans (by repeat (first | ((with_reducible refine Below.setc ?_ ?_ _); focus (first | omega | (simp; done) | (simp; omega))) | ((with_reducible refine Below.allocc ?_ ?_ _); focus (first | omega | (simp; done) | (simp; omega))) | (with_reducible refine Below.drew ?_) | (with_reducible refine Below.drewn ?_) | (with_reducible assumption) | (with_reducible exact Below.refl _ _) | ((with_reducible refine Below.stepp (by with_reducible assumption) ?_ ?_); focus (first | omega | (simp; done) | (simp; omega))))) (hOn3.below (by simp; omega) (fun b9 hb9 => HSL.out b9 hb9)); have HSL3 : Hid (∀ b9 ∈ blk S2, w.heap.size + 1 ≤ b9) := (fun b9 hb9 => by rcases hg3 b9 hb9 with h9 | h9; exact HSL.out b9 h9; (try simp at h9); omega); have HK3 := Lib.hid hO3; clear hO3 hOn3 hg3)
        go_roundw
        case rel => exact ⟨j + 1, S2, cS2, by omega, by go_num, by rw [HN.out]; simp, by unfold Hid; rw [HN.out]; exact HK3.out, HSL3, HB3.out⟩
        case measure => simp [intOf]; omega
    · have hje : j = h.cells.length := by omega
      subst hje
      go_wp2
      go_ret
      exact ⟨S, cS, rfl, HK.out, fun b hb => by have := HSL.out b hb; omega, hW0.trans (Y.mono (by omega))⟩
end Go.Proofs.Ytkmfhadanbfadaa
