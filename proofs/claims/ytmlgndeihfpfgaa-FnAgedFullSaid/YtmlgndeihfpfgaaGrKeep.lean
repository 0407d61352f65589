/- Texts of one family, one behind the other: Keep, CollA. -/
import Derived.Test.YtmlgndeihfpfgaaChecked
import Derived.Deep.RegionHeld3
import Derived.Deep.DeepCutAuto
import Derived.Test.YtmlgndeihfpfgaaCloD
import Derived.Test.YtmlgndeihfpfgaaGrAged
import Derived.Test.YtmlgndeihfpfgaaGrSnap
import Derived.Test.YtmlgndeihfpfgaaGrData
/- keep of the program: cells that are not in a set are freed, the others become old. CollectAged of the program. -/
namespace Go.Proofs.Ytmlgndeihfpfgaa
open Go.RowKit
set_option maxRecDepth 100000
set_option linter.unusedSimpArgs false
set_option linter.unusedVariables false
theorem OF.keep2 {α : Type} {T : TypeId} {f : α → Value} {w w' : World} {g c : Nat} {xs : List α} (h : OF T f w (some ⟨g, 0, none⟩) c xs) (hk : w'.heap[g]? = w.heap[g]?) : OF T f w' (some ⟨g, 0, none⟩) c xs :=
  h.keep fun b hb => by rw [mem_blk_some hb]; exact hk
theorem nd3_mk {B B' : Option Addr} {os : List OCell} {g2 g3 : Nat} {n : Nat} (hnd : (hblks B os B').Nodup) (hlt : ∀ b ∈ hblks B os B', b < n) (h2 : n ≤ g2) (h3 : n ≤ g3) (h23 : g2 ≠ g3) : (hblks B os B' ++ blk (some ⟨g2, 0, none⟩) ++ blk (some ⟨g3, 0, none⟩)).Nodup := by
  simp only [blk, Option.toList, List.map_cons, List.map_nil, List.append_assoc, List.singleton_append]
  rw [List.nodup_append]
  refine ⟨hnd, by simp [h23], fun a ha b hb e => ?_⟩
  have := hlt a ha
  simp at hb
  rcases hb with rfl | rfl <;> omega
set_option maxHeartbeats 4000000 in
theorem keep_any (v : Value) (p : TwoM) (s : Nat) (w : World) (hv : RTw w v p) (hva : validM p.store = true) (hs : s < 18446744073709551616) :
    Calls Try.prog 57 #[v, .int .u64 (s : Int)] w fun e w' => ∃ v', e = .returned (.tuple #[v', .int .i64 (freedN p.store.cells (nots (listB s p.store.cells.length)))]) ∧ OTw w.heap.size w' v' ⟨dropM p.store (nots (listB s p.store.cells.length)), listB s p.store.cells.length, List.replicate p.store.cells.length false⟩ ∧ Below w.heap.size w w' := by
  obtain ⟨A, c, A', c', A2, c2, A3, c3, rfl, hh0, -, -, -, -⟩ := hv
  obtain ⟨v1, v2, v3⟩ := valid_small hva
  have v2' : p.store.roots.length ≤ 4 := by omega
  have HV3 := Lib.hid v3
  have HV := Lib.hid hva
  have hmk := mk_bools p.store.cells.length (by omega)
  have hub : usedBits p.store.cells < 18446744073709551616 := used64 hva
  have hand : bits .andNot .u64 ((usedBits p.store.cells : Nat) : Int) (s : Int) = ((andN (usedBits p.store.cells) s : Nat) : Int) := u64_andNot_nat _ _ hub hs
  have han : andN (usedBits p.store.cells) s < 18446744073709551616 := andN_lt hub
  have HBT : Hid (∀ (i : Nat) (c : CellM), p.store.cells[i]? = some c → c.used = true → (andN (usedBits p.store.cells) s).testBit i = (nots (listB s p.store.cells.length)).getD i false) := by
    intro i c hc hu
    have hi := (List.getElem?_eq_some_iff.1 hc).1
    rw [andN_test hub hs, usedBits_test, usedN_at hc, hu, nots_getD (by rw [listB_len]; exact hi)]
    simp [listB, List.getD, hi]
  have HG0 : Hid (∀ W, Below (((w.alloc (.cells #[.slice A p.store.cells.length c, .slice A' p.store.roots.length c', .slice A2 p.x.length c2, .slice A3 p.y.length c3] 45)).alloc (.cells #[.slice none 0 0, .slice none 0 0, .slice none 0 0, .slice none 0 0] 45))).heap.size (((w.alloc (.cells #[.slice A p.store.cells.length c, .slice A' p.store.roots.length c', .slice A2 p.x.length c2, .slice A3 p.y.length c3] 45)).alloc (.cells #[.slice none 0 0, .slice none 0 0, .slice none 0 0, .slice none 0 0] 45))) W → (W.cell? ⟨w.heap.size + 1, 0, none⟩ = some (.slice none 0 0) ∧ W.cell? ⟨w.heap.size + 1, 1, none⟩ = some (.slice none 0 0) ∧ W.cell? ⟨w.heap.size + 1, 2, none⟩ = some (.slice none 0 0) ∧ W.cell? ⟨w.heap.size + 1, 3, none⟩ = some (.slice none 0 0) ∧ ∀ o, W.frozen? ⟨w.heap.size + 1, o, none⟩ = false)) := fun W hW => ⟨cell_below (by simp [go_sem]) hW, cell_below (by simp [go_sem]) hW, cell_below (by simp [go_sem]) hW, cell_below (by simp [go_sem]) hW, fun o => ((bcell hW).2.1 _ _ (by simp)).trans (by simp [go_sem])⟩
  have hz0 : (((w.alloc (.cells #[.slice A p.store.cells.length c, .slice A' p.store.roots.length c', .slice A2 p.x.length c2, .slice A3 p.y.length c3] 45)).alloc (.cells #[.slice none 0 0, .slice none 0 0, .slice none 0 0, .slice none 0 0] 45))).heap.size = w.heap.size + 2 := by simp
  have hW0 : Below w.heap.size w (((w.alloc (.cells #[.slice A p.store.cells.length c, .slice A' p.store.roots.length c', .slice A2 p.x.length c2, .slice A3 p.y.length c3] 45)).alloc (.cells #[.slice none 0 0, .slice none 0 0, .slice none 0 0, .slice none 0 0] 45))) := blw_
  have hv0 : RH (((w.alloc (.cells #[.slice A p.store.cells.length c, .slice A' p.store.roots.length c', .slice A2 p.x.length c2, .slice A3 p.y.length c3] 45)).alloc (.cells #[.slice none 0 0, .slice none 0 0, .slice none 0 0, .slice none 0 0] 45))) (.agg #[.slice A p.store.cells.length c, .slice A' p.store.roots.length c']) p.store := (hh0.below hW0).rh _ _
  clear hva v2 v3 hh0
  go_enter Try.func57, Try.ntmps57
  go_wp2_with fail
  generalize (((w.alloc (.cells #[.slice A p.store.cells.length c, .slice A' p.store.roots.length c', .slice A2 p.x.length c2, .slice A3 p.y.length c3] 45)).alloc (.cells #[.slice none 0 0, .slice none 0 0, .slice none 0 0, .slice none 0 0] 45))) = W0 at *
  (with_reducible refine (copyHeap_any _ p.store _ (hv0.below blw_) (by omega) (fun d hd => Nat.le_trans (HV3.out d hd) (by omega)) (by omega)).mono ?_)
  rintro e w2 ⟨v2, rfl, ⟨B, d, B', d', os, rfl, hm2, hO2, hlo2⟩, hB2⟩
  have Y2 : Below W0.heap.size W0 w2 := blw_
  have sY2 := Y2.size
  have hP := PHx.mk_ (T := 29) hm2 hO2 hlo2 sY2
  have HP := Lib.hid hP
  have hmapl : os.length = p.store.cells.length := by have h9 := congrArg List.length hm2; simpa using h9
  have HML := Lib.hid hmapl
  have HM2 := Lib.hid hm2
  have HLT2 := Lib.hid hO2.lt
  clear hB2 hP hm2 hO2 hmapl hv0
  go_wp2_with fail
  (with_reducible refine (usedSet_any _ p.store _ ((HP.out.own.rhs HP.out.map).rh _ _) (by omega)).mono ?_)
  rintro e w4 ⟨rfl, hB4⟩
  have hP4 := HP.out.below hB4
  have q0 : w4.cell? ⟨w2.heap.size, 0, none⟩ = some (.slice B os.length d) := by rw [HML.out]; exact hP4.q0
  have hoc := hP4.own.cells
  have hgA := hP4.gA
  have HP4 := Lib.hid hP4
  have ho64 : os.length ≤ 64 := by rw [HML.out]; omega
  have Y4 : Below W0.heap.size W0 w4 := (Y2.alloc sY2 _).trans (hB4.mono (by simp; omega))
  have sY4 := Y4.size
  have sw4 : w2.heap.size < w4.heap.size := HP4.out.lt
  clear hB4 hP4 Y2
  go_wp2_with fail
  (with_reducible refine (freeCells_any w2.heap.size B d os (andN (usedBits p.store.cells) s) _ q0 hoc hgA ho64 han).mono ?_)
  rintro e w5 ⟨rfl, hC5, hOn5⟩
  have hBlo : ∀ b ∈ blk B, W0.heap.size ≤ b := fun b hb => hlo2 b (List.mem_append.2 (.inl (List.mem_append.2 (.inl hb))))
  have hX5 : Below W0.heap.size W0 w5 := Y4.trans (hOn5.below sY4 hBlo)
  have t0 := hOn5.cell (p := ⟨w2.heap.size, 0, none⟩) HP4.out.q0 hgA
  have t1 := hOn5.cell (p := ⟨w2.heap.size, 1, none⟩) HP4.out.q1 hgA
  have sw5 : w4.heap.size ≤ w5.heap.size := hOn5.size
  have HFR : Hid (freeN (andN (usedBits p.store.cells) s) (os.map (·.c)) os.length = freedN p.store.cells (nots (listB s p.store.cells.length))) := by
    unfold Hid
    rw [HM2.out, HML.out]
    exact freeN_drop (by rw [nots_len, listB_len]) HBT.out
  have hOH : OHs w5 B d B' d' (oPut (setF (andN (usedBits p.store.cells) s)) os.length os) p.store.roots := HP4.out.own.put_ hC5 (oPut_blks _ _ _ (Nat.le_refl _)) (oPut_len _ _ _) hOn5
  have hsub : ∀ b ∈ hblks B (oPut (setF (andN (usedBits p.store.cells) s)) os.length os) B', b ∈ hblks B os B' := fun b hb => by
    have := (oPut_blks (setF (andN (usedBits p.store.cells) s)) os os.length (Nat.le_refl _)).subset
    simp only [hblks, List.mem_append] at hb ⊢
    rcases hb with (hb | hb) | hb
    · exact .inl (.inl hb)
    · exact .inl (.inr (this hb))
    · exact .inr hb
  have hmap5 : (oPut (setF (andN (usedBits p.store.cells) s)) os.length os).map (·.c) = (dropM p.store (nots (listB s p.store.cells.length))).cells := by
    have hnl : (nots (listB s p.store.cells.length)).length = os.length := by rw [nots_len, listB_len, HML.out]
    have hdr := oPut_set (s := andN (usedBits p.store.cells) s) (os := os) (dead := nots (listB s p.store.cells.length)) hnl (fun i o ho hu => HBT.out i o.c (by rw [← HM2.out, List.getElem?_map, ho]; rfl) hu) (fun o ho => valid_free HV.out o.c (by rw [← HM2.out]; exact List.mem_map.2 ⟨o, ho, rfl⟩))
    rw [hdr, HM2.out]; rfl
  have hlen2 : (dropM p.store (nots (listB s p.store.cells.length))).cells.length = p.store.cells.length := dropCs_len (by rw [nots_len, listB_len])
  have HOH := Lib.hid hOH
  have HSUB := Lib.hid hsub
  have HMAP5 := Lib.hid hmap5
  have HX5 := Lib.hid hX5
  have hS : ∀ W, Only [w.heap.size + 1] w5 W → W.cell? ⟨w2.heap.size, 0, none⟩ = some (.slice B p.store.cells.length d) ∧ W.cell? ⟨w2.heap.size, 1, none⟩ = some (.slice B' p.store.roots.length d') := fun W hW => ⟨hW.cell t0 (by simp; omega), hW.cell t1 (by simp; omega)⟩
  clear hC5 hOn5 q0 hoc hgA hOH hsub hmap5 hX5 hBlo
  go_wp2_with fail
  go_region_held3 (fun W => W.cell? ⟨w2.heap.size, 0, none⟩ = some (.slice B p.store.cells.length d) ∧ W.cell? ⟨w2.heap.size, 1, none⟩ = some (.slice B' p.store.roots.length d'))
    (first | with_reducible exact hS _ (by repeat (first | (with_reducible refine Only.setCell ?_ (.inl (by simp)) _) | (with_reducible refine Only.drew ?_) | (with_reducible refine Only.alloc ?_ _) | (with_reducible assumption) | (with_reducible exact Only.refl _ _) | (with_reducible refine Only.trans ?_ (Only.of_below (by with_reducible assumption))))))
    (first
      | (go_at_call 61; (with_reducible refine (list_any s p.store.cells.length _ hs (by omega)).mono ?_); rintro e w6 ⟨rfl, hO6, hB6⟩; (have z_hB6 := Below.size hB6); (try simp only [World.size_alloc, World.size_setCell, World.size_drew, World.heap_drewN] at z_hB6); have Z6 : Below w5.heap.size w5 w6 := blw_; obtain ⟨r0, r1, r2, r3, rf⟩ := HG0.out w6 (HX5.out.trans (Z6.mono HX5.out.size)); have rf0 := rf 0; have rf1 := rf 1; have rf2 := rf 2; have rf3 := rf 3; (try simp only [World.size_drew, World.size_alloc] at hO6); have hl8 : w5.heap.size < w6.heap.size := (by have h9 := hO6.lt _ (List.mem_singleton.2 rfl); (try simp only at h9); omega); have HO6 := Lib.hid hO6; clear hO6; have hl6 : w.heap.size + 1 < w6.heap.size := (by have := Z6.size; omega); have hl7 : w2.heap.size < w6.heap.size := (by have := Z6.size; omega); have hn6 : w2.heap.size ≠ w.heap.size + 1 := (by omega); have hn7 : w.heap.size + 1 ≠ w2.heap.size := (by omega)))
  · go_wp2_with fail
    have X : Below w.heap.size w w6 := hW0.trans ((HX5.out.trans (Z6.mono HX5.out.size)).mono hW0.size)
    have zs := Z6.size
    have zx := HX5.out.size
    refine bodyPost_ret (v := .tuple #[.agg #[.slice B p.store.cells.length d, .slice B' p.store.roots.length d', .slice (some ⟨w5.heap.size, 0, none⟩) p.store.cells.length p.store.cells.length, .slice (some ⟨w6.heap.size, 0, none⟩) p.store.cells.length p.store.cells.length], .int .i64 (freeN (andN (usedBits p.store.cells) s) (os.map (·.c)) os.length)]) (by simp [results, Try.results57, go_sem, r0, r1, r2, r3, hl6]) rfl ⟨_, by rw [HFR.out], ?_, blw_⟩
    refine ⟨B, d, B', d', oPut (setF (andN (usedBits p.store.cells) s)) os.length os, some ⟨w5.heap.size, 0, none⟩, p.store.cells.length, some ⟨w6.heap.size, 0, none⟩, p.store.cells.length, ?_, HMAP5.out, ?_, ?_, ?_, nd3_mk (n := w5.heap.size) HOH.out.nodup HOH.out.lt (by omega) (by omega) (by omega), ?_, by simp only [listB_len]; omega, by simp only [List.length_replicate]; omega⟩
    · simp only [listB_len, List.length_replicate, hlen2]; rfl
    · exact HOH.out.keep fun b hb => by have h7 := HOH.out.lt b hb; have h8 := hlo2 b (HSUB.out b hb); (repeat (first | rw [heap_setCell_ne _ _ _ (by first | omega | (simp; done) | (simp; omega))] | rw [Below.heap_alloc _ _ _ (by first | omega | (simp; done) | (simp; omega))])); exact Z6.block b h7
    · exact HO6.out.keep2 (by (repeat (first | rw [heap_setCell_ne _ _ _ (by first | omega | (simp; done) | (simp; omega))] | rw [Below.heap_alloc _ _ _ (by first | omega | (simp; done) | (simp; omega))])))
    · exact OF.of_blkn (by simp) (heap_alloc_at _ _ _ (by simp)) (by simp only [maxLen, List.length_replicate]; omega)
    · intro b hb
      simp only [List.mem_append] at hb
      rcases hb with (hb | hb) | hb
      · have := hlo2 b (HSUB.out b hb); omega
      · have := mem_blk_some hb; omega
      · have := mem_blk_some hb; omega
  · go_wp2_with fail
    have X : Below w.heap.size w w6 := hW0.trans ((HX5.out.trans (Z6.mono HX5.out.size)).mono hW0.size)
    have zs := Z6.size
    have zx := HX5.out.size
    refine bodyPost_ret (v := .tuple #[.agg #[.slice B p.store.cells.length d, .slice B' p.store.roots.length d', .slice (some ⟨w5.heap.size + 1, 0, none⟩) p.store.cells.length p.store.cells.length, .slice (some ⟨w5.heap.size, 0, none⟩) p.store.cells.length p.store.cells.length], .int .i64 (freeN (andN (usedBits p.store.cells) s) (os.map (·.c)) os.length)]) (by simp [results, Try.results57, go_sem, r0, r1, r2, r3, hl6]) rfl ⟨_, by rw [HFR.out], ?_, blw_⟩
    refine ⟨B, d, B', d', oPut (setF (andN (usedBits p.store.cells) s)) os.length os, some ⟨w5.heap.size + 1, 0, none⟩, p.store.cells.length, some ⟨w5.heap.size, 0, none⟩, p.store.cells.length, ?_, HMAP5.out, ?_, ?_, ?_, nd3_mk (n := w5.heap.size) HOH.out.nodup HOH.out.lt (by omega) (by omega) (by omega), ?_, by simp only [listB_len]; omega, by simp only [List.length_replicate]; omega⟩
    · simp only [listB_len, List.length_replicate, hlen2]; rfl
    · exact HOH.out.keep fun b hb => by have h7 := HOH.out.lt b hb; have h8 := hlo2 b (HSUB.out b hb); (repeat (first | rw [heap_setCell_ne _ _ _ (by first | omega | (simp; done) | (simp; omega))] | rw [Below.heap_alloc _ _ _ (by first | omega | (simp; done) | (simp; omega))])); exact Z6.block b h7
    · exact HO6.out.keep2 (by (repeat (first | rw [heap_setCell_ne _ _ _ (by first | omega | (simp; done) | (simp; omega))] | rw [Below.heap_alloc _ _ _ (by first | omega | (simp; done) | (simp; omega))])))
    · exact OF.of_blkn (by simp) (by (repeat (first | rw [heap_setCell_ne _ _ _ (by first | omega | (simp; done) | (simp; omega))])); rw [Below.block hB6 _ (by first | omega | (simp; done) | (simp; omega))]; exact heap_alloc_at _ _ _ (by simp)) (by simp only [maxLen, List.length_replicate]; omega)
    · intro b hb
      simp only [List.mem_append] at hb
      rcases hb with (hb | hb) | hb
      · have := hlo2 b (HSUB.out b hb); omega
      · have := mem_blk_some hb; omega
      · have := mem_blk_some hb; omega
end Go.Proofs.Ytmlgndeihfpfgaa

/- CollectAged of both return collectAgedM, in new memory. -/
namespace Go.Proofs.Ytmlgndeihfpfgaa
open Go.RowKit
set_option maxRecDepth 100000
set_option linter.unusedSimpArgs false
set_option linter.unusedVariables false
theorem agedM_parts {p : TwoM} (h : agedM p = true) : validM p.store = true ∧ p.x.length = p.store.cells.length ∧ p.y.length = p.store.cells.length := by
  unfold agedM at h
  simp only [Bool.and_eq_true, decide_eq_true_eq] at h
  exact ⟨h.1.1.1, h.1.1.2, h.1.2⟩
theorem agedM_store {p : TwoM} (h : agedM p = true) : validM p.store = true := (agedM_parts h).1
theorem collectAged_no {p : TwoM} (h : agedM p = false) : collectAgedM p = (zeroT, -1) := by unfold collectAgedM; rw [h]; rfl
theorem collectAged_yes {p : TwoM} (h : agedM p = true) : collectAgedM p = (⟨dropM p.store (nots (reachM p.store)), reachM p.store, List.replicate p.store.cells.length false⟩, (freedN p.store.cells (nots (reachM p.store)) : Int)) := by
  unfold collectAgedM; rw [h, if_pos rfl, collectSweep_ok (agedM_store h)]
set_option maxHeartbeats 8000000 in
theorem implCollectAged_any (v : Value) (p : TwoM) (w : World) (hv : RTw w v p) :
    Calls Try.prog 22 #[v] w fun e w' => ∃ v', e = .returned (.tuple #[v', .int .i64 (collectAgedM p).2]) ∧ OTw w.heap.size w' v' (collectAgedM p).1 ∧ Below w.heap.size w w' := by
  have hv00 := hv
  obtain ⟨A, c, A', c', A2, c2, A3, c3, rfl, hh0, -, -, -, -⟩ := hv
  have HG0 : Hid (∀ W, Below (((w.alloc (.cells #[.slice A p.store.cells.length c, .slice A' p.store.roots.length c', .slice A2 p.x.length c2, .slice A3 p.y.length c3] 45)).alloc (.cells #[.slice none 0 0, .slice none 0 0, .slice none 0 0, .slice none 0 0] 45))).heap.size (((w.alloc (.cells #[.slice A p.store.cells.length c, .slice A' p.store.roots.length c', .slice A2 p.x.length c2, .slice A3 p.y.length c3] 45)).alloc (.cells #[.slice none 0 0, .slice none 0 0, .slice none 0 0, .slice none 0 0] 45))) W → (W.cell? ⟨w.heap.size + 1, 0, none⟩ = some (.slice none 0 0) ∧ W.cell? ⟨w.heap.size + 1, 1, none⟩ = some (.slice none 0 0) ∧ W.cell? ⟨w.heap.size + 1, 2, none⟩ = some (.slice none 0 0) ∧ W.cell? ⟨w.heap.size + 1, 3, none⟩ = some (.slice none 0 0) ∧ ∀ o, W.frozen? ⟨w.heap.size + 1, o, none⟩ = false)) := fun W hW => ⟨cell_below (by simp [go_sem]) hW, cell_below (by simp [go_sem]) hW, cell_below (by simp [go_sem]) hW, cell_below (by simp [go_sem]) hW, fun o => ((bcell hW).2.1 _ _ (by simp)).trans (by simp [go_sem])⟩
  have HF0 : Hid (∀ W, Only [w.heap.size + 1] (((w.alloc (.cells #[.slice A p.store.cells.length c, .slice A' p.store.roots.length c', .slice A2 p.x.length c2, .slice A3 p.y.length c3] 45)).alloc (.cells #[.slice none 0 0, .slice none 0 0, .slice none 0 0, .slice none 0 0] 45))) W → (W.cell? ⟨w.heap.size, 0, none⟩ = some (.slice A p.store.cells.length c) ∧ W.cell? ⟨w.heap.size, 1, none⟩ = some (.slice A' p.store.roots.length c') ∧ W.cell? ⟨w.heap.size, 2, none⟩ = some (.slice A2 p.x.length c2) ∧ W.cell? ⟨w.heap.size, 3, none⟩ = some (.slice A3 p.y.length c3))) := fun W hW => ⟨hW.cell (by simp [go_sem]) (by simp), hW.cell (by simp [go_sem]) (by simp), hW.cell (by simp [go_sem]) (by simp), hW.cell (by simp [go_sem]) (by simp)⟩
  have hz0 : (((w.alloc (.cells #[.slice A p.store.cells.length c, .slice A' p.store.roots.length c', .slice A2 p.x.length c2, .slice A3 p.y.length c3] 45)).alloc (.cells #[.slice none 0 0, .slice none 0 0, .slice none 0 0, .slice none 0 0] 45))).heap.size = w.heap.size + 2 := by simp
  have hW0 : Below w.heap.size w (((w.alloc (.cells #[.slice A p.store.cells.length c, .slice A' p.store.roots.length c', .slice A2 p.x.length c2, .slice A3 p.y.length c3] 45)).alloc (.cells #[.slice none 0 0, .slice none 0 0, .slice none 0 0, .slice none 0 0] 45))) := blw_
  have hv0 := hv00.below hW0
  have hh : RHs (((w.alloc (.cells #[.slice A p.store.cells.length c, .slice A' p.store.roots.length c', .slice A2 p.x.length c2, .slice A3 p.y.length c3] 45)).alloc (.cells #[.slice none 0 0, .slice none 0 0, .slice none 0 0, .slice none 0 0] 45))) A A' p.store := hh0.below hW0
  clear hv00 hh0
  cases hva : agedM p
  · have HV := Lib.hid hva
    have HE := Lib.hid (collectAged_no hva)
    clear hva
    go_enter Try.func22, Try.ntmps22; go_wp2_with fail; generalize (((w.alloc (.cells #[.slice A p.store.cells.length c, .slice A' p.store.roots.length c', .slice A2 p.x.length c2, .slice A3 p.y.length c3] 45)).alloc (.cells #[.slice none 0 0, .slice none 0 0, .slice none 0 0, .slice none 0 0] 45))) = W0 at *; (with_reducible refine (implAgedValid_any _ p _ (hv0.below blw_)).mono ?_); rw [HV.out]; rintro e w1 ⟨rfl, hB⟩; (have z_hB := Below.size hB); (try simp only [World.size_alloc, World.size_setCell, World.size_drew, World.heap_drewN] at z_hB); have Y : Below W0.heap.size W0 w1 := blw_; clear hB; have sY := Y.size; obtain ⟨r0, r1, r2, r3, rf⟩ := HG0.out w1 Y; have rf0 := rf 0; have rf1 := rf 1; have rf2 := rf 2; have rf3 := rf 3; obtain ⟨a0, a1, a2, a3⟩ := HF0.out w1 (Only.of_below Y); go_wp2_with fail
    have X : Below w.heap.size w w1 := hW0.trans (Y.mono hW0.size)
    refine bodyPost_ret (v := .tuple #[.agg #[.slice none 0 0, .slice none 0 0, .slice none 0 0, .slice none 0 0], .int .i64 (-1)]) (by simp [results, Try.results22, go_sem, r0, r1, r2, r3]) rfl ⟨_, by rw [HE.out], ?_, blw_⟩
    rw [HE.out]
    exact OTw.zero
  have HV := Lib.hid hva
  have HE := Lib.hid (collectAged_yes hva)
  have hvs := agedM_store hva
  have HVS := Lib.hid hvs
  have hr64 := rchN_lt hvs
  have HL : Hid (listB (rchN p.store) p.store.cells.length = reachM p.store) := rchN_list hvs
  obtain ⟨rn, hrn⟩ : ∃ rn, rn = rchN p.store := ⟨_, rfl⟩
  rw [← hrn] at hr64 HL
  have HRN := Lib.hid hrn
  clear hva hvs hrn
  go_enter Try.func22, Try.ntmps22; go_wp2_with fail; generalize (((w.alloc (.cells #[.slice A p.store.cells.length c, .slice A' p.store.roots.length c', .slice A2 p.x.length c2, .slice A3 p.y.length c3] 45)).alloc (.cells #[.slice none 0 0, .slice none 0 0, .slice none 0 0, .slice none 0 0] 45))) = W0 at *; (with_reducible refine (implAgedValid_any _ p _ (hv0.below blw_)).mono ?_); rw [HV.out]; rintro e w1 ⟨rfl, hB⟩; (have z_hB := Below.size hB); (try simp only [World.size_alloc, World.size_setCell, World.size_drew, World.heap_drewN] at z_hB); have Y : Below W0.heap.size W0 w1 := blw_; clear hB; have sY := Y.size; obtain ⟨r0, r1, r2, r3, rf⟩ := HG0.out w1 Y; have rf0 := rf 0; have rf1 := rf 1; have rf2 := rf 2; have rf3 := rf 3; obtain ⟨a0, a1, a2, a3⟩ := HF0.out w1 (Only.of_below Y); go_wp2_with fail
  go_region_held3 (fun W => (W.cell? ⟨w.heap.size, 0, none⟩ = some (.slice A p.store.cells.length c) ∧ W.cell? ⟨w.heap.size, 1, none⟩ = some (.slice A' p.store.roots.length c') ∧ W.cell? ⟨w.heap.size, 2, none⟩ = some (.slice A2 p.x.length c2) ∧ W.cell? ⟨w.heap.size, 3, none⟩ = some (.slice A3 p.y.length c3))) (first | with_reducible exact HF0.out _ (by repeat (first | (with_reducible refine Only.setCell ?_ (.inl (by simp)) _) | (with_reducible refine Only.drew ?_) | (with_reducible refine Only.alloc ?_ _) | (with_reducible assumption) | (with_reducible exact Only.refl _ _) | (with_reducible refine Only.trans ?_ (Only.of_below (by with_reducible assumption))))))
    (first
      | (go_at_call 58; (with_reducible refine (reachable_any _ p.store _ ((hh.below blw_).rh _ _) HVS.out).mono ?_); rw [← HRN.out]; rintro e w5 ⟨rfl, hB⟩; (have z_hB := Below.size hB); (try simp only [World.size_alloc, World.size_setCell, World.size_drew, World.heap_drewN] at z_hB))
      | (go_at_call 57; (with_reducible refine (keep_any _ p rn _ (hv0.below blw_) HVS.out hr64).mono ?_); rw [HL.out]; rintro e w2 ⟨v4, rfl, ⟨B, d, B', d', os, B2, d2, B3, d3, rfl, o4⟩, hB4⟩; (have z_hB4 := Below.size hB4); (try simp only [World.size_alloc, World.size_setCell, World.size_drew, World.heap_drewN] at z_hB4); have Y2 : Below W0.heap.size W0 w2 := blw_; clear hB4; obtain ⟨r0, r1, r2, r3, rf⟩ := HG0.out w2 Y2; have rf0 := rf 0; have rf1 := rf 1; have rf2 := rf 2; have rf3 := rf 3))
  all_goals
    go_wp2_with fail
    have X : Below w.heap.size w w2 := hW0.trans (Y2.mono hW0.size)
    refine bodyPost_ret (v := .tuple #[.agg #[.slice B (dropM p.store (nots (reachM p.store))).cells.length d, .slice B' p.store.roots.length d', .slice B2 (reachM p.store).length d2, .slice B3 p.store.cells.length d3], .int .i64 (freedN p.store.cells (nots (reachM p.store)))]) (by simp [results, Try.results22, go_sem, r0, r1, r2, r3]; try rfl) rfl ⟨_, by rw [HE.out], ?_, blw_⟩
    rw [HE.out]
    have hb : OTw (w.heap.size + 2) w2 (.agg #[.slice B (dropM p.store (nots (reachM p.store))).cells.length d, .slice B' p.store.roots.length d', .slice B2 (reachM p.store).length d2, .slice B3 p.store.cells.length d3]) ⟨dropM p.store (nots (reachM p.store)), reachM p.store, List.replicate p.store.cells.length false⟩ := ⟨B, d, B', d', os, B2, d2, B3, d3, by simp; rfl, o4.1, o4.2.1, o4.2.2.1, o4.2.2.2.1, o4.2.2.2.2.1, fun b hb => by have h7 := o4.2.2.2.2.2.1 b hb; (try simp only [World.size_alloc, World.size_setCell, World.size_drew, World.heap_drewN] at h7); omega, o4.2.2.2.2.2.2⟩
    exact ((((hb.setlt (by simp) _).setlt (by simp) _).setlt (by simp) _).setlt (by simp) _).lo_ (by omega)
end Go.Proofs.Ytmlgndeihfpfgaa
