/- CollectYoung of the reference returns collectYoungM, in new memory. -/
import Derived.Test.YtmlgndeihfpfgaaChecked
import Derived.Deep.RegionHeld3
import Derived.Deep.DeepCutAuto
import Derived.IntWalk
import Derived.Test.YtmlgndeihfpfgaaCollYP
namespace Go.Proofs.Ytmlgndeihfpfgaa
open Go.RowKit
set_option maxRecDepth 100000
set_option linter.unusedSimpArgs false
set_option linter.unusedVariables false
set_option maxHeartbeats 8000000 in
theorem specCollectYoung_any (v : Value) (p : TwoM) (w : World) (hv : RTw w v p) :
    Calls Try.prog 55 #[v] w fun e w' => ∃ v', e = .returned (.tuple #[v', .int .i64 (collectYoungM p).2]) ∧ OTw w.heap.size w' v' (collectYoungM p).1 ∧ Below w.heap.size w w' := by
  have hv00 := hv
  obtain ⟨A, c, A', c', A2, c2, A3, c3, rfl, hh0, hx0, -, hy0, -⟩ := hv
  have HG0 : Hid (∀ W, Below (((w.alloc (.cells #[.slice A p.store.cells.length c, .slice A' p.store.roots.length c', .slice A2 p.x.length c2, .slice A3 p.y.length c3] 45)).alloc (.cells #[.slice none 0 0, .slice none 0 0, .slice none 0 0, .slice none 0 0] 45))).heap.size (((w.alloc (.cells #[.slice A p.store.cells.length c, .slice A' p.store.roots.length c', .slice A2 p.x.length c2, .slice A3 p.y.length c3] 45)).alloc (.cells #[.slice none 0 0, .slice none 0 0, .slice none 0 0, .slice none 0 0] 45))) W → (W.cell? ⟨w.heap.size + 1, 0, none⟩ = some (.slice none 0 0) ∧ W.cell? ⟨w.heap.size + 1, 1, none⟩ = some (.slice none 0 0) ∧ W.cell? ⟨w.heap.size + 1, 2, none⟩ = some (.slice none 0 0) ∧ W.cell? ⟨w.heap.size + 1, 3, none⟩ = some (.slice none 0 0) ∧ ∀ o, W.frozen? ⟨w.heap.size + 1, o, none⟩ = false)) := fun W hW => ⟨cell_below (by simp [go_sem]) hW, cell_below (by simp [go_sem]) hW, cell_below (by simp [go_sem]) hW, cell_below (by simp [go_sem]) hW, fun o => ((bcell hW).2.1 _ _ (by simp)).trans (by simp [go_sem])⟩
  have HF0 : Hid (∀ W, Only [w.heap.size + 1] (((w.alloc (.cells #[.slice A p.store.cells.length c, .slice A' p.store.roots.length c', .slice A2 p.x.length c2, .slice A3 p.y.length c3] 45)).alloc (.cells #[.slice none 0 0, .slice none 0 0, .slice none 0 0, .slice none 0 0] 45))) W → (W.cell? ⟨w.heap.size, 0, none⟩ = some (.slice A p.store.cells.length c) ∧ W.cell? ⟨w.heap.size, 1, none⟩ = some (.slice A' p.store.roots.length c') ∧ W.cell? ⟨w.heap.size, 2, none⟩ = some (.slice A2 p.x.length c2) ∧ W.cell? ⟨w.heap.size, 3, none⟩ = some (.slice A3 p.y.length c3))) := fun W hW => ⟨hW.cell (by simp [go_sem]) (by simp), hW.cell (by simp [go_sem]) (by simp), hW.cell (by simp [go_sem]) (by simp), hW.cell (by simp [go_sem]) (by simp)⟩
  have hz0 : (((w.alloc (.cells #[.slice A p.store.cells.length c, .slice A' p.store.roots.length c', .slice A2 p.x.length c2, .slice A3 p.y.length c3] 45)).alloc (.cells #[.slice none 0 0, .slice none 0 0, .slice none 0 0, .slice none 0 0] 45))).heap.size = w.heap.size + 2 := by simp
  have hW0 : Below w.heap.size w (((w.alloc (.cells #[.slice A p.store.cells.length c, .slice A' p.store.roots.length c', .slice A2 p.x.length c2, .slice A3 p.y.length c3] 45)).alloc (.cells #[.slice none 0 0, .slice none 0 0, .slice none 0 0, .slice none 0 0] 45))) := blw_
  have hv0 := hv00.below hW0
  have hh : RHs (((w.alloc (.cells #[.slice A p.store.cells.length c, .slice A' p.store.roots.length c', .slice A2 p.x.length c2, .slice A3 p.y.length c3] 45)).alloc (.cells #[.slice none 0 0, .slice none 0 0, .slice none 0 0, .slice none 0 0] 45))) A A' p.store := hh0.below hW0
  have HX := Lib.hid (hx0.below hW0)
  have HY := Lib.hid (hy0.below hW0)
  clear hv00 hh0 hx0 hy0
  cases hva : agedM p
  · have HV := Lib.hid hva
    have HE := Lib.hid (collectYoung_no hva)
    clear hva
    go_enter Try.func55, Try.ntmps55; go_wp2_with fail; generalize (((w.alloc (.cells #[.slice A p.store.cells.length c, .slice A' p.store.roots.length c', .slice A2 p.x.length c2, .slice A3 p.y.length c3] 45)).alloc (.cells #[.slice none 0 0, .slice none 0 0, .slice none 0 0, .slice none 0 0] 45))) = W0 at *; (with_reducible refine (specAgedValid_any _ p _ (hv0.below blw_)).mono ?_); rw [HV.out]; rintro e w1 ⟨rfl, hB⟩; (have z_hB := Below.size hB); (try simp only [World.size_alloc, World.size_setCell, World.size_drew, World.heap_drewN] at z_hB); have Y : Below W0.heap.size W0 w1 := blw_; clear hB; have sY := Y.size; have hsw := Nat.lt_of_lt_of_le (show w.heap.size < W0.heap.size by omega) sY; have hsw1 := Nat.lt_of_lt_of_le (show w.heap.size + 1 < W0.heap.size by omega) sY; obtain ⟨a0, a1, a2, a3⟩ := HF0.out _ (Only.of_below Y)
    obtain ⟨r0, r1, r2, r3, rf⟩ := HG0.out _ Y; have rf0 := rf 0; have rf1 := rf 1; have rf2 := rf 2; have rf3 := rf 3; clear rf
    go_wp2_with fail
    have X : Below w.heap.size w w1 := hW0.trans (Y.mono hW0.size)
    refine bodyPost_ret (v := .tuple #[.agg #[.slice none 0 0, .slice none 0 0, .slice none 0 0, .slice none 0 0], .int .i64 (-1)]) (by simp [results, Try.results55, go_sem, r0, r1, r2, r3]) rfl ⟨_, by rw [HE.out], ?_, blw_⟩
    rw [HE.out]
    exact OTw.zero
  have HV := Lib.hid hva
  have HE := Lib.hid (collectYoung_yes hva)
  obtain ⟨hvs, hxl, hyl⟩ := agedM_parts hva
  have HVS := Lib.hid hvs
  have HXL := Lib.hid hxl
  have HYL := Lib.hid hyl
  obtain ⟨v1, v2_, -⟩ := valid_small hvs
  have v2 : p.store.roots.length ≤ 4 := by omega
  clear v2_
  have x40 : p.x.length ≤ 64 := by omega
  have y40 : p.y.length ≤ 40 := by omega
  have HKM := Lib.hid (keepM_len2 hva)
  have HRL := Lib.hid (validM_lt hvs).2
  have HCL := Lib.hid (validM_lt hvs).1
  have HC3 := Lib.hid (valid_small hvs).2.2
  have HI := Lib.hid (YouS.init hvs hxl)
  clear hva hvs hxl hyl
  go_enter Try.func55, Try.ntmps55; go_wp2_with fail; generalize (((w.alloc (.cells #[.slice A p.store.cells.length c, .slice A' p.store.roots.length c', .slice A2 p.x.length c2, .slice A3 p.y.length c3] 45)).alloc (.cells #[.slice none 0 0, .slice none 0 0, .slice none 0 0, .slice none 0 0] 45))) = W0 at *; (with_reducible refine (specAgedValid_any _ p _ (hv0.below blw_)).mono ?_); rw [HV.out]; rintro e w1 ⟨rfl, hB⟩; (have z_hB := Below.size hB); (try simp only [World.size_alloc, World.size_setCell, World.size_drew, World.heap_drewN] at z_hB); have Y : Below W0.heap.size W0 w1 := blw_; clear hB; have sY := Y.size; have hsw := Nat.lt_of_lt_of_le (show w.heap.size < W0.heap.size by omega) sY; have hsw1 := Nat.lt_of_lt_of_le (show w.heap.size + 1 < W0.heap.size by omega) sY; obtain ⟨a0, a1, a2, a3⟩ := HF0.out _ (Only.of_below Y)
  go_wp2
  go_loopw [4, 5] (fun s4 i wr => ∃ (j : Nat) (S : Option Addr) (cS : Nat) (fr : List Int), j ≤ p.store.roots.length ∧ i = .int .i64 j ∧ s4 = .slice S fr.length cS ∧ Hid (fr = (p.store.roots.take j).filter (youngRef p.x)) ∧ Hid (OF 3 fi wr S cS fr) ∧ Hid (∀ b ∈ blk S, W0.heap.size ≤ b) ∧ Below W0.heap.size W0 wr) (fun _ i _ => p.store.roots.length - (intOf i).toNat)
  case atStart => exact ⟨0, some ⟨w1.heap.size, 0, none⟩, 0, [], by omega, rfl, rfl, rfl, OF.fresh0 (heap_alloc_at _ _ _ rfl), fun b hb => by rw [mem_blk_some hb]; omega, blw_⟩
  case round =>
    clear Y sY hsw hsw1 a0 a1 a2 a3
    obtain ⟨j, S, cS, fr, hj, rfl, rfl, HF, HO, HLO, Y⟩ := hrel
    have sY := Y.size; have hsw := Nat.lt_of_lt_of_le (show w.heap.size < W0.heap.size by omega) sY; have hsw1 := Nat.lt_of_lt_of_le (show w.heap.size + 1 < W0.heap.size by omega) sY; obtain ⟨a0, a1, a2, a3⟩ := HF0.out _ (Only.of_below Y)
    have hfl : fr.length ≤ 1000 := by have := List.length_filter_le (youngRef p.x) (p.store.roots.take j); rw [← HF.out, List.length_take] at this; omega
    by_cases hlt : j < p.store.roots.length
    · obtain ⟨b, o, r, rfl, gr, c1, hb⟩ := (hh.roots.below Y).at_ hlt
      have n1 : wr.cell? ⟨b, o + j, none⟩ = some (.int .i64 r) := c1
      have hrn := HRL.out r (List.mem_of_getElem? gr)
      have HS := Lib.hid (filt_snoc (f := youngRef p.x) gr)
      clear gr c1
      rcases Classical.em (r < 0) with h0 | h0
      · have HN : Hid (fr = (p.store.roots.take (j + 1)).filter (youngRef p.x)) := by unfold Hid; rw [HS.out, if_neg (by unfold youngRef; simp; omega)]; exact HF.out
        have h0' : ¬ (0 : Int) ≤ r := by omega
        go_wp2
        go_roundw
        case rel => exact ⟨j + 1, S, cS, fr, by omega, by go_num, rfl, HN, HO, HLO, Y⟩
        case measure => simp [intOf]; omega
      have hr0 : 0 ≤ r := by omega
      have hrx : r.toNat < p.x.length := by have := HXL.out; omega
      obtain ⟨b5, o5, x, rfl, g5, m5, -⟩ := (HX.out.below Y).at_ hrx
      have n5 : wr.cell? ⟨b5, o5 + r.toNat, none⟩ = some (.bool x) := m5
      have hrI : r < (p.x.length : Int) := by omega
      have HXV : Hid (youngRef p.x r = !x) := by unfold Hid youngRef; rw [List.getD, g5]; simp [hr0]
      clear g5 m5 h0
      rcases bool_ft x with rfl | rfl
      · have HN : Hid (fr ++ [r] = (p.store.roots.take (j + 1)).filter (youngRef p.x)) := by unfold Hid; rw [HS.out, if_pos (by rw [HXV.out]; rfl), ← HF.out]
        go_wp2_with (at_builtin; (refine wpList_appi rfl (.tmp 47) (.tmp 49) rfl fr rfl rfl (HO.out.below blw_) (RF.singR (x := r) (by simp [go_sem, fi])) (by simp; omega) ?_); intro S2 cS2 w3 hO3 hOn3 hg3; have HB3 : Hid (Below W0.heap.size W0 w3) := Below.trans blw_ (hOn3.below (by simp; omega) (fun b9 hb9 => HLO.out b9 hb9)); have HLO3 : Hid (∀ b9 ∈ blk S2, W0.heap.size ≤ b9) := (fun b9 hb9 => by rcases hg3 b9 hb9 with h9 | h9; exact HLO.out b9 h9; simp at h9; omega); have HO3 := Lib.hid hO3; skip; clear hO3 hOn3 hg3)
        go_roundw
        case rel => exact ⟨j + 1, S2, cS2, fr ++ [r], by omega, by go_num, by simp, HN, HO3, HLO3, HB3.out⟩
        case measure => simp [intOf]; omega
      · have HN : Hid (fr = (p.store.roots.take (j + 1)).filter (youngRef p.x)) := by unfold Hid; rw [HS.out, if_neg (by rw [HXV.out]; simp)]; exact HF.out
        go_wp2
        go_roundw
        case rel => exact ⟨j + 1, S, cS, fr, by omega, by go_num, rfl, HN, HO, HLO, Y⟩
        case measure => simp [intOf]; omega
    · have HF2 : Hid (fr = frS p 0) := by unfold Hid; rw [HF.out, frS_zero, List.take_of_length_le (by omega)]
      clear HF hfl
      go_wp2
      go_loopw [4, 7] (fun s4 i wr => ∃ (j : Nat) (S : Option Addr) (cS : Nat) (fr : List Int), j ≤ p.x.length ∧ i = .int .i64 j ∧ s4 = .slice S fr.length cS ∧ Hid (fr = frS p j) ∧ Hid (OF 3 fi wr S cS fr) ∧ Hid (∀ b ∈ blk S, W0.heap.size ≤ b) ∧ Below W0.heap.size W0 wr) (fun _ i _ => p.x.length - (intOf i).toNat)
      case atStart => exact ⟨0, S, cS, fr, by omega, rfl, rfl, HF2, HO, HLO, Y⟩
      case round =>
        clear Y sY hsw hsw1 a0 a1 a2 a3 HF2 HO HLO hlt hj
        obtain ⟨k, S, cS, fr, hj, rfl, rfl, HF, HO, HLO, Y⟩ := hrel
        have sY := Y.size; have hsw := Nat.lt_of_lt_of_le (show w.heap.size < W0.heap.size by omega) sY; have hsw1 := Nat.lt_of_lt_of_le (show w.heap.size + 1 < W0.heap.size by omega) sY; obtain ⟨a0, a1, a2, a3⟩ := HF0.out _ (Only.of_below Y)
        have hfl : fr.length ≤ 1000 := by have := frS_len HVS.out k; rw [← HF.out] at this; omega
        by_cases hlt : k < p.x.length
        · have hkc : k < p.store.cells.length := by have := HXL.out; omega
          have hky : k < p.y.length := by have := HYL.out; omega
          obtain ⟨b3, o3, y, rfl, g3, m3, -⟩ := (HY.out.below Y).at_ hky
          have n3 : wr.cell? ⟨b3, o3 + k, none⟩ = some (.bool y) := m3
          obtain ⟨b, o, cc, Ac, cr2, rfl, gc, -, -, d2, hrr, hrl2, hb⟩ := (hh.cells.below Y).at_ hkc
          have HYJ : Hid (p.y.getD k false = y) := by unfold Hid; rw [List.getD, g3]; rfl
          have HCR := Lib.hid (refsAt_of gc)
          have hrl3 : cc.refs.length ≤ 3 := HC3.out cc (List.mem_of_getElem? gc)
          have HLT3 := Lib.hid (HCL.out cc (List.mem_of_getElem? gc))
          have hd2 : ∀ W, Below W0.heap.size W0 W → W.cell? ⟨b, o + k * 3 + 2, none⟩ = some (.slice Ac cc.refs.length cr2) := fun W hW => by
            obtain ⟨b9, o9, c9, A9, k9, e9, g9, -, -, d9, -, -, -⟩ := hh.cells.at_ hkc
            injection e9 with e9; injection e9 with e91 e92; subst e91; subst e92
            have h7 := cell_below d2 (Below.refl _ _)
            rw [gc] at g9; injection g9 with g9; subst g9
            have h8 := cell_below d9 Y
            rw [d2] at h8; injection h8 with h8
            rw [h8]; exact cell_below d9 hW
          have HD2 := Lib.hid hd2
          have hn3 : ∀ W, Below W0.heap.size W0 W → W.cell? ⟨b3, o3 + k, none⟩ = some (.bool y) := fun W hW => by
            obtain ⟨b9, o9, x9, e9, g9, m9, -⟩ := HY.out.at_ hky
            injection e9 with e9; injection e9 with e91 e92; subst e91; subst e92
            rw [g3] at g9; injection g9 with g9; subst g9; exact cell_below m9 hW
          have HN3 := Lib.hid hn3
          have hrr2 : ∀ W, Below W0.heap.size W0 W → RF fi W Ac cc.refs := fun W hW => by
            obtain ⟨b9, o9, c9, A9, k9, e9, g9, -, -, d9, r9, -, -⟩ := hh.cells.at_ hkc
            injection e9 with e9; injection e9 with e91 e92; subst e91; subst e92
            rw [gc] at g9; injection g9 with g9; subst g9
            have h8 := cell_below d9 Y
            rw [d2] at h8; injection h8 with h8; injection h8 with h81 h82 h83
            rw [h81]; exact r9.below hW
          have HRR := Lib.hid hrr2
          have hfl3 : fr.length ≤ 200 := by have := frS_len HVS.out k; rw [← HF.out] at this; omega
          clear m3 g3 hrr gc hrl2 hd2 hn3 hrr2
          rcases (bool_ft y).symm with rfl | rfl
          · go_wp2
            go_loopw [4, 8] (fun s4 i wr => ∃ (j2 : Nat) (S : Option Addr) (cS : Nat) (fr2 : List Int), j2 ≤ cc.refs.length ∧ i = .int .i64 j2 ∧ s4 = .slice S fr2.length cS ∧ Hid (fr2 = fr ++ (cc.refs.take j2).filter (youngRef p.x)) ∧ Hid (OF 3 fi wr S cS fr2) ∧ Hid (∀ b ∈ blk S, W0.heap.size ≤ b) ∧ Below W0.heap.size W0 wr) (fun _ i _ => cc.refs.length - (intOf i).toNat)
            case atStart => exact ⟨0, S, cS, fr, by omega, rfl, rfl, by unfold Hid; simp, HO, HLO, Y⟩
            case round =>
              clear Y sY hsw hsw1 a0 a1 a2 a3 HO HLO d2 n3
              obtain ⟨j2, S, cS, fr2, hj2, rfl, rfl, HF2, HO, HLO, Y⟩ := hrel
              have sY := Y.size; have hsw := Nat.lt_of_lt_of_le (show w.heap.size < W0.heap.size by omega) sY; have hsw1 := Nat.lt_of_lt_of_le (show w.heap.size + 1 < W0.heap.size by omega) sY; obtain ⟨a0, a1, a2, a3⟩ := HF0.out _ (Only.of_below Y)
              have d2 := HD2.out _ Y
              have n3 := HN3.out _ Y
              have hfl2 : fr2.length ≤ 1000 := by rw [HF2.out, List.length_append]; have := List.length_filter_le (youngRef p.x) (cc.refs.take j2); rw [List.length_take] at this; omega
              by_cases hlt2 : j2 < cc.refs.length
              · obtain ⟨b7, o7, r, rfl, gr, c1, hb7⟩ := (HRR.out _ Y).at_ hlt2
                have n1 : wr.cell? ⟨b7, o7 + j2, none⟩ = some (.int .i64 r) := c1
                have hrn := HLT3.out r (List.mem_of_getElem? gr)
                have HS := Lib.hid (filt_snoc (f := youngRef p.x) gr)
                clear gr c1
                rcases Classical.em (r < 0) with h0 | h0
                · have HN : Hid (fr2 = fr ++ (cc.refs.take (j2 + 1)).filter (youngRef p.x)) := by unfold Hid; rw [HS.out, if_neg (by unfold youngRef; simp; omega)]; exact HF2.out
                  have h0' : ¬ (0 : Int) ≤ r := by omega
                  go_wp2
                  go_roundw
                  case rel => exact ⟨j2 + 1, S, cS, fr2, by omega, by go_num, rfl, HN, HO, HLO, Y⟩
                  case measure => simp [intOf]; omega
                have hr0 : 0 ≤ r := by omega
                have hrx : r.toNat < p.x.length := by have := HXL.out; omega
                obtain ⟨b5, o5, x, rfl, g5, m5, -⟩ := (HX.out.below Y).at_ hrx
                have n5 : wr.cell? ⟨b5, o5 + r.toNat, none⟩ = some (.bool x) := m5
                have hrI : r < (p.x.length : Int) := by omega
                have HXV : Hid (youngRef p.x r = !x) := by unfold Hid youngRef; rw [List.getD, g5]; simp [hr0]
                clear g5 m5 h0
                rcases bool_ft x with rfl | rfl
                · have HN : Hid (fr2 ++ [r] = fr ++ (cc.refs.take (j2 + 1)).filter (youngRef p.x)) := by unfold Hid; rw [HS.out, if_pos (by rw [HXV.out]; rfl), HF2.out, List.append_assoc]
                  go_wp2_with (at_builtin; (refine wpList_appi rfl (.tmp 97) (.tmp 99) rfl fr2 rfl rfl (HO.out.below blw_) (RF.singR (x := r) (by simp [go_sem, fi])) (by simp; omega) ?_); intro S2 cS2 w3 hO3 hOn3 hg3; have HB3 : Hid (Below W0.heap.size W0 w3) := Below.trans blw_ (hOn3.below (by simp; omega) (fun b9 hb9 => HLO.out b9 hb9)); have HLO3 : Hid (∀ b9 ∈ blk S2, W0.heap.size ≤ b9) := (fun b9 hb9 => by rcases hg3 b9 hb9 with h9 | h9; exact HLO.out b9 h9; simp at h9; omega); have HO3 := Lib.hid hO3; skip; clear hO3 hOn3 hg3)
                  go_roundw
                  case rel => exact ⟨j2 + 1, S2, cS2, fr2 ++ [r], by omega, by go_num, by simp, HN, HO3, HLO3, HB3.out⟩
                  case measure => simp [intOf]; omega
                · have HN : Hid (fr2 = fr ++ (cc.refs.take (j2 + 1)).filter (youngRef p.x)) := by unfold Hid; rw [HS.out, if_neg (by rw [HXV.out]; simp)]; exact HF2.out
                  go_wp2
                  go_roundw
                  case rel => exact ⟨j2 + 1, S, cS, fr2, by omega, by go_num, rfl, HN, HO, HLO, Y⟩
                  case measure => simp [intOf]; omega
              · have HN : Hid (fr2 = frS p (k + 1)) := by unfold Hid; rw [HF2.out, frS_yes HYJ.out, ← HF.out, HCR.out, List.take_of_length_le (by omega)]
                go_wp2
                go_roundw
                case rel => exact ⟨k + 1, S, cS, fr2, by omega, by go_num, rfl, HN, HO, HLO, Y⟩
                case measure => simp [intOf]; omega
          · have HN : Hid (fr = frS p (k + 1)) := by unfold Hid; rw [frS_no HYJ.out]; exact HF.out
            go_wp2
            go_loopw [4, 8] (fun s4 i wr => i = .int .i64 0 ∧ s4 = .slice S fr.length cS ∧ Hid (OF 3 fi wr S cS fr) ∧ Below W0.heap.size W0 wr) (fun _ i _ => 0)
            case atStart => exact ⟨rfl, rfl, HO, Y⟩
            case round =>
              clear Y sY hsw hsw1 a0 a1 a2 a3 HO d2 n3
              obtain ⟨rfl, rfl, HO, Y⟩ := hrel
              have sY := Y.size; have hsw := Nat.lt_of_lt_of_le (show w.heap.size < W0.heap.size by omega) sY; have hsw1 := Nat.lt_of_lt_of_le (show w.heap.size + 1 < W0.heap.size by omega) sY; obtain ⟨a0, a1, a2, a3⟩ := HF0.out _ (Only.of_below Y)
              have d2 := HD2.out _ Y
              have n3 := HN3.out _ Y
              by_cases hlt2 : (0 : Int) < (cc.refs.length : Int)
              · go_wp2
                go_roundw
                case rel => exact ⟨k + 1, S, cS, fr, by omega, by go_num, rfl, HN, HO, HLO, Y⟩
                case measure => simp [intOf]; omega
              · go_wp2
                go_roundw
                case rel => exact ⟨k + 1, S, cS, fr, by omega, by go_num, rfl, HN, HO, HLO, Y⟩
                case measure => simp [intOf]; omega
        · have hke : k = p.store.cells.length := by have := HXL.out; omega
          have HF2 : Hid (fr = frS p p.store.cells.length) := by unfold Hid; rw [HF.out, hke]
          clear hke HF
          have hI := HI.out
          rw [← HF2.out] at hI
          have HI2 := Lib.hid hI
          clear hI HF2 hfl
          go_wp2_with (at_builtin; (refine wpList_appb rfl (.tmp 101) (.tmp 103) rfl ([] : List Bool) rfl rfl (OF.fresh0 (heap_alloc_at _ _ _ (by first | rfl | simp))) (HX.out.below blw_) (by simp; omega) ?_); intro K cK w3 hO3 hOn3 hg3; have Y3 : Below W0.heap.size W0 w3 := Below.trans blw_ (hOn3.below (by simp; omega) (fun b9 hb9 => by rw [mem_blk_some hb9]; omega)); have HOw := Lib.hid ((HO.out.below blw_).only hOn3 (fun b9 hb9 hc9 => by rw [mem_blk_some hc9] at hb9; have h7 := HO.out.lt _ hb9; omega)); have sYo := sY; have HKL : Hid (∀ b9 ∈ blk K, wr.heap.size ≤ b9) := (fun b9 hb9 => by rcases hg3 b9 hb9 with h9 | h9; rw [mem_blk_some h9]; simp; simp at h9; omega); rw [List.nil_append] at hO3; have HKK := Lib.hid hO3; clear hO3 hOn3 hg3 Y sY hsw hsw1 a0 a1 a2 a3; have Y := Y3; clear Y3; have sY := Y.size; have hsw := Nat.lt_of_lt_of_le (show w.heap.size < W0.heap.size by omega) sY; have hsw1 := Nat.lt_of_lt_of_le (show w.heap.size + 1 < W0.heap.size by omega) sY; obtain ⟨a0, a1, a2, a3⟩ := HF0.out _ (Only.of_below Y))
          have HDJ : Hid (∀ b9 ∈ blk S, b9 ∉ blk K) := fun b9 hb9 hc9 => by have h7 := HKL.out b9 hc9; have h8 := HO.out.lt b9 hb9; omega
          have HKW : Hid (∀ b9 ∈ blk K, W0.heap.size ≤ b9) := fun b9 hb9 => by have h7 := HKL.out b9 hb9; omega
          clear HO
          try rw [List.nil_append]
          go_loopg [4, 11] (measS p p.x fr 0) (fun m s4 i wr => ∃ (j : Nat) (ks : List Bool) (S : Option Addr) (cS : Nat) (lst : List Int), m = measS p ks lst j ∧ i = .int .i64 j ∧ s4 = .slice S lst.length cS ∧ Hid (YouS p ks lst j) ∧ Hid (OF 4 fb wr K cK ks) ∧ Hid (OF 3 fi wr S cS lst) ∧ Hid (∀ b ∈ blk S, W0.heap.size ≤ b) ∧ Hid (∀ b ∈ blk S, b ∉ blk K) ∧ Below W0.heap.size W0 wr)
          case atStart => exact ⟨0, p.x, S, cS, fr, rfl, rfl, rfl, HI2, HKK, HOw, HLO, HDJ, Y⟩
          case round =>
            clear Y sY hsw hsw1 a0 a1 a2 a3 HI2 HKK HOw HLO HDJ HKL
            obtain ⟨j, ks, S, cS, lst, HM, rfl, rfl, HI, HKK, HO, HLO, HDJ, Y⟩ := hrel
            have sY := Y.size; have hsw := Nat.lt_of_lt_of_le (show w.heap.size < W0.heap.size by omega) sY; have hsw1 := Nat.lt_of_lt_of_le (show w.heap.size + 1 < W0.heap.size by omega) sY; obtain ⟨a0, a1, a2, a3⟩ := HF0.out _ (Only.of_below Y)
            have hll : lst.length ≤ 300 := by have := HI.out.bound; omega
            have hjl := HI.out.le
            by_cases hlt : j < lst.length
            · have hwj := List.getElem?_eq_getElem hlt
              obtain ⟨r, hr⟩ : ∃ r, r = lst[j] := ⟨_, rfl⟩
              rw [← hr] at hwj
              clear hr
              obtain ⟨k, rfl, hkn⟩ := HI.out.at_ hwj
              have hkl : k < ks.length := by rw [HI.out.len]; exact hkn
              obtain ⟨q, rfl, hq⟩ := HO.out.some_ hlt
              have mq : wr.cell? ⟨q, j, none⟩ = some (.int .i64 (k : Int)) := HO.out.cell hwj
              obtain ⟨gK, hgK, -⟩ := HKK.out.some_ hkl
              subst hgK
              have hu := List.getElem?_eq_getElem hkl
              obtain ⟨x, hx⟩ : ∃ x, x = ks[k] := ⟨_, rfl⟩
              rw [← hx] at hu
              have n5 : wr.cell? ⟨gK, k, none⟩ = some (.bool x) := HKK.out.cell hu
              have f5 := HKK.out.frozen k
              have hkI : (k : Int) < (ks.length : Int) := by omega
              have hksl : ks.length = p.x.length := by rw [HI.out.len, HXL.out]
              have HWJ := Lib.hid hwj
              have HU := Lib.hid hu
              clear hx hu hwj
              rcases bool_ft x with rfl | rfl
              · have hT := HI.out.take HVS.out HWJ.out (by omega) HU.out
                rw [Int.toNat_natCast] at hT
                obtain ⟨b, o, cc, Ac, cr2, rfl, gc, -, -, d2, hrr, hrl2, hb⟩ := hh.cells.at_ hkn
                have HCR := Lib.hid (refsAt_of gc)
                rw [HCR.out] at hT
                have HT := Lib.hid hT.1
                have HMU := Lib.hid hT.2
                have hrl3 : cc.refs.length ≤ 3 := HC3.out cc (List.mem_of_getElem? gc)
                have HLT3 := Lib.hid (HCL.out cc (List.mem_of_getElem? gc))
                have HD2 : Hid (∀ W, Below W0.heap.size W0 W → W.cell? ⟨b, o + k * 3 + 2, none⟩ = some (.slice Ac cc.refs.length cr2)) := fun W hW => cell_below d2 hW
                have HRR : Hid (∀ W, Below W0.heap.size W0 W → RF fi W Ac cc.refs) := fun W hW => hrr.below hW
                have HK2 : Hid (OF 4 fb (wr.setCell ⟨gK, k, none⟩ (.bool true)) (some ⟨gK, 0, none⟩) cK (ks.set k true)) := HKK.out.set_ k true
                have HO2 : Hid (OF 3 fi (wr.setCell ⟨gK, k, none⟩ (.bool true)) (some ⟨q, 0, none⟩) cS lst) := HO.out.ne_ (fun hc => HDJ.out _ hc (by simp [blk]))
                have hgW : W0.heap.size ≤ gK := HKW.out gK (by simp [blk])
                have Y2 : Below W0.heap.size W0 (wr.setCell ⟨gK, k, none⟩ (.bool true)) := Y.setCell hgW _
                clear hT gc d2 hrr hrl2
                go_wp2_with fail
                clear n5 f5 mq Y sY hsw hsw1 a0 a1 a2 a3
                have Y := Y2
                clear Y2
                go_loopw [4, 13] (fun s4 i wr => ∃ (j2 : Nat) (S : Option Addr) (cS : Nat) (lst2 : List Int), j2 ≤ cc.refs.length ∧ i = .int .i64 j2 ∧ s4 = .slice S lst2.length cS ∧ Hid (lst2 = lst ++ addS (ks.set k true) cc.refs j2) ∧ Hid (OF 4 fb wr (some ⟨gK, 0, none⟩) cK (ks.set k true)) ∧ Hid (OF 3 fi wr S cS lst2) ∧ Hid (∀ b ∈ blk S, W0.heap.size ≤ b) ∧ Hid (∀ b ∈ blk S, b ∉ blk (some ⟨gK, 0, none⟩)) ∧ Below W0.heap.size W0 wr) (fun _ i _ => cc.refs.length - (intOf i).toNat)
                case atStart => exact ⟨0, some ⟨q, 0, none⟩, cS, lst, by omega, rfl, rfl, by unfold Hid; rw [addS_zero, List.append_nil], HK2, HO2, HLO, HDJ, Y⟩
                case round =>
                  clear Y HK2 HO2 HKK HO HLO HDJ
                  obtain ⟨j2, S, cS, lst2, hj2, rfl, rfl, HL2, HKK, HO, HLO, HDJ, Y⟩ := hrel
                  have sY := Y.size; have hsw := Nat.lt_of_lt_of_le (show w.heap.size < W0.heap.size by omega) sY; have hsw1 := Nat.lt_of_lt_of_le (show w.heap.size + 1 < W0.heap.size by omega) sY; obtain ⟨a0, a1, a2, a3⟩ := HF0.out _ (Only.of_below Y)
                  have d2 := HD2.out _ Y
                  have hl2 : lst2.length ≤ 1000 := by rw [HL2.out, List.length_append]; have := addS_len (ks.set k true) cc.refs j2; omega
                  by_cases hlt2 : j2 < cc.refs.length
                  · obtain ⟨b7, o7, r, rfl, gr, c1, hb7⟩ := (HRR.out _ Y).at_ hlt2
                    have n1 : wr.cell? ⟨b7, o7 + j2, none⟩ = some (.int .i64 r) := c1
                    have hrn := HLT3.out r (List.mem_of_getElem? gr)
                    have HGR := Lib.hid gr
                    clear gr c1
                    rcases Classical.em (r < 0) with h0 | h0
                    · have HN : Hid (lst2 = lst ++ addS (ks.set k true) cc.refs (j2 + 1)) := by unfold Hid; rw [addS_old HGR.out h0]; exact HL2.out
                      have h0' : ¬ (0 : Int) ≤ r := by omega
                      go_wp2
                      go_roundw
                      case rel => exact ⟨j2 + 1, S, cS, lst2, by omega, by go_num, rfl, HN, HKK, HO, HLO, HDJ, Y⟩
                      case measure => simp [intOf]; omega
                    have hr0 : 0 ≤ r := by omega
                    have hrk : r.toNat < (ks.set k true).length := by rw [List.length_set, HI.out.len]; omega
                    have hu := List.getElem?_eq_getElem hrk
                    obtain ⟨x, hx⟩ : ∃ x, x = (ks.set k true)[r.toNat] := ⟨_, rfl⟩
                    rw [← hx] at hu
                    have n5 : wr.cell? ⟨gK, r.toNat, none⟩ = some (.bool x) := HKK.out.cell hu
                    have hrI : r < (p.x.length : Int) := by have := HXL.out; omega
                    have hrI2 : r < (ks.length : Int) := by omega
                    have HU2 := Lib.hid hu
                    clear hx hu h0
                    rcases bool_ft x with rfl | rfl
                    · have HN : Hid (lst2 ++ [r] = lst ++ addS (ks.set k true) cc.refs (j2 + 1)) := by unfold Hid; rw [addS_new HGR.out hr0 HU2.out, HL2.out, List.append_assoc]
                      go_wp2_with (at_builtin; (refine wpList_appi rfl (.tmp 153) (.tmp 155) rfl lst2 rfl rfl (HO.out.below blw_) (RF.singR (x := r) (by simp [go_sem, fi])) (by simp; omega) ?_); intro S2 cS2 w3 hO3 hOn3 hg3; have HB3 : Hid (Below W0.heap.size W0 w3) := Below.trans blw_ (hOn3.below (by simp; omega) (fun b9 hb9 => HLO.out b9 hb9)); have HLO3 : Hid (∀ b9 ∈ blk S2, W0.heap.size ≤ b9) := (fun b9 hb9 => by rcases hg3 b9 hb9 with h9 | h9; exact HLO.out b9 h9; simp at h9; omega); have HO3 := Lib.hid hO3; (have HK3 : Hid (OF 4 fb w3 (some ⟨gK, 0, none⟩) cK (ks.set k true)) := OF.only (HKK.out.below blw_) hOn3 (fun b9 hb9 hc9 => HDJ.out b9 hc9 hb9); have HDJ3 : Hid (∀ b9 ∈ blk S2, b9 ∉ blk (some ⟨gK, 0, none⟩)) := (fun b9 hb9 hc9 => by rcases hg3 b9 hb9 with h9 | h9; exact HDJ.out b9 h9 hc9; have h8 := HKK.out.lt b9 hc9; simp at h9; omega)); clear hO3 hOn3 hg3)
                      go_roundw
                      case rel => exact ⟨j2 + 1, S2, cS2, lst2 ++ [r], by omega, by go_num, by simp, HN, HK3, HO3, HLO3, HDJ3, HB3.out⟩
                      case measure => simp [intOf]; omega
                    · have HN : Hid (lst2 = lst ++ addS (ks.set k true) cc.refs (j2 + 1)) := by unfold Hid; rw [addS_met HGR.out HU2.out]; exact HL2.out
                      go_wp2
                      go_roundw
                      case rel => exact ⟨j2 + 1, S, cS, lst2, by omega, by go_num, rfl, HN, HKK, HO, HLO, HDJ, Y⟩
                      case measure => simp [intOf]; omega
                  · have hje : j2 = cc.refs.length := by omega
                    subst hje
                    have hT := HT.out
                    rw [← HL2.out] at hT
                    have HT2 := Lib.hid hT
                    have HM2 : Hid (measS p (ks.set k true) lst2 (j + 1) < measS p ks lst j) := by unfold Hid; rw [HL2.out]; exact measS_take hlt HMU.out (by have := addS_len (ks.set k true) cc.refs cc.refs.length; omega)
                    clear hT
                    go_wp2
                    go_roundg (measS p (ks.set k true) lst2 (j + 1))
                    case rel => exact ⟨j + 1, ks.set k true, S, cS, lst2, rfl, by go_num, rfl, HT2, HKK, HO, HLO, HDJ, Y⟩
                    case measure => rw [HM]; exact HM2.out
              · have hT := HI.out.skip HWJ.out HU.out
                have HT := Lib.hid hT
                clear hT
                go_wp2
                go_roundg (measS p ks lst (j + 1))
                case rel => exact ⟨j + 1, ks, some ⟨q, 0, none⟩, cS, lst, rfl, by go_num, rfl, HT, HKK, HO, HLO, HDJ, Y⟩
                case measure => rw [HM]; exact measS_skip hlt
            · have hke := HI.out.done HXL.out (by omega)
              have hkl := HI.out.len
              subst hke
              have HKL := Lib.hid hkl
              have hk40 : (keepM p).length ≤ 40 := by omega
              have HKX : Hid ((keepM p).length = p.x.length) := by unfold Hid; have := HXL.out; omega
              clear HI HM HO HLO HDJ hll hjl hkl
              go_wp2
              go_loopw [15, 16, 17] (fun s6 s7 s8 wr => ∃ (j fr : Nat) (S : Option Addr) (cS : Nat) (ds : List Bool), j ≤ p.x.length ∧ s8 = .int .i64 j ∧ s7 = .int .i64 fr ∧ s6 = .slice S ds.length cS ∧ Hid (ds = (nots (keepM p)).take j) ∧ Hid (fr = freedN (p.store.cells.take j) ((nots (keepM p)).take j)) ∧ Hid (OF 4 fb wr K cK (keepM p)) ∧ Hid (OF 4 fb wr S cS ds) ∧ Hid (∀ b ∈ blk S, W0.heap.size ≤ b) ∧ Hid (∀ b ∈ blk S, b ∉ blk K) ∧ Below W0.heap.size W0 wr) (fun _ _ i _ => p.x.length - (intOf i).toNat)
              case atStart => exact ⟨0, 0, some ⟨wr.heap.size, 0, none⟩, 0, [], by omega, rfl, rfl, rfl, rfl, rfl, HKK.out.below blw_, OF.fresh0 (heap_alloc_at _ _ _ rfl), fun b hb => by rw [mem_blk_some hb]; exact sY, fun b hb hc => (by rw [mem_blk_some hb] at hc; have := HKK.out.lt _ hc; omega), blw_⟩
              case round =>
                clear Y sY hsw hsw1 a0 a1 a2 a3 HKK
                obtain ⟨j, fr, S, cS, ds, hj, rfl, rfl, rfl, HDS, HFR, HKK, HO, HLO, HDJ, Y⟩ := hrel
                have sY := Y.size; have hsw := Nat.lt_of_lt_of_le (show w.heap.size < W0.heap.size by omega) sY; have hsw1 := Nat.lt_of_lt_of_le (show w.heap.size + 1 < W0.heap.size by omega) sY; obtain ⟨a0, a1, a2, a3⟩ := HF0.out _ (Only.of_below Y)
                have hdl : ds.length = j := by rw [HDS.out, List.length_take, nots_len]; have := HKX.out; omega
                have hfle : fr ≤ 40 := by have h9 := sfreed_le (p.store.cells.take j) ((nots (keepM p)).take j); rw [← HFR.out, List.length_take] at h9; omega
                by_cases hlt : j < p.x.length
                · have hltK : j < (keepM p).length := by have := HKX.out; omega
                  have gx := List.getElem?_eq_getElem hltK
                  obtain ⟨x, hx⟩ : ∃ x, x = (keepM p)[j] := ⟨_, rfl⟩
                  rw [← hx] at gx
                  have hjc : j < p.store.cells.length := by rw [← HKL.out]; exact hltK
                  obtain ⟨gK, hgK, -⟩ := HKK.out.some_ hltK
                  subst hgK
                  obtain ⟨b', o', cc, Ar, cr, rfl, gc, d0, -, -, -, -, hb'⟩ := hh.cells.at_ hjc
                  have HSN := Lib.hid (sfreed_snoc gc (nots_at gx))
                  have HWN := Lib.hid (take_snoc_of (nots_at gx))
                  obtain ⟨u, hu⟩ : ∃ u, u = cc.used := ⟨_, rfl⟩
                  rw [← hu] at d0 HSN
                  have n5 : wr.cell? ⟨gK, j, none⟩ = some (.bool x) := HKK.out.cell gx
                  have HW2 : Hid (∀ W, Only (blk S) wr W ∨ Below wr.heap.size wr W → True) := fun W hW => trivial
                  have hds40 : ds.length ≤ 40 := by omega
                  have HXK := Lib.hid gx
                  have HD0 : Hid (∀ W, Below W0.heap.size W0 W → W.cell? ⟨b', o' + j * 3, none⟩ = some (.bool u)) := fun W hW => cell_below d0 hW
                  have d0' := HD0.out _ Y
                  clear gx gc hu hdl d0 hx
                  rcases bool_ft x with rfl | rfl
                  · rcases bool_ft u with rfl | rfl
                    · go_wp2_with (at_builtin; (refine wpList_appb rfl (.tmp 164) (.tmp 170) rfl ds rfl rfl (HO.out.below blw_) (RF.single (x := true) (by simp [go_sem, fb])) (by simp; omega) ?_); intro S2 cS2 w3 hO3 hOn3 hg3; have HB3 : Hid (Below W0.heap.size W0 w3) := Below.trans blw_ (hOn3.below (by simp; omega) (fun b9 hb9 => HLO.out b9 hb9)); have HLO3 : Hid (∀ b9 ∈ blk S2, W0.heap.size ≤ b9) := (fun b9 hb9 => by rcases hg3 b9 hb9 with h9 | h9; exact HLO.out b9 h9; simp at h9; omega); have HK3 : Hid (OF 4 fb w3 (some ⟨gK, 0, none⟩) cK (keepM p)) := OF.only (HKK.out.below blw_) hOn3 (fun b9 hb9 hc9 => HDJ.out b9 hc9 hb9); have HDJ3 : Hid (∀ b9 ∈ blk S2, b9 ∉ blk (some ⟨gK, 0, none⟩)) := (fun b9 hb9 hc9 => by rcases hg3 b9 hb9 with h9 | h9; exact HDJ.out b9 h9 hc9; have h8 := HKK.out.lt b9 hc9; simp at h9; omega); have HO3 := Lib.hid hO3; clear hO3 hOn3 hg3 n5 d0' a0 a1 a2 a3; have n5 : w3.cell? ⟨gK, j, none⟩ = some (.bool (!true)) := HK3.out.cell HXK.out; have d0' := HD0.out _ HB3.out; obtain ⟨a0, a1, a2, a3⟩ := HF0.out _ (Only.of_below HB3.out))
                      go_roundw
                      case rel => exact ⟨j + 1, fr, S2, cS2, ds ++ [true], by omega, by go_num, rfl, by simp, by unfold Hid; rw [HWN.out, ← HDS.out]; rfl, by unfold Hid; rw [HSN.out, ← HFR.out]; simp, HK3, HO3, HLO3, HDJ3, HB3.out⟩
                      case measure => simp [intOf]; omega
                    · go_wp2_with (at_builtin; (refine wpList_appb rfl (.tmp 164) (.tmp 170) rfl ds rfl rfl (HO.out.below blw_) (RF.single (x := true) (by simp [go_sem, fb])) (by simp; omega) ?_); intro S2 cS2 w3 hO3 hOn3 hg3; have HB3 : Hid (Below W0.heap.size W0 w3) := Below.trans blw_ (hOn3.below (by simp; omega) (fun b9 hb9 => HLO.out b9 hb9)); have HLO3 : Hid (∀ b9 ∈ blk S2, W0.heap.size ≤ b9) := (fun b9 hb9 => by rcases hg3 b9 hb9 with h9 | h9; exact HLO.out b9 h9; simp at h9; omega); have HK3 : Hid (OF 4 fb w3 (some ⟨gK, 0, none⟩) cK (keepM p)) := OF.only (HKK.out.below blw_) hOn3 (fun b9 hb9 hc9 => HDJ.out b9 hc9 hb9); have HDJ3 : Hid (∀ b9 ∈ blk S2, b9 ∉ blk (some ⟨gK, 0, none⟩)) := (fun b9 hb9 hc9 => by rcases hg3 b9 hb9 with h9 | h9; exact HDJ.out b9 h9 hc9; have h8 := HKK.out.lt b9 hc9; simp at h9; omega); have HO3 := Lib.hid hO3; clear hO3 hOn3 hg3 n5 d0' a0 a1 a2 a3; have n5 : w3.cell? ⟨gK, j, none⟩ = some (.bool (!true)) := HK3.out.cell HXK.out; have d0' := HD0.out _ HB3.out; obtain ⟨a0, a1, a2, a3⟩ := HF0.out _ (Only.of_below HB3.out))
                      go_roundw
                      case rel => exact ⟨j + 1, fr + 1, S2, cS2, ds ++ [true], by omega, by go_num, by go_num, by simp, by unfold Hid; rw [HWN.out, ← HDS.out]; rfl, by unfold Hid; rw [HSN.out, ← HFR.out]; simp, HK3, HO3, HLO3, HDJ3, HB3.out⟩
                      case measure => simp [intOf]; omega
                  · go_wp2_with (at_builtin; (refine wpList_appb rfl (.tmp 164) (.tmp 170) rfl ds rfl rfl (HO.out.below blw_) (RF.single (x := false) (by simp [go_sem, fb])) (by simp; omega) ?_); intro S2 cS2 w3 hO3 hOn3 hg3; have HB3 : Hid (Below W0.heap.size W0 w3) := Below.trans blw_ (hOn3.below (by simp; omega) (fun b9 hb9 => HLO.out b9 hb9)); have HLO3 : Hid (∀ b9 ∈ blk S2, W0.heap.size ≤ b9) := (fun b9 hb9 => by rcases hg3 b9 hb9 with h9 | h9; exact HLO.out b9 h9; simp at h9; omega); have HK3 : Hid (OF 4 fb w3 (some ⟨gK, 0, none⟩) cK (keepM p)) := OF.only (HKK.out.below blw_) hOn3 (fun b9 hb9 hc9 => HDJ.out b9 hc9 hb9); have HDJ3 : Hid (∀ b9 ∈ blk S2, b9 ∉ blk (some ⟨gK, 0, none⟩)) := (fun b9 hb9 hc9 => by rcases hg3 b9 hb9 with h9 | h9; exact HDJ.out b9 h9 hc9; have h8 := HKK.out.lt b9 hc9; simp at h9; omega); have HO3 := Lib.hid hO3; clear hO3 hOn3 hg3 n5 d0' a0 a1 a2 a3; have n5 : w3.cell? ⟨gK, j, none⟩ = some (.bool (!false)) := HK3.out.cell HXK.out; have d0' := HD0.out _ HB3.out; obtain ⟨a0, a1, a2, a3⟩ := HF0.out _ (Only.of_below HB3.out))
                    go_roundw
                    case rel => exact ⟨j + 1, fr, S2, cS2, ds ++ [false], by omega, by go_num, rfl, by simp, by unfold Hid; rw [HWN.out, ← HDS.out]; rfl, by unfold Hid; rw [HSN.out, ← HFR.out]; simp, HK3, HO3, HLO3, HDJ3, HB3.out⟩
                    case measure => simp [intOf]; omega
                · have hke : j = (keepM p).length := by have := HKX.out; omega
                  have hdw : ds = nots (keepM p) := by rw [HDS.out, hke, ← nots_len (keepM p), List.take_length]
                  have hfw : fr = freedN p.store.cells (nots (keepM p)) := by rw [HFR.out, hke, HKL.out, List.take_length, ← HKL.out, ← nots_len (keepM p), List.take_length]
                  subst hdw
                  subst hfw
                  have HDC : Hid ((nots (keepM p)).length = p.store.cells.length) := by unfold Hid; rw [nots_len]; exact HKL.out
                  have HRF := Lib.hid HO.out.rf
                  have hmk := mk_bools p.x.length (by omega)
                  have hgh : W0.heap.size ≤ wr.heap.size := sY
                  clear hke hdl HDS HFR HO HDJ HLO
                  go_wp2_with fail
                  go_region_held3 (fun W => (W.cell? ⟨w.heap.size, 0, none⟩ = some (.slice A p.store.cells.length c) ∧ W.cell? ⟨w.heap.size, 1, none⟩ = some (.slice A' p.store.roots.length c') ∧ W.cell? ⟨w.heap.size, 2, none⟩ = some (.slice A2 p.x.length c2) ∧ W.cell? ⟨w.heap.size, 3, none⟩ = some (.slice A3 p.y.length c3))) (first | with_reducible exact HF0.out _ (by repeat (first | (with_reducible refine Only.setCell ?_ (.inl (by simp)) _) | (with_reducible refine Only.drew ?_) | (with_reducible refine Only.alloc ?_ _) | (with_reducible assumption) | (with_reducible exact Only.refl _ _) | (with_reducible refine Only.trans ?_ (Only.of_below (by with_reducible assumption))))))
                    (first
                      | (go_at_call 88; (with_reducible refine (l11Drop_any _ p.store S (nots (keepM p)) cS _ ((hh.below blw_).rh _ _) (HRF.out.below blw_) HDC.out (by omega) (fun d hd => Nat.le_trans (HC3.out d hd) (by omega)) (by omega)).mono ?_); rintro e w8 ⟨v4, rfl, ⟨B, d, B', d', os, rfl, hm4, hO4, hlo4⟩, hB4⟩; (have z_hB4 := Below.size hB4); (try simp only [World.size_alloc, World.size_setCell, World.size_drew, World.heap_drewN] at z_hB4); have Y8 : Below W0.heap.size W0 w8 := blw_; (try simp only [World.size_drew, World.size_alloc] at hlo4); obtain ⟨r0, r1, r2, r3, rf⟩ := HG0.out w8 Y8; have rf0 := rf 0; have rf1 := rf 1; have rf2 := rf 2; have rf3 := rf 3; have HM4 := Lib.hid hm4; have HO4 := Lib.hid hO4; have HLO4 := Lib.hid hlo4; have HLT4 := Lib.hid hO4.lt; clear hm4 hO4 hlo4; have zs := Y8.size; have hl6 : w.heap.size + 1 < w8.heap.size := (by omega)))
                  · go_wp2_with fail
                    have X : Below w.heap.size w w8 := hW0.trans (Y8.mono hW0.size)
                    refine bodyPost_ret (v := .tuple #[.agg #[.slice B (dropM p.store (nots (keepM p))).cells.length d, .slice B' (dropM p.store (nots (keepM p))).roots.length d', .slice K p.x.length cK, .slice (some ⟨w8.heap.size, 0, none⟩) p.x.length p.x.length], .int .i64 (freedN p.store.cells (nots (keepM p)))]) (by simp [results, Try.results55, go_sem, r0, r1, r2, r3, hl6]) rfl ⟨_, by rw [HE.out], ?_, blw_⟩
                    rw [HE.out]
                    refine ⟨B, d, B', d', os, K, cK, some ⟨w8.heap.size, 0, none⟩, p.x.length, ?_, HM4.out, ?_, ?_, ?_, nd3_of HO4.out.nodup (blk_nodup _) (blk_nodup _) ?_ ?_ ?_, ?_, by show (keepM p).length ≤ _; omega, by simp only [List.length_replicate]; omega⟩
                    · simp only [List.length_replicate, HKL.out, HXL.out]
                    · exact HO4.out.keep fun b hb => by have h7 := HLT4.out b hb; have h8 := HLO4.out b hb; (repeat (first | rw [heap_setCell_ne _ _ _ (by first | omega | (simp; done) | (simp; omega))] | rw [Below.heap_alloc _ _ _ (by first | omega | (simp; done) | (simp; omega))]))
                    · exact HKK.out.keep fun b hb => by have h7 := HKK.out.lt b hb; have h8 := HKW.out b hb; (repeat (first | rw [heap_setCell_ne _ _ _ (by first | omega | (simp; done) | (simp; omega))] | rw [Below.heap_alloc _ _ _ (by first | omega | (simp; done) | (simp; omega))])); rw [Below.block hB4 _ (by first | omega | (simp; done) | (simp; omega))]; (repeat (first | rfl | rw [heap_drew_] | rw [heap_setCell_ne _ _ _ (by first | omega | (simp; done) | (simp; omega))] | rw [Below.heap_alloc _ _ _ (by first | omega | (simp; done) | (simp; omega))]))
                    · exact OF.of_blkn (by simp; exact HXL.out) (by rw [← HXL.out]; exact heap_alloc_at _ _ _ (by simp)) (by have h9 := HXL.out; simp only [maxLen, List.length_replicate]; omega)
                    · intro b hb hc; have h7 := HKK.out.lt b hb; have h8 := HLO4.out b hc; omega
                    · intro b hb hc; have h7 := HLT4.out b hc; have h8 := mem_blk_some hb; omega
                    · intro b hb hc; have h7 := HKK.out.lt b hc; have h8 := mem_blk_some hb; omega
                    · intro b hb
                      simp only [List.mem_append] at hb
                      rcases hb with (hb | hb) | hb
                      · have := HLO4.out b hb; omega
                      · have := HKW.out b hb; omega
                      · have := mem_blk_some hb; omega
                  · go_wp2_with fail
                    have X : Below w.heap.size w w8 := hW0.trans (Y8.mono hW0.size)
                    refine bodyPost_ret (v := .tuple #[.agg #[.slice B (dropM p.store (nots (keepM p))).cells.length d, .slice B' (dropM p.store (nots (keepM p))).roots.length d', .slice K p.x.length cK, .slice (some ⟨wr.heap.size, 0, none⟩) p.x.length p.x.length], .int .i64 (freedN p.store.cells (nots (keepM p)))]) (by simp [results, Try.results55, go_sem, r0, r1, r2, r3, hl6]) rfl ⟨_, by rw [HE.out], ?_, blw_⟩
                    rw [HE.out]
                    refine ⟨B, d, B', d', os, K, cK, some ⟨wr.heap.size, 0, none⟩, p.x.length, ?_, HM4.out, ?_, ?_, ?_, nd3_of HO4.out.nodup (blk_nodup _) (blk_nodup _) ?_ ?_ ?_, ?_, by show (keepM p).length ≤ _; omega, by simp only [List.length_replicate]; omega⟩
                    · simp only [List.length_replicate, HKL.out, HXL.out]
                    · exact HO4.out.keep fun b hb => by have h7 := HLT4.out b hb; have h8 := HLO4.out b hb; (repeat (first | rw [heap_setCell_ne _ _ _ (by first | omega | (simp; done) | (simp; omega))] | rw [Below.heap_alloc _ _ _ (by first | omega | (simp; done) | (simp; omega))]))
                    · exact HKK.out.keep fun b hb => by have h7 := HKK.out.lt b hb; have h8 := HKW.out b hb; (repeat (first | rw [heap_setCell_ne _ _ _ (by first | omega | (simp; done) | (simp; omega))] | rw [Below.heap_alloc _ _ _ (by first | omega | (simp; done) | (simp; omega))])); rw [Below.block hB4 _ (by first | omega | (simp; done) | (simp; omega))]; (repeat (first | rfl | rw [heap_drew_] | rw [heap_setCell_ne _ _ _ (by first | omega | (simp; done) | (simp; omega))] | rw [Below.heap_alloc _ _ _ (by first | omega | (simp; done) | (simp; omega))]))
                    · exact OF.of_blkn (by simp; exact HXL.out) (by (repeat (first | rw [heap_setCell_ne _ _ _ (by first | omega | (simp; done) | (simp; omega))])); rw [Below.block hB4 _ (by first | omega | (simp; done) | (simp; omega))]; rw [← HXL.out]; exact heap_alloc_at _ _ _ (by simp)) (by have h9 := HXL.out; simp only [maxLen, List.length_replicate]; omega)
                    · intro b hb hc; have h7 := HKK.out.lt b hb; have h8 := HLO4.out b hc; omega
                    · intro b hb hc; have h7 := HLO4.out b hc; have h8 := mem_blk_some hb; omega
                    · intro b hb hc; have h7 := HKK.out.lt b hc; have h8 := mem_blk_some hb; omega
                    · intro b hb
                      simp only [List.mem_append] at hb
                      rcases hb with (hb | hb) | hb
                      · have := HLO4.out b hb; omega
                      · have := HKW.out b hb; omega
                      · have := mem_blk_some hb; omega
end Go.Proofs.Ytmlgndeihfpfgaa
