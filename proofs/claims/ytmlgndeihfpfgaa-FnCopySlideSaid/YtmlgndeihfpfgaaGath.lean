/- The program gathers cells in an order. -/
import Derived.Test.YtmlgndeihfpfgaaChecked
import Derived.Deep.RegionHeld3
import Derived.Deep.DeepCutAuto
import Derived.IntWalk
import Derived.Test.YtmlgndeihfpfgaaGrOrd
import Derived.Test.YtmlgndeihfpfgaaGrCopy
namespace Go.Proofs.Ytmlgndeihfpfgaa
open Go.RowKit
set_option maxRecDepth 100000
set_option linter.unusedSimpArgs false
set_option linter.unusedVariables false
theorem ren_map {h : HeapM} {order : List Int} (ho : OrdOk h order) {rs : List Int} (hr : ∀ r ∈ rs, leadsM h.cells r = true) : rs.map (renM (namesM order h.cells.length order.length)) = rs.map (nameM order) := by
  apply List.map_congr_left
  intro r hm
  rw [← renM_new]
  exact newName_eq ho (hr r hm)
set_option maxHeartbeats 4000000 in
theorem gathered_any (v : Value) (h : HeapM) (O : Option Addr) (order : List Int) (cO : Nat) (w : World) (hv : RH w v h) (hva : validM h = true) (hor : RF fi w O order) (ho : OrdOk h order) :
    Calls Try.prog 66 #[v, .slice O order.length cO] w fun e w' => ∃ v', e = .returned v' ∧ OH w.heap.size w' v' (gathM h order) ∧ Below w.heap.size w w' := by
  obtain ⟨A, c, A', c', rfl, hc0, hr0, hl1, hl2⟩ := hv
  obtain ⟨v1, v2_, v3⟩ := valid_small hva
  have v2 : h.roots.length ≤ 4 := by omega
  obtain ⟨lt1, lt2⟩ := validM_lt hva
  obtain ⟨ld1, ld2⟩ := validM_leads hva
  have hol := ho.len
  have HG0 : Hid (∀ W, Below (((w.alloc (.cells #[.slice A h.cells.length c, .slice A' h.roots.length c'] 29)).alloc (.cells #[.slice none 0 0, .slice none 0 0] 29))).heap.size (((w.alloc (.cells #[.slice A h.cells.length c, .slice A' h.roots.length c'] 29)).alloc (.cells #[.slice none 0 0, .slice none 0 0] 29))) W → (W.cell? ⟨w.heap.size + 1, 0, none⟩ = some (.slice none 0 0) ∧ W.cell? ⟨w.heap.size + 1, 1, none⟩ = some (.slice none 0 0) ∧ ∀ o, W.frozen? ⟨w.heap.size + 1, o, none⟩ = false)) := fun W hW => ⟨cell_below (by simp [go_sem]) hW, cell_below (by simp [go_sem]) hW, fun o => ((bcell hW).2.1 _ _ (by simp)).trans (by simp [go_sem])⟩
  have HF0 : Hid (∀ W, Below (((w.alloc (.cells #[.slice A h.cells.length c, .slice A' h.roots.length c'] 29)).alloc (.cells #[.slice none 0 0, .slice none 0 0] 29))).heap.size (((w.alloc (.cells #[.slice A h.cells.length c, .slice A' h.roots.length c'] 29)).alloc (.cells #[.slice none 0 0, .slice none 0 0] 29))) W → (W.cell? ⟨w.heap.size, 0, none⟩ = some (.slice A h.cells.length c) ∧ W.cell? ⟨w.heap.size, 1, none⟩ = some (.slice A' h.roots.length c'))) := fun W hW => ⟨cell_below (by simp [go_sem]) hW, cell_below (by simp [go_sem]) hW⟩
  have hz0 : (((w.alloc (.cells #[.slice A h.cells.length c, .slice A' h.roots.length c'] 29)).alloc (.cells #[.slice none 0 0, .slice none 0 0] 29))).heap.size = w.heap.size + 2 := by simp
  have hW0 : Below w.heap.size w (((w.alloc (.cells #[.slice A h.cells.length c, .slice A' h.roots.length c'] 29)).alloc (.cells #[.slice none 0 0, .slice none 0 0] 29))) := blw_
  have HC := Lib.hid (hc0.below hW0)
  have HRT := Lib.hid (hr0.below hW0)
  have HOR := Lib.hid (hor.below hW0)
  have HO := Lib.hid ho
  have HLT1 := Lib.hid lt1
  have HLT2 := Lib.hid lt2
  have HLD1 := Lib.hid ld1
  have HLD2 := Lib.hid ld2
  have HV3 := Lib.hid v3
  clear hc0 hr0 hor ho lt1 lt2 ld1 ld2 v3 v2_ hva
  go_enter Try.func66, Try.ntmps66
  go_wp2_with fail
  generalize (((w.alloc (.cells #[.slice A h.cells.length c, .slice A' h.roots.length c'] 29)).alloc (.cells #[.slice none 0 0, .slice none 0 0] 29))) = W0 at *
  (with_reducible refine (numbersIn_any O order cO h.cells.length _ (HOR.out.below blw_) (by omega) (by omega) HO.out.lt HO.out.nd).mono ?_)
  rintro e wn ⟨N, cN, rfl, hN, hNlo, hB⟩
  have Y : Below W0.heap.size W0 wn := blw_
  have sY := Y.size
  have HN := Lib.hid hN
  have HNLO := Lib.hid hNlo
  obtain ⟨a0, a1⟩ := HF0.out _ Y
  clear hB hN hNlo
  go_wp2_with fail
  (with_reducible refine (renamed_any A' N h.roots (namesM order h.cells.length order.length) c' cN h.cells.length _ (HRT.out.below blw_) (HN.out.rf.below blw_) (by omega) (namesM_len _ _ _) (by omega) HLT2.out).mono ?_)
  rintro e w2 ⟨R, cR, rfl, hR, hRlo, hB⟩
  rw [ren_map HO.out HLD2.out] at hR
  have Y2 : Below wn.heap.size wn w2 := blw_
  have sY2 := Y2.size
  have HR := Lib.hid hR
  have HRLO : Hid (∀ b ∈ blk R, wn.heap.size ≤ b) := fun b hb => by have h7 := hRlo b hb; (try simp only [World.size_alloc, World.size_setCell, World.size_drew, World.heap_drewN] at h7); omega
  clear hB hR hRlo a0 a1
  obtain ⟨rl, hrl⟩ : ∃ rl, rl = h.roots.map (nameM order) := ⟨_, rfl⟩
  have hrll : rl.length = h.roots.length := by rw [hrl, List.length_map]
  have HRL := Lib.hid hrl
  have HRLL := Lib.hid hrll
  rw [← hrl] at HR
  clear hrl hrll
  have hltR := HR.out.lt
  have HY := Lib.hid Y
  have X0 := hW0.trans (Y.mono hW0.size)
  clear Y
  go_wp2
  go_loopw [22] (fun i wr => ∃ (j : Nat) (os : List OCell) (SA : Option Addr) (c1 : Nat), j ≤ order.length ∧ i = .int .i64 j ∧ Hid (os.map (·.c) = (order.take j).map (movedC h order)) ∧ wr.cell? ⟨w2.heap.size, 0, none⟩ = some (.slice SA os.length c1) ∧ wr.cell? ⟨w2.heap.size, 1, none⟩ = some (.slice R h.roots.length cR) ∧ wr.frozen? ⟨w2.heap.size, 0, none⟩ = false ∧ Hid (OHs wr SA c1 R cR os rl) ∧ Hid (∀ x ∈ hblks SA os R, wn.heap.size ≤ x ∧ x ≠ w2.heap.size) ∧ w2.heap.size < wr.heap.size ∧ Below wn.heap.size wn wr) (fun i _ => order.length - (intOf i).toNat)
  case atStart =>
    refine ⟨0, [], none, 0, by omega, rfl, rfl, by simp [go_sem], by simp [go_sem], by simp [go_sem], ⟨OC.nil_, HR.out.below blw_, ?_, by simp, by have := HRLL.out; omega⟩, ?_, by simp, blw_⟩
    · simpa [blks, blk] using blk_nodup R
    · intro g hg
      simp [hblks, blks, blk] at hg
      have := hltR g (by simpa [blk] using hg)
      have := HRLO.out g (by simpa [blk] using hg)
      omega
  case round =>
    clear HR HRLO Y2 hltR
    obtain ⟨j, os, SA, c1, hj, rfl, HM, q0, q1, qf, HOS, HLO, hg, Y⟩ := hrel
    have sYr := Y.size
    have hjl : os.length = j := by have := congrArg List.length HM.out; simp at this; omega
    have HJ := Lib.hid hjl
    have YW : Below W0.heap.size W0 wr := HY.out.trans (Y.mono sY)
    by_cases hlt : j < order.length
    · obtain ⟨bo, oo, r, rfl, gr, m, hbo⟩ := (HOR.out.below YW).at_ hlt
      have n1 : wr.cell? ⟨bo, oo + j, none⟩ = some (.int .i64 r) := m
      obtain ⟨hr0, hrn⟩ := HO.out.lt r (List.mem_of_getElem? gr)
      obtain ⟨k, rfl⟩ := Int.eq_ofNat_of_zero_le hr0
      have hkn : k < h.cells.length := by omega
      obtain ⟨b, o, cc, Ac, cr2, rfl, gc, d0, d1, d2, hrr, hrl2, hb⟩ := (HC.out.below YW).at_ hkn
      obtain ⟨a0, a1⟩ := HF0.out _ YW
      have HMV : Hid (movedC h order (k : Int) = ⟨true, cc.data, cc.refs.map (nameM order)⟩) := movedC_of (by rw [Int.toNat_natCast]; exact gc)
      have HTK : Hid ((order.take (j + 1)).map (movedC h order) = os.map (·.c) ++ [⟨true, cc.data, cc.refs.map (nameM order)⟩]) := by unfold Hid; rw [take_snoc_of gr, List.map_append, ← HM.out, List.map_singleton, HMV.out]
      have hcr3 : cc.refs.length ≤ 3 := HV3.out cc (List.mem_of_getElem? gc)
      have HRR := Lib.hid hrr
      have HL1 := Lib.hid (HLT1.out cc (List.mem_of_getElem? gc))
      have HD1 := Lib.hid (HLD1.out cc (List.mem_of_getElem? gc))
      have hol2 : os.length ≤ 1099511627776 := by omega
      have u1 : w2.heap.size ∉ blk SA := fun hx => (HLO.out _ (List.mem_append.2 (.inl (List.mem_append.2 (.inl hx))))).2 rfl
      have HU1 := Lib.hid u1
      have HNN : Hid (RF fi wr N (namesM order h.cells.length order.length)) := HN.out.rf.below Y
      obtain ⟨du, hdu⟩ : ∃ du, du = cc.used := ⟨_, rfl⟩
      rw [← hdu] at d0
      clear m gr gc hrr hrl2 hdu hjl u1
      have hjI : (j : Int) < (order.length : Int) := by omega
      go_upto_region 7 with fail
      have hbW : Below wr.heap.size wr ((wr.alloc (.cells #[.bool du, .int .i64 cc.data, .slice Ac cc.refs.length cr2] 65))) := blw_
      have e1 : ((wr.alloc (.cells #[.bool du, .int .i64 cc.data, .slice Ac cc.refs.length cr2] 65))).cell? ⟨wr.heap.size, 1, none⟩ = some (.int .i64 cc.data) := by simp [go_sem]
      have e2 : ((wr.alloc (.cells #[.bool du, .int .i64 cc.data, .slice Ac cc.refs.length cr2] 65))).cell? ⟨wr.heap.size, 2, none⟩ = some (.slice Ac cc.refs.length cr2) := by simp [go_sem]
      have hWz : wr.heap.size < ((wr.alloc (.cells #[.bool du, .int .i64 cc.data, .slice Ac cc.refs.length cr2] 65))).heap.size := by simp
      have q0b := cell_below q0 hbW
      have q1b := cell_below q1 hbW
      have qfb := ((bcell hbW).2.1 _ _ hg).trans qf
      have HOB := Lib.hid (HOS.out.below hbW)
      have HRB := Lib.hid (HRR.out.below hbW)
      have HNB := Lib.hid (HNN.out.below hbW)
      have YB : Below wn.heap.size wn ((wr.alloc (.cells #[.bool du, .int .i64 cc.data, .slice Ac cc.refs.length cr2] 65))) := Y.trans (hbW.mono sYr)
      have HOSL := Lib.hid HOS.out.lt
      generalize ((wr.alloc (.cells #[.bool du, .int .i64 cc.data, .slice Ac cc.refs.length cr2] 65))) = wb at *
      have hwS : wr.heap.size ∉ w2.heap.size :: blk SA := fun hc => by
        rcases List.mem_cons.1 hc with h9 | h9
        · omega
        · have := HOSL.out _ (List.mem_append.2 (.inl (List.mem_append.2 (.inl h9)))); omega
      have hS : ∀ W, Only (w2.heap.size :: blk SA) wb W → W.cell? ⟨wr.heap.size, 1, none⟩ = some (.int .i64 cc.data) ∧ W.cell? ⟨wr.heap.size, 2, none⟩ = some (.slice Ac cc.refs.length cr2) := fun W hW => ⟨hW.cell e1 hwS, hW.cell e2 hwS⟩
      have hgb : w2.heap.size < wb.heap.size := by omega
      clear hbW Y YW d0 d1 d2 n1 a0 a1 q0 q1 qf HRR HNN HOS
      change Code.wp _ (Code.region _ #[_, id _, _, _, _, _, _, _, _, _, _, _, _] true) _ _ _
      go_region_held3 (fun w' => w'.cell? ⟨wr.heap.size, 1, none⟩ = some (.int .i64 cc.data) ∧ w'.cell? ⟨wr.heap.size, 2, none⟩ = some (.slice Ac cc.refs.length cr2))
        (first | with_reducible exact hS _ (by repeat (first | (with_reducible assumption) | (with_reducible exact Only.refl _ _) | (with_reducible refine Only.setCell ?_ (.inl (by simp)) _) | (with_reducible refine Only.drew ?_) | (with_reducible refine Only.alloc ?_ _) | (with_reducible refine Only.trans ?_ (Only.of_below (by with_reducible assumption))))))
        (first
          | (go_at_call 79; (with_reducible refine (renamed_any Ac N cc.refs (namesM order h.cells.length order.length) cr2 cN h.cells.length _ (HRB.out.below blw_) (HNB.out.below blw_) (by omega) (namesM_len _ _ _) (by omega) HL1.out).mono ?_); rintro e wc ⟨S2, k2, rfl, hS2, hS2lo, hB⟩; rw [ren_map HO.out HD1.out] at hS2; (have z_hB := Below.size hB); (try simp only [World.size_alloc, World.size_setCell, World.size_drew, World.heap_drewN] at z_hB); have Z : Below wb.heap.size wb wc := blw_; clear hB; (try simp only [World.size_alloc, World.size_setCell, World.size_drew, World.heap_drewN] at hS2lo); have zZ := Z.size; have hSlt := hS2.lt; have hgc : w2.heap.size < wc.heap.size := (by omega); have q0c := cell_below q0b Z; have qfc := ((bcell Z).2.1 _ _ hgb).trans qfb)
          | (refine step_appc rfl (.tmp 32) (.tmp 40) rfl rfl rfl (HOB.out.cells.below blw_) ⟨⟨true, cc.data, cc.refs.map (nameM order)⟩, S2, k2⟩ (hS2.below blw_) (by simp; omega) (by simp [go_sem]) (by simp [go_sem]) (by simp [go_sem]) hol2 ?_
             intro S5 c5 w5 hC5 hOn5 hg5
             have v2 : w5.cell? ⟨w2.heap.size, 0, none⟩ = some (.slice SA os.length c1) := hOn5.cell (cell_below q0b blw_) HU1.out
             have v7 : w5.cell? ⟨w2.heap.size, 1, none⟩ = some (.slice R h.roots.length cR) := hOn5.cell (cell_below q1b blw_) HU1.out
             have v6 : w5.frozen? ⟨w2.heap.size, 0, none⟩ = false := (hOn5.frozenAt w2.heap.size 0 (by first | omega | (simp; done) | (simp; omega)) HU1.out).trans (((bcell (w := wb) blw_).2.1 w2.heap.size 0 hgb).trans qfb)
             have hR5 : OF 3 fi w5 R cR rl := (HOB.out.roots.below blw_).only hOn5 (HOB.out.cells.apart HOB.out.roots)
             have g5 : ∀ g ∈ blk S5, g ∈ blk SA ∨ wc.heap.size ≤ g := fun g hg => (hg5 g hg).imp_right fun hh => by (first | omega | (simp at hh; omega))
             have hB5 : Below wn.heap.size wn w5 := Below.trans (YB.trans (Z.mono YB.size)) (Below.trans (Below.mono (B := wc.heap.size) blw_ (by have := YB.size; omega)) (hOn5.below (by first | omega | (simp; done) | (simp; omega)) (fun g hg => (HLO.out g (List.mem_append.2 (.inl (List.mem_append.2 (.inl hg))))).1)))
             have hO5x : Only (w2.heap.size :: blk SA) wb w5 := (Only.of_below (S := w2.heap.size :: blk SA) Z).trans (Only.trans (Only.alloc (Only.refl _ _) _) (hOn5.mono fun g hg => List.mem_cons_of_mem _ hg))
             have HC5 := Lib.hid hC5
             have HR5 := Lib.hid hR5
             have hz5 := hOn5.size
             (try simp only [World.size_alloc, World.size_setCell, World.size_drew, World.heap_drewN] at hz5)
             clear hC5 hR5 hOn5 hg5))
      all_goals
        have hlo' : ∀ g ∈ hblks S5 (os ++ [⟨⟨true, cc.data, cc.refs.map (nameM order)⟩, S2, k2⟩]) R, wn.heap.size ≤ g ∧ g ≠ w2.heap.size := by
          have hlo := HLO.out
          have hyb := YB.size
          intro g hg
          simp only [hblks, blks_append, List.mem_append] at hg hlo
          rcases hg with (hg | hg | hg) | hg
          · rcases g5 g hg with hg | hg
            · exact hlo g (.inl (.inl hg))
            · omega
          · exact hlo g (.inl (.inr hg))
          · have := hS2lo g (by simpa [blks] using hg)
            omega
          · exact hlo g (.inr hg)
        have HLO2 := Lib.hid hlo'
        have HJ2 := HJ.out
        clear hlo' hS
        go_wp2_with fail
        go_roundw
        case rel =>
          refine ⟨j + 1, os ++ [⟨⟨true, cc.data, cc.refs.map (nameM order)⟩, S2, k2⟩], S5, c5, by omega, by go_num, by unfold Hid; rw [HTK.out]; simp, by simp [go_sem, v2, HJ2], by simp [go_sem, v7], by simp [go_sem, v6], HOB.out.push (n := wb.heap.size) (n5 := wc.heap.size) (HC5.out.keep fun g hg => ?_) (HR5.out.keep fun g hg => ?_) g5 (fun g hg => ⟨by have := hS2lo g hg; omega, hSlt g hg⟩) (Nat.le_refl _) (by omega) hol2, HLO2, by simp; omega, hB5.setCell (by omega) _⟩
          · exact heap_setCell_ne _ _ _ (HLO2.out g (List.mem_append.2 (.inl hg))).2
          · exact heap_setCell_ne _ _ _ (HLO2.out g (List.mem_append.2 (.inr hg))).2
        case measure => simp [intOf]; omega
    · have hke : j = order.length := by omega
      have HOL : Hid (os.length = order.length) := by unfold Hid; omega
      have HMM : Hid (os.map (·.c) = order.map (movedC h order)) := by unfold Hid; rw [HM.out, hke, List.take_length]
      obtain ⟨r0, r1, rf⟩ := HG0.out _ YW
      have rf0 := rf 0
      have rf1 := rf 1
      have X := hW0.trans (YW.mono hW0.size)
      have hYs := YW.size
      clear hke hjl HM rf
      go_wp2_with fail
      refine bodyPost_ret (v := .agg #[.slice SA os.length c1, .slice R h.roots.length cR]) (by simp [results, Try.results66, go_sem, r0, r1]) rfl ⟨_, rfl, ?_, blw_⟩
      have hlo := HLO.out
      refine ⟨SA, c1, R, cR, os, ?_, HMM.out, ?_, fun g hg => by have := (hlo g hg).1; omega⟩
      · have h8 : (gathM h order).cells.length = order.length := by show (order.map _).length = _; rw [List.length_map]
        have h9 : (gathM h order).roots.length = h.roots.length := by show (h.roots.map _).length = _; rw [List.length_map]
        rw [h8, h9, HOL.out]
      · have h7 : (gathM h order).roots = rl := HRL.out.symm
        rw [h7]
        exact HOS.out.keep fun g hg => by have := (hlo g hg).1; rw [heap_setCell_ne _ _ _ (by first | omega | (simp; done) | (simp; omega)), heap_setCell_ne _ _ _ (by first | omega | (simp; done) | (simp; omega))]
end Go.Proofs.Ytmlgndeihfpfgaa
