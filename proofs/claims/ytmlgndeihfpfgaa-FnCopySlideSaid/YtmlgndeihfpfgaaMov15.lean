/- The reference moves cells in an order. -/
import Derived.Test.YtmlgndeihfpfgaaChecked
import Derived.Deep.RegionHeld3
import Derived.Deep.DeepCutAuto
import Derived.IntWalk
import Derived.Test.YtmlgndeihfpfgaaGrOrd
import Derived.Test.YtmlgndeihfpfgaaGrCopy
import Derived.Test.YtmlgndeihfpfgaaGrSnap
import Derived.Test.YtmlgndeihfpfgaaAppC
namespace Go.Proofs.Ytmlgndeihfpfgaa
open Go.RowKit
set_option maxRecDepth 100000
set_option linter.unusedSimpArgs false
set_option linter.unusedVariables false
theorem frozen_at {B : Nat} {w w' : World} (h : Below B w w') (b o : Nat) (hb : b < B) : w'.frozen? ⟨b, o, none⟩ = w.frozen? ⟨b, o, none⟩ := World.frozen?_of_block (a := ⟨b, o, none⟩) (h.block b hb)
theorem OHs.newRoots {w w' : World} {A A' A2 : Option Addr} {c c' c2 : Nat} {os : List OCell} {rs rs' : List Int} (h : OHs w A c A' c' os rs) (hR : OF 3 fi w' A2 c2 rs') (hOn : Only (blk A') w w') (hg : ∀ g ∈ blk A2, g ∈ blk A' ∨ w.heap.size ≤ g) (hl : rs'.length ≤ 9223372036854775807) : OHs w' A c A2 c2 os rs' := by
  have hnd := h.nodup
  have hlt := h.lt
  refine ⟨h.cells.keep fun g hg1 => hOn.block g (hlt g (List.mem_append.2 (.inl hg1))) fun hc => ?_, hR, ?_, h.clen, hl⟩
  · exact (List.nodup_append.1 hnd).2.2 g hg1 g hc rfl
  · rw [List.nodup_append] at hnd ⊢
    refine ⟨hnd.1, blk_nodup _, fun a ha b hb e => ?_⟩
    subst e
    rcases hg a hb with h1 | h1
    · exact hnd.2.2 a ha a h1 rfl
    · have := hlt a (List.mem_append.2 (.inl ha)); omega
theorem map_take_snoc {α β : Type} {f : α → β} {xs : List α} {k : Nat} {x : α} (h : xs[k]? = some x) : (xs.take (k + 1)).map f = (xs.take k).map f ++ [f x] := by rw [take_snoc_of h]; simp
set_option maxHeartbeats 4000000 in
theorem l15Move_any (v : Value) (h : HeapM) (O : Option Addr) (order : List Int) (cO : Nat) (w : World) (hv : RH w v h) (hva : validM h = true) (hor : RF fi w O order) (ho : OrdOk h order) :
    Calls Try.prog 70 #[v, .slice O order.length cO] w fun e w' => ∃ v', e = .returned v' ∧ OH w.heap.size w' v' (gathM h order) ∧ Below w.heap.size w w' := by
  obtain ⟨A, c, A', c', rfl, hc0, hr0, hl1, hl2⟩ := hv
  obtain ⟨v1, v2_, v3⟩ := valid_small hva
  have v2 : h.roots.length ≤ 4 := by omega
  have hol := ho.len
  have HC := Lib.hid hc0
  have HRT := Lib.hid hr0
  have HOR := Lib.hid hor
  have HO := Lib.hid ho
  have HV3 := Lib.hid v3
  clear hc0 hr0 hor ho v3 v2_ hva
  have HG0 : Hid (∀ W, Below (w.heap.size + 1 + 1) (((w.alloc (.cells #[.slice A h.cells.length c, .slice A' h.roots.length c'] 29)).alloc (.cells #[.slice none 0 0, .slice none 0 0] 29)).alloc (.cells #[.slice none 0 0, .slice none 0 0] 29)) W → (W.cell? ⟨w.heap.size + 1, 0, none⟩ = some (.slice none 0 0) ∧ W.cell? ⟨w.heap.size + 1, 1, none⟩ = some (.slice none 0 0) ∧ ∀ o, W.frozen? ⟨w.heap.size + 1, o, none⟩ = false)) := fun W hW => ⟨(below_at hW _ _ (by simp)).trans (by simp [go_sem]), (below_at hW _ _ (by simp)).trans (by simp [go_sem]), fun o => (frozen_at hW _ _ (by simp)).trans (by simp [go_sem])⟩
  have HF0 : Hid (∀ W, Below (w.heap.size + 1 + 1) (((w.alloc (.cells #[.slice A h.cells.length c, .slice A' h.roots.length c'] 29)).alloc (.cells #[.slice none 0 0, .slice none 0 0] 29)).alloc (.cells #[.slice none 0 0, .slice none 0 0] 29)) W → (W.cell? ⟨w.heap.size, 0, none⟩ = some (.slice A h.cells.length c) ∧ W.cell? ⟨w.heap.size, 1, none⟩ = some (.slice A' h.roots.length c'))) := fun W hW => ⟨(below_at hW _ _ (by omega)).trans (by simp [go_sem]), (below_at hW _ _ (by omega)).trans (by simp [go_sem])⟩
  have hz0 : (((w.alloc (.cells #[.slice A h.cells.length c, .slice A' h.roots.length c'] 29)).alloc (.cells #[.slice none 0 0, .slice none 0 0] 29)).alloc (.cells #[.slice none 0 0, .slice none 0 0] 29)).heap.size = w.heap.size + 3 := by simp
  have hW0 : Below w.heap.size w (((w.alloc (.cells #[.slice A h.cells.length c, .slice A' h.roots.length c'] 29)).alloc (.cells #[.slice none 0 0, .slice none 0 0] 29)).alloc (.cells #[.slice none 0 0, .slice none 0 0] 29)) := blw_
  have x0 : (((w.alloc (.cells #[.slice A h.cells.length c, .slice A' h.roots.length c'] 29)).alloc (.cells #[.slice none 0 0, .slice none 0 0] 29)).alloc (.cells #[.slice none 0 0, .slice none 0 0] 29)).cell? ⟨w.heap.size + 1 + 1, 0, none⟩ = some (.slice none 0 0) := by simp [go_sem]
  have x1 : (((w.alloc (.cells #[.slice A h.cells.length c, .slice A' h.roots.length c'] 29)).alloc (.cells #[.slice none 0 0, .slice none 0 0] 29)).alloc (.cells #[.slice none 0 0, .slice none 0 0] 29)).cell? ⟨w.heap.size + 1 + 1, 1, none⟩ = some (.slice none 0 0) := by simp [go_sem]
  have HXF : Hid (∀ o, (((w.alloc (.cells #[.slice A h.cells.length c, .slice A' h.roots.length c'] 29)).alloc (.cells #[.slice none 0 0, .slice none 0 0] 29)).alloc (.cells #[.slice none 0 0, .slice none 0 0] 29)).frozen? ⟨w.heap.size + 1 + 1, o, none⟩ = false) := fun o => by simp [go_sem]
  go_enter Try.func70, Try.ntmps70
  go_wp2_with fail
  generalize (((w.alloc (.cells #[.slice A h.cells.length c, .slice A' h.roots.length c'] 29)).alloc (.cells #[.slice none 0 0, .slice none 0 0] 29)).alloc (.cells #[.slice none 0 0, .slice none 0 0] 29)) = W0 at *
  go_loopw [6] (fun i wr => ∃ (j : Nat) (os : List OCell) (SA : Option Addr) (c1 : Nat), j ≤ order.length ∧ i = .int .i64 j ∧ Hid (os.map (·.c) = (order.take j).map (movedC h order)) ∧ wr.cell? ⟨w.heap.size + 1 + 1, 0, none⟩ = some (.slice SA os.length c1) ∧ wr.cell? ⟨w.heap.size + 1 + 1, 1, none⟩ = some (.slice none 0 0) ∧ Hid (∀ o, wr.frozen? ⟨w.heap.size + 1 + 1, o, none⟩ = false) ∧ Hid (OHs wr SA c1 none 0 os []) ∧ Hid (∀ x ∈ hblks SA os none, w.heap.size + 3 ≤ x) ∧ Below (w.heap.size + 1 + 1) W0 wr) (fun i _ => order.length - (intOf i).toNat)
  case atStart =>
    refine ⟨0, [], none, 0, by omega, rfl, rfl, x0, x1, HXF, ⟨OC.nil_, OF.nil, by simp [hblks, blks, blk], by simp, by simp⟩, fun x hx => ?_, Below.refl _ _⟩
    simp [hblks, blks, blk] at hx
  case round =>
    clear HXF x0 x1
    obtain ⟨j, os, SA, c1, hj, rfl, HM, q0, q1, HXF, HOS, HLO, Y⟩ := hrel
    have sY := Y.size
    have X : Below w.heap.size w wr := hW0.trans (Y.mono (by omega))
    have hjl : os.length = j := by have := congrArg List.length HM.out; simp at this; omega
    have HJ := Lib.hid hjl
    by_cases hlt : j < order.length
    · obtain ⟨bo, oo, r, rfl, gr, m, hbo⟩ := (HOR.out.below X).at_ hlt
      have n1 : wr.cell? ⟨bo, oo + j, none⟩ = some (.int .i64 r) := m
      obtain ⟨hr0, hrn⟩ := HO.out.lt r (List.mem_of_getElem? gr)
      obtain ⟨k, rfl⟩ := Int.eq_ofNat_of_zero_le hr0
      have hkn : k < h.cells.length := by omega
      obtain ⟨b, o, cc, Ac, cr2, rfl, gc, d0, d1, d2, hrr, hrl2, hb⟩ := (HC.out.below X).at_ hkn
      obtain ⟨a0, a1⟩ := HF0.out _ Y
      have HMV : Hid (movedC h order (k : Int) = ⟨true, cc.data, cc.refs.map (nameM order)⟩) := movedC_of (by rw [Int.toNat_natCast]; exact gc)
      have HTK : Hid ((order.take (j + 1)).map (movedC h order) = os.map (·.c) ++ [⟨true, cc.data, cc.refs.map (nameM order)⟩]) := by unfold Hid; rw [take_snoc_of gr, List.map_append, ← HM.out, List.map_singleton, HMV.out]
      have hcr3 : cc.refs.length ≤ 3 := HV3.out cc (List.mem_of_getElem? gc)
      have HRR := Lib.hid hrr
      have hol2 : os.length ≤ 1099511627776 := by omega
      obtain ⟨du, hdu⟩ : ∃ du, du = cc.used := ⟨_, rfl⟩
      rw [← hdu] at d0
      clear m gr gc hrr hrl2 hdu hjl
      have hjI : (j : Int) < (order.length : Int) := by omega
      have hbA : Below wr.heap.size wr (wr.alloc (.cells #[.bool false, .int .i64 0, .slice none 0 0] 65)) := blw_
      have e0 := cell_below a0 hbA
      have e1 := cell_below n1 hbA
      have e2 := cell_below d0 hbA
      have e3 := cell_below d1 hbA
      have e4 := cell_below d2 hbA
      clear hbA
      go_wp2_with fail
      go_region
      all_goals (go_wp2_with fail)
      obtain ⟨w1, hw1⟩ : ∃ x, x = wr := ⟨_, rfl⟩
      subst hw1
      have hbW : Below w1.heap.size w1 ((((w1.alloc (.cells #[.bool du, .int .i64 cc.data, .slice Ac cc.refs.length cr2] 65)).alloc (.cells #[] 3)).drew)) := blw_
      have e5 : ((((w1.alloc (.cells #[.bool du, .int .i64 cc.data, .slice Ac cc.refs.length cr2] 65)).alloc (.cells #[] 3)).drew)).cell? ⟨w1.heap.size, 1, none⟩ = some (.int .i64 cc.data) := by simp [go_sem]
      have e6 : ((((w1.alloc (.cells #[.bool du, .int .i64 cc.data, .slice Ac cc.refs.length cr2] 65)).alloc (.cells #[] 3)).drew)).cell? ⟨w1.heap.size, 2, none⟩ = some (.slice Ac cc.refs.length cr2) := by simp [go_sem]
      have hWz : ((((w1.alloc (.cells #[.bool du, .int .i64 cc.data, .slice Ac cc.refs.length cr2] 65)).alloc (.cells #[] 3)).drew)).heap.size = w1.heap.size + 2 := by simp
      have HE0 : Hid (OF 3 fi ((((w1.alloc (.cells #[.bool du, .int .i64 cc.data, .slice Ac cc.refs.length cr2] 65)).alloc (.cells #[] 3)).drew)) (some ⟨w1.heap.size + 1, 0, none⟩) 0 ([] : List Int)) := OF.new0 (by rw [heap_drew_]; exact heap_alloc_at _ _ _ (by simp))
      have HOSB := Lib.hid (HOS.out.below hbW)
      have q0b := cell_below q0 hbW
      have q1b := cell_below q1 hbW
      have HXFB : Hid (∀ o, ((((w1.alloc (.cells #[.bool du, .int .i64 cc.data, .slice Ac cc.refs.length cr2] 65)).alloc (.cells #[] 3)).drew)).frozen? ⟨w.heap.size + 1 + 1, o, none⟩ = false) := fun o => ((bcell hbW).2.1 _ _ (by omega)).trans (HXF.out o)
      have HOLT := Lib.hid HOS.out.lt
      clear q0 q1 HXF e0 e1 e2 e3 e4 d0 d1 d2 n1 a0 a1
      generalize ((((w1.alloc (.cells #[.bool du, .int .i64 cc.data, .slice Ac cc.refs.length cr2] 65)).alloc (.cells #[] 3)).drew)) = wb at *
      go_loopw [8, 9] (fun s8 i wx => ∃ (j2 : Nat) (L : List Int) (S : Option Addr) (cS : Nat), j2 ≤ cc.refs.length ∧ i = .int .i64 j2 ∧ s8 = .slice S L.length cS ∧ Hid (L = (cc.refs.take j2).map (nameM order)) ∧ L.length ≤ 40 ∧ Hid (OF 3 fi wx S cS L) ∧ Hid (∀ x ∈ blk S, w1.heap.size + 1 ≤ x) ∧ Below (w1.heap.size + 1) wb wx) (fun _ i _ => cc.refs.length - (intOf i).toNat)
      case atStart => exact ⟨0, [], some ⟨w1.heap.size + 1, 0, none⟩, 0, by omega, rfl, by simp, by simp [Hid], by simp, HE0, fun x hx => by have := mem_blk_some hx; omega, Below.refl _ _⟩
      case round =>
        obtain ⟨j2, L, S, cS, hj2, rfl, rfl, HL, hLl, HK, HSL, Z⟩ := hrel
        have sZ := Z.size
        have X1 : Below w1.heap.size w1 wr := hbW.trans (Z.mono (by omega))
        have X2 : Below w.heap.size w wr := X.trans (X1.mono X.size)
        have f5 := (below_at Z w1.heap.size 1 (by omega)).trans e5
        have f6 := (below_at Z w1.heap.size 2 (by omega)).trans e6
        by_cases hlt2 : j2 < cc.refs.length
        · obtain ⟨b2, o2, r, rfl, gr, m2, hb2⟩ := (HRR.out.below X1).at_ hlt2
          have n2 : wr.cell? ⟨b2, o2 + j2, none⟩ = some (.int .i64 r) := m2
          have HT := Lib.hid (map_take_snoc (f := nameM order) gr)
          have HLN : Hid (L ++ [nameM order r] = (cc.refs.take (j2 + 1)).map (nameM order)) := by unfold Hid; rw [HT.out, HL.out]
          have hln : (L ++ [nameM order r]).length ≤ 40 := by rw [HLN.out, List.length_map, List.length_take]; omega
          have HLL := Lib.hid hln
          have HO2 := Lib.hid (HOR.out.below X2)
          clear m2 gr hln
          go_wp2_with fail
          (with_reducible refine (l9Name_any (some ⟨bo, oo, none⟩) order cO r _ HO2.out (by omega)).mono ?_)
          rintro e wq ⟨rfl, rfl⟩
          go_wp2_with (at_builtin; (refine wpList_appi rfl (.tmp 34) (.tmp 42) rfl L rfl rfl (HK.out.below blw_) (RF.singR (x := nameM order r) (by simp [go_sem, fi])) (by simp; omega) ?_); intro S2 cS2 w3 hO3 hOn3 hg3; have HB3 : Below (w1.heap.size + 1) wb w3 := Below.trans blw_ (hOn3.below (by simp; omega) (fun b9 hb9 => HSL.out b9 hb9)); have HSL3 : Hid (∀ b9 ∈ blk S2, w1.heap.size + 1 ≤ b9) := (fun b9 hb9 => by rcases hg3 b9 hb9 with h9 | h9; exact HSL.out b9 h9; (try simp at h9); omega); have HK3 := Lib.hid hO3; clear hO3 hOn3 hg3)
          go_roundw
          case rel => exact ⟨j2 + 1, L ++ [nameM order r], S2, cS2, by omega, by go_num, by simp, HLN, HLL.out, HK3, HSL3, HB3⟩
          case measure => simp [intOf]; omega
        · have hke2 : j2 = cc.refs.length := by omega
          have hL2 : L = cc.refs.map (nameM order) := by rw [HL.out, hke2, List.take_length]
          subst hL2
          have HKE := HK
          clear hke2 HK HL
          have HOSR : Hid (OHs wr SA c1 none 0 os []) := HOSB.out.keep fun g hg => Z.block g (by have := HOLT.out g hg; omega)
          have q0c := (below_at Z (w.heap.size + 1 + 1) 0 (by omega)).trans q0b
          have q1c := (below_at Z (w.heap.size + 1 + 1) 1 (by omega)).trans q1b
          have HXFC : Hid (∀ o, wr.frozen? ⟨w.heap.size + 1 + 1, o, none⟩ = false) := fun o => (frozen_at Z (w.heap.size + 1 + 1) o (by omega)).trans (HXFB.out o)
          have hu1 : w.heap.size + 1 + 1 ∉ blk SA := fun hx => by have := HLO.out _ (List.mem_append.2 (.inl (List.mem_append.2 (.inl hx)))); omega
          have HU1 := Lib.hid hu1
          clear q0b q1b HOSB hu1
          have qf := HXFC.out 0
          go_wp2_with (at_builtin; (refine wpList_appc rfl (.tmp 45) (.tmp 50) rfl rfl rfl (HOSR.out.cells.below blw_) ⟨⟨true, cc.data, cc.refs.map (nameM order)⟩, S, cS⟩ (HKE.out.below blw_) (by simp; omega) (by simp [go_sem]) (by simp [go_sem]) (by simp [go_sem]) hol2 ?_); intro S5 c5 w5 hC5 hOn5 hg5; have v0 : w5.cell? ⟨w.heap.size + 1 + 1, 0, none⟩ = some (.slice SA os.length c1) := hOn5.cell (cell_below q0c blw_) HU1.out; have v1 : w5.cell? ⟨w.heap.size + 1 + 1, 1, none⟩ = some (.slice none 0 0) := hOn5.cell (cell_below q1c blw_) HU1.out; have HVF : Hid (∀ o, w5.frozen? ⟨w.heap.size + 1 + 1, o, none⟩ = false) := (fun o => (hOn5.frozenAt (w.heap.size + 1 + 1) o (by simp; omega) HU1.out).trans (((bcell (w := wr) blw_).2.1 (w.heap.size + 1 + 1) o (by omega)).trans (HXFC.out o))); have v3 := HVF.out 0; have hz5 := hOn5.size; (try simp only [World.size_alloc, World.size_setCell, World.size_drew, World.heap_drewN] at hz5); have hg6 : ∀ g ∈ blk S5, g ∈ blk SA ∨ wr.heap.size ≤ g := (fun g hg => (hg5 g hg).imp_right fun hh => by (first | omega | (simp at hh; omega))); have hB5 : Below (w.heap.size + 1 + 1) wr w5 := Below.trans blw_ (hOn5.below (by first | omega | (simp; done) | (simp; omega)) (fun g hg => by have := HLO.out g (List.mem_append.2 (.inl (List.mem_append.2 (.inl hg)))); omega)); have HC5 := Lib.hid hC5; have HG6 := Lib.hid hg6; clear hC5 hOn5 hg5 hg6)
          go_roundw
          case rel =>
            have hlo5 : ∀ g ∈ hblks S5 (os ++ [⟨⟨true, cc.data, cc.refs.map (nameM order)⟩, S, cS⟩]) none, w.heap.size + 3 ≤ g := by
              have hlo := HLO.out
              intro g hg
              simp only [hblks, blks_append, List.mem_append] at hg hlo
              rcases hg with (hg | hg | hg) | hg
              · rcases HG6.out g hg with hg | hg
                · exact hlo g (.inl (.inl hg))
                · omega
              · exact hlo g (.inl (.inr hg))
              · have := HSL.out g (by simpa [blks] using hg); omega
              · exact hlo g (.inr hg)
            refine ⟨j + 1, os ++ [⟨⟨true, cc.data, cc.refs.map (nameM order)⟩, S, cS⟩], S5, c5, by omega, by go_num, by unfold Hid; rw [HTK.out]; simp, by simp [go_sem, v0], by simp [go_sem, v1], fun o => by have := HVF.out o; simpa [go_sem] using this, OHs.push (w := w1) (n := w1.heap.size) (n5 := wr.heap.size) HOS.out (HC5.out.keep fun g hg => ?_) OF.nil HG6.out (fun g hg => ⟨by have := HSL.out g hg; omega, HKE.out.lt g hg⟩) (Nat.le_refl _) (by omega) hol2, Lib.hid hlo5, ?_⟩
            · exact heap_setCell_ne _ _ _ (by have := hlo5 g (List.mem_append.2 (.inl hg)); simp only; omega)
            · refine Below.setCell ?_ (by simp only; omega) _
              exact Y.trans ((X1.mono (by omega)).trans hB5)
          case measure => simp [intOf]; omega
    · have hke : j = order.length := by omega
      have HMM : Hid (os.map (·.c) = order.map (movedC h order)) := by unfold Hid; rw [HM.out, hke, List.take_length]
      have HOL : Hid (os.length = order.length) := by unfold Hid; omega
      clear hke hjl HM HJ
      obtain ⟨w1, hw1⟩ : ∃ x, x = wr := ⟨_, rfl⟩
      subst hw1
      go_wp2_with fail
      go_loopw [10] (fun i wx => ∃ (j2 : Nat) (L : List Int) (S : Option Addr) (cS : Nat), j2 ≤ h.roots.length ∧ i = .int .i64 j2 ∧ Hid (L = (h.roots.take j2).map (nameM order)) ∧ L.length ≤ 40 ∧ wx.cell? ⟨w.heap.size + 1 + 1, 0, none⟩ = some (.slice SA os.length c1) ∧ wx.cell? ⟨w.heap.size + 1 + 1, 1, none⟩ = some (.slice S L.length cS) ∧ Hid (∀ o, wx.frozen? ⟨w.heap.size + 1 + 1, o, none⟩ = false) ∧ Hid (OHs wx SA c1 S cS os L) ∧ Hid (∀ x ∈ hblks SA os S, w.heap.size + 3 ≤ x) ∧ Below (w.heap.size + 1 + 1) W0 wx) (fun i _ => h.roots.length - (intOf i).toNat)
      case atStart => exact ⟨0, [], none, 0, by omega, rfl, rfl, by simp, q0, q1, HXF, HOS, HLO, Y⟩
      case round =>
        clear q0 q1 HXF HOS HLO Y sY X
        obtain ⟨j2, L, S, cS, hj2, rfl, HL, hLl, q0, q1, HXF, HOS, HLO, Y⟩ := hrel
        have sY := Y.size
        have X : Below w.heap.size w wr := hW0.trans (Y.mono (by omega))
        by_cases hlt2 : j2 < h.roots.length
        · obtain ⟨b2, o2, r, rfl, gr, m2, hb2⟩ := HRT.out.at_ hlt2
          have n2 : wr.cell? ⟨b2, o2 + j2, none⟩ = some (.int .i64 r) := cell_below m2 X
          obtain ⟨a0, a1⟩ := HF0.out _ Y
          have HT := Lib.hid (map_take_snoc (f := nameM order) gr)
          have HLN : Hid (L ++ [nameM order r] = (h.roots.take (j2 + 1)).map (nameM order)) := by unfold Hid; rw [HT.out, HL.out]
          have hln : (L ++ [nameM order r]).length ≤ 40 := by rw [HLN.out, List.length_map, List.length_take]; omega
          have HLL := Lib.hid hln
          have HO2 := Lib.hid (HOR.out.below X)
          have hu1 : w.heap.size + 1 + 1 ∉ blk S := fun hx => by have := HLO.out _ (List.mem_append.2 (.inr hx)); omega
          have HU1 := Lib.hid hu1
          have hS : ∀ W, Below wr.heap.size wr W → W.cell? ⟨w.heap.size, 1, none⟩ = some (.slice (some ⟨b2, o2, none⟩) h.roots.length c') ∧ W.cell? ⟨b2, o2 + j2, none⟩ = some (.int .i64 r) := fun W hW => ⟨cell_below a1 hW, cell_below n2 hW⟩
          have HS2 : Hid (∀ W, Below (w.heap.size + 1 + 1) wr W → W.cell? ⟨w.heap.size, 1, none⟩ = some (.slice (some ⟨b2, o2, none⟩) h.roots.length c') ∧ W.cell? ⟨b2, o2 + j2, none⟩ = some (.int .i64 r)) := fun W hW => ⟨(below_at hW _ _ (by omega)).trans a1, (below_at hW _ _ (by omega)).trans n2⟩
          clear m2 gr hln hu1 a0 n2
          go_upto_region 15 with fail
          clear a1
          have hgb : w.heap.size + 1 + 1 < wr.heap.size := by omega
          have hgb2 : w.heap.size + 1 + 1 ≠ wr.heap.size := by omega
          have hgb3 : wr.heap.size ≠ w.heap.size + 1 + 1 := by omega
          change Code.wp _ (Code.region _ #[_, id _, _, _, _, _, _, _, _, _, _, _, _] true) _ _ _
          go_region_held3 (fun w' => w'.cell? ⟨w.heap.size, 1, none⟩ = some (.slice (some ⟨b2, o2, none⟩) h.roots.length c') ∧ w'.cell? ⟨b2, o2 + j2, none⟩ = some (.int .i64 r))
            (first | with_reducible exact HS2.out _ (Below.setc (by simp) hB5 _) | with_reducible exact HS2.out _ hB5 | with_reducible exact hS _ blw_)
            (first
              | (go_at_call 111; (with_reducible refine (l9Name_any O order cO r _ (HO2.out.below blw_) (by omega)).mono ?_); rintro e wq ⟨rfl, rfl⟩)
              | (refine step_appi rfl (.tmp 61) (.tmp 69) rfl L rfl rfl (HOS.out.roots.below blw_) (RF.singR (x := nameM order r) (by simp [go_sem, fi])) (by simp; omega) ?_
                 intro S5 c5 w5 hO5 hOn5 hg5
                 have v0 : w5.cell? ⟨w.heap.size + 1 + 1, 0, none⟩ = some (.slice SA os.length c1) := hOn5.cell (cell_below q0 blw_) HU1.out
                 have v1 : w5.cell? ⟨w.heap.size + 1 + 1, 1, none⟩ = some (.slice S L.length cS) := hOn5.cell (cell_below q1 blw_) HU1.out
                 have HVF : Hid (∀ o, w5.frozen? ⟨w.heap.size + 1 + 1, o, none⟩ = false) := (fun o => (hOn5.frozenAt (w.heap.size + 1 + 1) o (by simp; omega) HU1.out).trans (((bcell (w := wr) blw_).2.1 (w.heap.size + 1 + 1) o (by omega)).trans (HXF.out o)))
                 have v3 := HVF.out 1
                 have hB5 : Below (w.heap.size + 1 + 1) wr w5 := Below.trans blw_ (hOn5.below (by first | omega | (simp; done) | (simp; omega)) (fun g hg => by have := HLO.out g (List.mem_append.2 (.inr hg)); omega))
                 have HO5 : Hid (OHs w5 SA c1 S5 c5 os (L ++ [nameM order r])) := (HOS.out.below blw_).newRoots hO5 hOn5 hg5 (by have := HLL.out; omega)
                 have HG5 : Hid (∀ g ∈ blk S5, w.heap.size + 3 ≤ g) := (fun g hg => by rcases hg5 g hg with hh | hh; exact HLO.out g (List.mem_append.2 (.inr hh)); (try simp at hh); omega)
                 clear hO5 hOn5 hg5))
          all_goals
            have HL5 : Hid (∀ g ∈ hblks SA os S5, w.heap.size + 3 ≤ g) := fun g hg => by
              rcases List.mem_append.1 hg with hg | hg
              · exact HLO.out g (List.mem_append.2 (.inl hg))
              · exact HG5.out g hg
            go_wp2_with fail
            go_roundw
            case rel =>
              refine ⟨j2 + 1, L ++ [nameM order r], S5, c5, by omega, by go_num, HLN, HLL.out, by simp [go_sem, v0], by simp [go_sem, v1], fun o => by have := HVF.out o; simpa [go_sem] using this, HO5.out.keep fun g hg => ?_, ?_, Below.setCell (Y.trans hB5) (by simp only; omega) _⟩
              · exact heap_setCell_ne _ _ _ (by have := HL5.out g hg; simp only; omega)
              · exact HL5
            case measure => simp [intOf]; omega
        · have hke2 : j2 = h.roots.length := by omega
          have hL2 : L = h.roots.map (nameM order) := by rw [HL.out, hke2, List.take_length]
          have hLn : L.length = h.roots.length := by rw [hL2, List.length_map]
          have HL2 := Lib.hid hL2
          have HLN := Lib.hid hLn
          obtain ⟨a0, a1⟩ := HF0.out _ Y
          obtain ⟨r0, r1, rf⟩ := HG0.out _ Y
          have rf0 := rf 0
          have rf1 := rf 1
          clear hke2 hL2 hLn HL rf
          go_wp2_with fail
          refine bodyPost_ret (v := .agg #[.slice SA os.length c1, .slice S L.length cS]) (by simp [results, Try.results70, go_sem, r0, r1]) rfl ⟨_, rfl, ?_, blw_⟩
          have hlo := HLO.out
          refine ⟨SA, c1, S, cS, os, ?_, HMM.out, ?_, fun g hg => by have := hlo g hg; omega⟩
          · have h8 : (gathM h order).cells.length = order.length := by show (order.map _).length = _; rw [List.length_map]
            have h9 : (gathM h order).roots.length = h.roots.length := by show (h.roots.map _).length = _; rw [List.length_map]
            rw [h8, h9, HOL.out, HLN.out]
          · have h7 : (gathM h order).roots = L := HL2.out.symm
            rw [h7]
            exact HOS.out.keep fun g hg => by have := hlo g hg; rw [heap_setCell_ne _ _ _ (by simp only; omega), heap_setCell_ne _ _ _ (by simp only; omega)]
end Go.Proofs.Ytmlgndeihfpfgaa
