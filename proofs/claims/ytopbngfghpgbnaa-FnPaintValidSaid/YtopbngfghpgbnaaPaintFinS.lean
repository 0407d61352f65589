/- The reference's PaintFinish does what paintFinishM says. -/
import Derived.Test.YtopbngfghpgbnaaChecked
import Derived.Deep.LoopGhost
import Derived.Deep.RegionHeld3
import Derived.Test.YtopbngfghpgbnaaPaintFin
import Derived.Test.YtopbngfghpgbnaaGrCopy
namespace Go.Proofs.Ytopbngfghpgbnaa
open Go.RowKit
set_option maxRecDepth 100000
set_option linter.unusedSimpArgs false
set_option linter.unusedVariables false
/-- A painted heap of the call's own is stored over a box of the call's own that lies below its blocks. -/
theorem PPx.over {lo l2 : Nat} {w : World} {g : Nat} {p q : PaintM} {A A' A2 B B' B2 : Option Addr} {c c' c2 d d' d2 : Nat} {os os2 : List OCell} (h : PPx lo w g p A c A' c' os A2 c2) (hm : os2.map (·.c) = q.store.cells) (ho : OHs w B d B' d' os2 q.store.roots) (hc : OF 3 fi w B2 d2 q.colours)
    (hnd : (hblks B os2 B' ++ blk B2).Nodup) (hlo : ∀ b ∈ hblks B os2 B' ++ blk B2, l2 ≤ b) (hcl : q.colours.length ≤ 9223372036854775807) (hl2 : lo ≤ l2) (hg : g < l2) :
    PPx lo ((((w.setCell ⟨g, 0, none⟩ (.slice B q.store.cells.length d)).setCell ⟨g, 1, none⟩ (.slice B' q.store.roots.length d')).setCell ⟨g, 2, none⟩ (.slice B2 q.colours.length d2)).setCell ⟨g, 3, none⟩ (.bool q.active)) g q B d B' d' os2 B2 d2 := by
  have hk : ∀ b ∈ hblks B os2 B' ++ blk B2, b ≠ g := fun b hb e => by have := hlo b hb; omega
  have k0 := h.q0
  have k1 := h.q1
  have k2 := h.q2
  have k3 := h.q3
  refine ⟨by simp [go_sem, k0, k1, k2, k3], by simp [go_sem, k0, k1, k2, k3], by simp [go_sem, k0, k1, k2, k3], by simp [go_sem, k0, k1, k2, k3], fun o => by simp [go_sem, h.qf o], h.lo_, by simpa using h.lt, fun hc => by have := hlo g hc; omega, hm, ?_, ?_, hnd, fun b hb => Nat.le_trans hl2 (hlo b hb), hcl⟩
  · exact ho.keep fun b hb => by have := hk b (List.mem_append.2 (.inl hb)); rw [heap_setCell_ne _ _ _ this, heap_setCell_ne _ _ _ this, heap_setCell_ne _ _ _ this, heap_setCell_ne _ _ _ this]
  · exact hc.keep fun b hb => by have := hk b (List.mem_append.2 (.inr hb)); rw [heap_setCell_ne _ _ _ this, heap_setCell_ne _ _ _ this, heap_setCell_ne _ _ _ this, heap_setCell_ne _ _ _ this]
theorem RF.one {α : Type} {f : α → Value} {w : World} {g : Nat} {x : α} (h : w.cell? ⟨g, 0, none⟩ = some (f x)) : RF f w (some ⟨g, 0, none⟩) [x] := fun i hi => by
  have : i = 0 := by simpa using hi
  subst this
  exact ⟨g, 0, x, rfl, rfl, by simpa using h⟩
theorem freedN_snoc {cs : List CellM} {dead : List Bool} {j : Nat} {c : CellM} {b : Bool} (hc : cs[j]? = some c) (hb : dead[j]? = some b) : freedN (cs.take (j + 1)) (dead.take (j + 1)) = freedN (cs.take j) (dead.take j) + (if b && c.used then 1 else 0) := by
  have h1 := (List.getElem?_eq_some_iff.1 hc).1
  have h2 := (List.getElem?_eq_some_iff.1 hb).1
  rw [take_snoc_of hc, take_snoc_of hb]
  unfold freedN
  rw [List.zipWith_append (by simp; omega), List.filter_append, List.length_append]
  congr 1
  cases b <;> cases hu : c.used <;> simp [hu]
theorem freedN_le (cs : List CellM) (dead : List Bool) : freedN cs dead ≤ cs.length := by
  unfold freedN
  refine Nat.le_trans (List.length_filter_le _ _) ?_
  rw [List.length_zipWith]
  omega
theorem endP_next (p : PaintM) : endP (stepP p).1 = endP p := by
  rcases bool_ft (stepP p).2 with h | h
  · rw [stepP_same h]
  · exact (endP_step h).symm
theorem whites_at {cols : List Int} {j : Nat} {x : Int} (h : cols[j]? = some x) : (whites cols)[j]? = some (x == 0) := by simp [whites, h]
set_option maxHeartbeats 4000000 in
theorem specPaintFinish_any (v : Value) (p : PaintM) (w : World) (hv : RPt w v p) :
    Calls Try.prog 34 #[v] w fun e w' => ∃ v', e = .returned (.tuple #[v', .int .i64 (paintFinishM p).2]) ∧ OPt w.heap.size w' v' (paintFinishM p).1 ∧ Below w.heap.size w w' := by
  have hv0 := hv
  obtain ⟨A, c, A', c', A2, c2, rfl, -, -, -⟩ := hv
  cases hva : paintM p
  · have HV := Lib.hid hva
    go_enter Try.func34, Try.ntmps34
    go_wp2_with (go_at_call 17; refine (specPaintValid_any _ p _ (hv0.below blw_)).mono ?_; rw [HV.out]; rintro e w1 ⟨rfl, hB1⟩; obtain ⟨hbc, hbf, hbz⟩ := bcell hB1; have z0w1 : w.heap.size < w1.heap.size := (by (try simp at hbz); omega); have z1w1 : w.heap.size + 1 < w1.heap.size := (by (try simp at hbz); omega))
    refine bodyPost_ret (v := .tuple #[.agg #[.slice none 0 0, .slice none 0 0, .slice none 0 0, .bool false], .int .i64 (-1)]) (by simp [results, Try.results34, go_sem, hbc]) rfl ⟨_, by unfold paintFinishM; rw [HV.out]; rfl, ?_, blw_⟩
    unfold paintFinishM
    rw [HV.out]
    exact OPt.zero
  · obtain ⟨v1, v2, v3, v4, v5, v6⟩ := paint_small hva
    have HV := Lib.hid hva
    have HV3 := Lib.hid v3
    clear hva v3 v5 v6
    go_enter Try.func34, Try.ntmps34
    go_wp2_with (go_at_call 17; refine (specPaintValid_any _ p _ (hv0.below blw_)).mono ?_; rw [HV.out]; rintro e w1 ⟨rfl, hB1⟩; obtain ⟨hbc, hbf, hbz⟩ := bcell hB1; have z0w1 : w.heap.size < w1.heap.size := (by (try simp at hbz); omega); have z1w1 : w.heap.size + 1 < w1.heap.size := (by (try simp at hbz); omega); have HB1 : Below w.heap.size w w1 := blw_; have MC : Hid (∀ o, o < 3 → w1.cell? ⟨w.heap.size + 1, o, none⟩ = some (.slice none 0 0)) := (fun o ho => by rw [hbc _ _ (by first | omega | (simp; done) | (simp; omega))]; rcases (by omega : o = 0 ∨ o = 1 ∨ o = 2) with rfl | rfl | rfl <;> simp [go_sem]); have m3 : w1.cell? ⟨w.heap.size + 1, 3, none⟩ = some (.bool false) := (by rw [hbc _ _ (by first | omega | (simp; done) | (simp; omega))]; simp [go_sem]); have MF : Hid (∀ o, w1.frozen? ⟨w.heap.size + 1, o, none⟩ = false) := (fun o => by rw [hbf _ _ (by first | omega | (simp; done) | (simp; omega))]; simp [go_sem]); have k3 : w1.cell? ⟨w.heap.size, 3, none⟩ = some (.bool p.active) := (by rw [hbc _ _ (by first | omega | (simp; done) | (simp; omega))]; simp [go_sem]))
    refine (l18Copy_any _ p _ (hv0.below HB1) (by omega) (fun d hd => Nat.le_trans (HV3.out d hd) (by omega)) (by omega) (by omega)).mono ?_
    rintro e w2 ⟨v2, rfl, ho, hB2⟩
    obtain ⟨B, d, B', d', os, B2, d2, rfl, hm, hO, hC, hnd, hlo, hcl⟩ := ho
    have hz1 := HB1.size
    have hz2 := hB2.size
    have hP := PPx.mk_ hm hO hC hnd hlo hcl hz2 28
    have hB3 : Below w1.heap.size w1 (w2.alloc (.cells #[.slice B p.store.cells.length d, .slice B' p.store.roots.length d', .slice B2 p.colours.length d2, .bool p.active] 28)) := blw_
    have k3c := cell_below k3 hB3
    clear hm hO hC hnd hlo hB2
    cases ha : p.active
    · have HE : Hid (finishP p = (p, 0)) := by unfold Hid finishP; rw [ha]; rfl
      have HA := Lib.hid ha
      rw [ha] at hP hB3 k3c
      have n0 := cell_below (MC.out 0 (by omega)) hB3
      have n1 := cell_below (MC.out 1 (by omega)) hB3
      have n2 := cell_below (MC.out 2 (by omega)) hB3
      have n3 := cell_below m3 hB3
      have nf : ∀ o, (w2.alloc (.cells #[.slice B p.store.cells.length d, .slice B' p.store.roots.length d', .slice B2 p.colours.length d2, .bool false] 28)).frozen? ⟨w.heap.size + 1, o, none⟩ = false := fun o => ((bcell hB3).2.1 _ _ (by omega)).trans (MF.out o)
      have nf0 := nf 0
      have nf1 := nf 1
      have nf2 := nf 2
      have nf3 := nf 3
      have hw4 := HB1.trans (hB3.mono hz1)
      have q0 := hP.q0
      have q1 := hP.q1
      have q2 := hP.q2
      have q3 := hP.q3
      have HP := Lib.hid hP
      clear hB1 hbc hbf nf hP hB3 ha
      go_wp2
      refine bodyPost_ret (v := .tuple #[.agg #[.slice B p.store.cells.length d, .slice B' p.store.roots.length d', .slice B2 p.colours.length d2, .bool p.active], .int .i64 0]) (by rw [HA.out]; simp [results, Try.results34, go_sem, n0, n1, n2, n3]) rfl ⟨_, by unfold paintFinishM; rw [HV.out, if_pos rfl, HE.out], ?_, (((hw4.setCell (by simp) _).setCell (by simp) _).setCell (by simp) _).setCell (by simp) _⟩
      unfold paintFinishM
      rw [HV.out, if_pos rfl, HE.out]
      exact (((((HP.out.opt).setlt (by simp; omega) _).setlt (by simp; omega) _).setlt (by simp; omega) _).setlt (by simp; omega) _).lo_ (by omega)
    · have HA := Lib.hid ha
      rw [ha] at hB3 k3c
      have HPP := Lib.hid hP
      rw [ha] at hP
      have q0 := hP.q0
      clear hP ha
      go_wp2
      go_loopg [5] (muP p.colours + 1) (fun k s5 wr => ∃ (q : PaintM) (mo : Bool) (D : Option Addr) (e : Nat) (D' : Option Addr) (e' : Nat) (os2 : List OCell) (D2 : Option Addr) (e2 : Nat), s5 = .bool mo ∧ PPx w1.heap.size wr w2.heap.size q D e D' e' os2 D2 e2 ∧ Hid (paintM q = true) ∧ Hid (endP q = endP p) ∧ Hid (q.active = true) ∧ Hid (mo = false → (stepP q).2 = false) ∧ k = (if mo then muP q.colours + 1 else 0) ∧ Below w1.heap.size w1 wr)
      case atStart => exact ⟨p, true, B, d, B', d', os, B2, d2, rfl, by have h9 := HPP.out; rw [HA.out] at h9; exact h9, HV.out, rfl, HA.out, (fun h => by cases h), rfl, hB3⟩
      case round =>
        obtain ⟨q, mo, D, e, D', e', os2, D2, e2, rfl, hQ, HQV, HQE, HQA, HMO, hk, hBr⟩ := hrel
        have HQ := Lib.hid hQ
        have q0 := hQ.q0
        have q1 := hQ.q1
        have q2 := hQ.q2
        have q3 := hQ.q3
        have hqz := hQ.lt
        have hrd := hQ.opt.rp
        rw [HQA.out] at hrd q3
        have HRD := Lib.hid hrd
        clear hQ hrd hB3
        rcases bool_ft mo with rfl | rfl
        · obtain ⟨wo, rfl⟩ : ∃ wo, wo = wr := ⟨_, rfl⟩
          have HS := Lib.hid (HMO.out rfl)
          have HF := Lib.hid (finishP_act HA.out HQE.out HS.out)
          obtain ⟨b1, b2, b3, b4⟩ := endP_bounds HQV.out
          have HB1' := Lib.hid b1
          clear hk b1 b3 b4
          go_wp2
          go_loopw [8, 9, 10] (fun s8 s9 s10 wr => ∃ (j fr : Nat) (S : Option Addr) (cS : Nat) (ds : List Bool), j ≤ q.colours.length ∧ s10 = .int .i64 j ∧ s9 = .int .i64 fr ∧ s8 = .slice S ds.length cS ∧ Hid (ds = (whites q.colours).take j) ∧ Hid (fr = freedN (q.store.cells.take j) ((whites q.colours).take j)) ∧ OF 4 fb wr S cS ds ∧ (∀ b ∈ blk S, wo.heap.size ≤ b) ∧ Below wo.heap.size wo wr) (fun _ _ i _ => q.colours.length - (intOf i).toNat)
          case atStart => exact ⟨0, 0, some ⟨wo.heap.size, 0, none⟩, 0, [], by omega, rfl, rfl, rfl, rfl, rfl, OF.fresh0 (heap_alloc_at _ _ _ rfl), fun b hb => by rw [mem_blk_some hb]; exact Nat.le_refl _, blw_⟩
          case round =>
            obtain ⟨j, fr, S, cS, ds, hj, rfl, rfl, rfl, HDS, HFR, hO, hSl, hBl⟩ := hrel
            have hQl := HQ.out.below hBl
            have hBls := hBl.size
            have r0 := hQl.q0
            have r1 := hQl.q1
            have r2 := hQl.q2
            have hml : os2.length = q.store.cells.length := by have := congrArg List.length hQl.map; simpa using this
            have hdl : ds.length = j := by rw [HDS.out, List.length_take]; simp [whites]; omega
            have HDL := Lib.hid hdl
            have hfle : fr ≤ 40 := by have h9 := freedN_le (q.store.cells.take j) ((whites q.colours).take j); rw [← HFR.out, List.length_take] at h9; omega
            by_cases hlt : j < q.colours.length
            · obtain ⟨b, o, x, hD2, gx, c1, hb⟩ := hQl.cs.rf.at_ hlt
              have hjo : j < os2.length := by rw [hml, ← HB1'.out]; exact hlt
              have ho := List.getElem?_eq_getElem (l := os2) (i := j) hjo
              obtain ⟨gc, hD, d0, d1, d2', hgc⟩ := hQl.own.cells.at_ ho
              have hcell : q.store.cells[j]? = some os2[j].c := by rw [← hQl.map, List.getElem?_map, ho]; rfl
              have HSN := Lib.hid (freedN_snoc hcell (whites_at gx))
              have HWN := Lib.hid (take_snoc_of (whites_at gx))
              have hjc : j < q.store.cells.length := by rw [← HB1'.out]; exact hlt
              obtain ⟨u, hu⟩ : ∃ u, u = os2[j].c.used := ⟨_, rfl⟩
              rw [← hu] at d0 HSN
              subst hD2; subst hD
              have c1' : wr.cell? ⟨b, o + j, none⟩ = some (.int .i64 x) := c1
              have hRX : Hid (∀ W, Below wo.heap.size wo W → PPx w1.heap.size W w2.heap.size q (some ⟨gc, 0, none⟩) e D' e' os2 (some ⟨b, o, none⟩) e2) := fun W hW => HQ.out.below hW
              have hds40 : ds.length ≤ 40 := by omega
              have X2 := Lib.hid (show wo.cell? ⟨w2.heap.size, 2, none⟩ = some (.slice (some ⟨b, o, none⟩) q.colours.length e2) from HQ.out.q2)
              have X0 := Lib.hid (show wo.cell? ⟨w2.heap.size, 0, none⟩ = some (.slice (some ⟨gc, 0, none⟩) q.store.cells.length e) from HQ.out.q0)
              have XC := Lib.hid (show wo.cell? ⟨b, o + j, none⟩ = some (.int .i64 x) from by
                obtain ⟨b9, o9, x9, e9, g9, c9, -⟩ := HQ.out.cs.rf.at_ hlt
                injection e9 with e9; injection e9 with e91 e92; subst e91; subst e92
                rw [gx] at g9; injection g9 with g9; subst g9; exact c9)
              have XU := Lib.hid (show wo.cell? ⟨gc, j * 3, none⟩ = some (.bool u) from by
                obtain ⟨g9, e9, c9, -⟩ := HQ.out.own.cells.at_ ho
                injection e9 with e9; injection e9 with e91 e92; subst e91
                rw [hu]; exact c9)
              have HO := Lib.hid hO
              have HSL := Lib.hid hSl
              clear hdl hml hQl ho hcell hu gx c1 d1 d2' hO hSl
              have hW2 : Hid (∀ W, Below wo.heap.size wo W → W.cell? ⟨w2.heap.size, 2, none⟩ = some (.slice (some ⟨b, o, none⟩) q.colours.length e2) ∧ W.cell? ⟨w2.heap.size, 0, none⟩ = some (.slice (some ⟨gc, 0, none⟩) q.store.cells.length e) ∧ W.cell? ⟨b, o + j, none⟩ = some (.int .i64 x) ∧ W.cell? ⟨gc, j * 3, none⟩ = some (.bool u)) := fun W hW =>
                ⟨cell_below X2.out hW, cell_below X0.out hW, cell_below XC.out hW, cell_below XU.out hW⟩
              rcases Classical.em (x = 0) with hx | hx
              · subst hx
                rcases bool_ft u with rfl | rfl
                · go_wp2_with (at_builtin; refine wpList_appb rfl (.tmp 37) (.tmp 44) rfl ds rfl rfl (HO.out.below blw_) (RF.one (x := true) (by simp [go_sem, fb])) (by simp; omega) ?_; intro S' c' w' hO' hOn' hg'; have hB' : Below wo.heap.size wo w' := Below.trans blw_ (hOn'.below (by have := hBl.size; simp; omega) HSL.out); have HSL' : ∀ b' ∈ blk S', wo.heap.size ≤ b' := (fun b' hb' => by have h8 := hBl.size; rcases hg' b' hb' with h9 | h9; exact HSL.out b' h9; simp at h9; omega); obtain ⟨y2, y0, yc, yu⟩ := hW2.out w' hB'); go_roundw
                  case rel => exact ⟨j + 1, fr, S', c', ds ++ [true], by omega, by go_num, rfl, by simp, by unfold Hid; rw [HWN.out, ← HDS.out]; rfl, by unfold Hid; rw [HSN.out, ← HFR.out]; simp, hO', HSL', hB'⟩
                  case measure => simp [intOf]; omega
                · go_wp2_with (at_builtin; refine wpList_appb rfl (.tmp 37) (.tmp 44) rfl ds rfl rfl (HO.out.below blw_) (RF.one (x := true) (by simp [go_sem, fb])) (by simp; omega) ?_; intro S' c' w' hO' hOn' hg'; have hB' : Below wo.heap.size wo w' := Below.trans blw_ (hOn'.below (by have := hBl.size; simp; omega) HSL.out); have HSL' : ∀ b' ∈ blk S', wo.heap.size ≤ b' := (fun b' hb' => by have h8 := hBl.size; rcases hg' b' hb' with h9 | h9; exact HSL.out b' h9; simp at h9; omega); obtain ⟨y2, y0, yc, yu⟩ := hW2.out w' hB'); go_roundw
                  case rel => exact ⟨j + 1, fr + 1, S', c', ds ++ [true], by omega, by go_num, by go_num, by simp, by unfold Hid; rw [HWN.out, ← HDS.out]; rfl, by unfold Hid; rw [HSN.out, ← HFR.out]; simp, hO', HSL', hB'⟩
                  case measure => simp [intOf]; omega
              · have hx' : (x == 0) = false := by simpa using hx
                go_wp2_with (at_builtin; refine wpList_appb rfl (.tmp 37) (.tmp 44) rfl ds rfl rfl (HO.out.below blw_) (RF.one (x := false) (by simp [go_sem, fb])) (by simp; omega) ?_; intro S' c' w' hO' hOn' hg'; have hB' : Below wo.heap.size wo w' := Below.trans blw_ (hOn'.below (by have := hBl.size; simp; omega) HSL.out); have HSL' : ∀ b' ∈ blk S', wo.heap.size ≤ b' := (fun b' hb' => by have h8 := hBl.size; rcases hg' b' hb' with h9 | h9; exact HSL.out b' h9; simp at h9; omega); obtain ⟨y2, y0, yc, yu⟩ := hW2.out w' hB'); go_roundw
                case rel => exact ⟨j + 1, fr, S', c', ds ++ [false], by omega, by go_num, rfl, by simp, by unfold Hid; rw [HWN.out, ← HDS.out, hx'], by unfold Hid; rw [HSN.out, ← HFR.out, hx']; simp, hO', HSL', hB'⟩
                case measure => simp [intOf]; omega
            · have hke : j = q.colours.length := by omega
              have hwl : (whites q.colours).length = q.colours.length := by simp [whites]
              have hdw : ds = whites q.colours := by rw [HDS.out, hke, ← hwl, List.take_length]
              have hcw : q.store.cells.take q.colours.length = q.store.cells := by rw [HB1'.out, List.take_length]
              have hww : (whites q.colours).take q.colours.length = whites q.colours := by rw [← hwl, List.take_length]
              have hfw : fr = freedN q.store.cells (whites q.colours) := by rw [HFR.out, hke, hcw, hww]
              have hdq : ds.length = q.colours.length := by rw [hdw, hwl]
              have HF2 : Hid (paintFinishM p = ((⟨dropM q.store ds, List.replicate ds.length 0, false⟩ : PaintM), (fr : Int))) := by unfold Hid paintFinishM; rw [HV.out, if_pos rfl, HF.out, hdq, hdw, hfw]
              have HDL2 : Hid (ds.length = q.store.cells.length) := hdq.trans HB1'.out
              have hrhs := hQl.own.rhs hQl.map
              have hmk := mk_ints ds.length (by omega)
              obtain ⟨u1, u2, u3, u4, u5, u6⟩ := paint_small HQV.out
              have HU3 := Lib.hid u3
              have hB4 : Below w1.heap.size w1 wr := hBr.trans (hBl.mono hBr.size)
              have hwr : Below w.heap.size w wr := HB1.trans (hB4.mono hz1)
              have h1r := hB4.size
              have n0 := cell_below (MC.out 0 (by omega)) hB4
              have n1 := cell_below (MC.out 1 (by omega)) hB4
              have n2 := cell_below (MC.out 2 (by omega)) hB4
              have n3 := cell_below m3 hB4
              have NF : Hid (∀ o, wr.frozen? ⟨w.heap.size + 1, o, none⟩ = false) := fun o => ((bcell hB4).2.1 _ _ (by omega)).trans (MF.out o)
              have N0 := Lib.hid n0
              have N1 := Lib.hid n1
              have N2 := Lib.hid n2
              have N3 := Lib.hid n3
              have hSS : ∀ W, Below wr.heap.size wr W → W.cell? ⟨w2.heap.size, 0, none⟩ = some (.slice D q.store.cells.length e) ∧ W.cell? ⟨w2.heap.size, 1, none⟩ = some (.slice D' q.store.roots.length e') := fun W hW => ⟨cell_below r0 hW, cell_below r1 hW⟩
              have hds40 : ds.length ≤ 40 := by omega
              have hne : w2.heap.size ≠ w.heap.size + 1 := by omega
              have hne2 : w.heap.size + 1 ≠ w2.heap.size := by omega
              have hOR := hO.rf
              clear hke hwl hdw hcw hww hfw hdq hdl hml hB1 hbc hbf k3 k3c n0 n1 n2 n3 m3 u3 u6 hO
              go_wp2_with fail
              go_region_held3 (fun w' => w'.cell? ⟨w2.heap.size, 0, none⟩ = some (.slice D q.store.cells.length e) ∧ w'.cell? ⟨w2.heap.size, 1, none⟩ = some (.slice D' q.store.roots.length e'))
                (first | (with_reducible exact ⟨s0, s1⟩) | (simp [go_sem, s0, s1, hne, hne2]; done) | (simp [go_sem, s0, s1, hne, hne2, hx26]; done) | exact hSS _ blw_)
                (first
                  | (go_at_call 87; (with_reducible refine (l11Drop_any _ q.store S ds cS _ ((hrhs.below blw_).rh _ _) (hOR.below blw_) HDL2.out (by omega) (fun d hd => Nat.le_trans (HU3.out d hd) (by omega)) (by omega)).mono ?_); rintro e6 w6 ⟨v6, rfl, ⟨F, f, F', f', os6, rfl, hm6, hO6, hlo6⟩, hB6⟩; (have z_hB6 := Below.size hB6); (try simp only [World.size_alloc, World.size_setCell, World.size_drew, World.heap_drewN] at z_hB6); have hBx : Below wr.heap.size wr w6 := blw_; obtain ⟨s0, s1⟩ := hSS _ hBx; have y0 := cell_below N0.out hBx; have y1 := cell_below N1.out hBx; have y2 := cell_below N2.out hBx; have y3 := cell_below N3.out hBx; have HNF : Hid (∀ o, w6.frozen? ⟨w.heap.size + 1, o, none⟩ = false) := (fun o => ((bcell hBx).2.1 _ _ (by omega)).trans (NF.out o)); have yf0 := HNF.out 0; have yf1 := HNF.out 1; have yf2 := HNF.out 2; have yf3 := HNF.out 3; have h6r : wr.heap.size ≤ w6.heap.size := hBx.size; have HM6 := Lib.hid hm6; have HO6 := Lib.hid hO6; have HLO6 := Lib.hid hlo6; clear hm6 hO6 hlo6; have hx6 : w.heap.size + 1 < w6.heap.size := (by omega); have hx26 : w2.heap.size < w6.heap.size := (by omega)))
              all_goals
                go_wp2_with fail
                have hlo6 := HLO6.out
                have hlt6 := HO6.out.lt
                try simp only [World.size_alloc, World.size_setCell, World.size_drew, World.heap_drewN, heap_drew_] at hlo6
                have hrl : (dropM q.store ds).roots.length = q.store.roots.length := rfl
                have hbb : w.heap.size + 1 < wr.heap.size := by omega
                have hWW : Below w.heap.size w w6 := hwr.trans (hBx.mono hwr.size)
              · refine bodyPost_ret (v := .tuple #[.agg #[.slice F (dropM q.store ds).cells.length f, .slice F' (dropM q.store ds).roots.length f', .slice (some ⟨w6.heap.size, 0, none⟩) ds.length ds.length, .bool false], .int .i64 fr]) (by simp [results, Try.results34, go_sem, y0, y1, y2, y3, hx6]) rfl ⟨_, by rw [HF2.out], ?_, ((((hWW.setCell (by simp) _).setCell (by simp) _).setCell (by simp) _).setCell (by simp) _).alloc (by have := hWW.size; simp; omega) _⟩
                rw [HF2.out]
                refine ⟨F, f, F', f', os6, some ⟨w6.heap.size, 0, none⟩, ds.length, by simp only [List.length_replicate], HM6.out, HO6.out.keep fun b hb => ?_, OF.of_blkn (by simp) (heap_alloc_at _ _ _ (by simp)) (by simp only [maxLen, List.length_replicate]; omega), List.nodup_append.2 ⟨HO6.out.nodup, blk_nodup _, fun b hb b2 hb2 e => ?_⟩, fun b hb => ?_, by simp only [List.length_replicate]; omega⟩
                · have h1 := hlo6 b hb
                  have h2 := hlt6 b hb
                  have h3 : b ≠ w.heap.size + 1 := by omega
                  rw [Below.heap_alloc _ _ _ (by simpa using h2), heap_setCell_ne _ _ _ h3, heap_setCell_ne _ _ _ h3, heap_setCell_ne _ _ _ h3, heap_setCell_ne _ _ _ h3]
                · subst e
                  have h2 := hlt6 b hb
                  have h3 := mem_blk_some hb2
                  omega
                · rcases List.mem_append.1 hb with hb | hb
                  · have h1 := hlo6 b hb; omega
                  · have h3 := mem_blk_some hb; omega
              · refine bodyPost_ret (v := .tuple #[.agg #[.slice F (dropM q.store ds).cells.length f, .slice F' (dropM q.store ds).roots.length f', .slice (some ⟨wr.heap.size, 0, none⟩) ds.length ds.length, .bool false], .int .i64 fr]) (by simp [results, Try.results34, go_sem, y0, y1, y2, y3, hx6]) rfl ⟨_, by rw [HF2.out], ?_, (((hWW.setCell (by simp) _).setCell (by simp) _).setCell (by simp) _).setCell (by simp) _⟩
                rw [HF2.out]
                have hmkb : w6.heap[wr.heap.size]? = some (.cells (rowF fi (List.replicate ds.length 0)) 3 (0, 0)) := by
                  rw [Below.block hB6 _ (by simp)]
                  exact heap_alloc_at _ _ _ rfl
                have hopt : OPt wr.heap.size w6 (.agg #[.slice F (dropM q.store ds).cells.length f, .slice F' (dropM q.store ds).roots.length f', .slice (some ⟨wr.heap.size, 0, none⟩) ds.length ds.length, .bool false]) ⟨dropM q.store ds, List.replicate ds.length 0, false⟩ := by
                  refine ⟨F, f, F', f', os6, some ⟨wr.heap.size, 0, none⟩, ds.length, by simp only [List.length_replicate], HM6.out, HO6.out, OF.of_blkn (by simp) hmkb (by simp only [maxLen, List.length_replicate]; omega), List.nodup_append.2 ⟨HO6.out.nodup, blk_nodup _, fun b hb b2 hb2 e => ?_⟩, fun b hb => ?_, by simp only [List.length_replicate]; omega⟩
                  · subst e
                    have h2 := hlo6 b hb
                    have h3 := mem_blk_some hb2
                    omega
                  · rcases List.mem_append.1 hb with hb | hb
                    · have h1 := hlo6 b hb; omega
                    · have h3 := mem_blk_some hb; omega
                exact ((((hopt.setlt (by simp; omega) _).setlt (by simp; omega) _).setlt (by simp; omega) _).setlt (by simp; omega) _).lo_ (by omega)
        · subst hk
          have hM : paintStepM q = stepP q := by unfold paintStepM; rw [HQV.out, if_pos rfl]
          have hspec := specPaintStep_any _ q _ HRD.out
          rw [hM] at hspec
          have qf := HQ.out.qf
          clear hM
          go_wp2_with fail
          refine hspec.mono ?_
          rintro e5 w5 ⟨v5, rfl, ho5, hB5⟩
          obtain ⟨E, f, E', f', os5, E2, f2, rfl, hm5, hO5, hC5, hnd5, hlo5, hcl5⟩ := ho5
          have hz5 := hB5.size
          have hx5 : w2.heap.size < w5.heap.size := by omega
          have x0 := cell_below q0 hB5
          have x1 := cell_below q1 hB5
          have x2 := cell_below q2 hB5
          have x3 := cell_below q3 hB5
          have xf : ∀ o, w5.frozen? ⟨w2.heap.size, o, none⟩ = false := fun o => ((bcell hB5).2.1 _ _ hqz).trans (qf o)
          have xf0 := xf 0
          have xf1 := xf 1
          have xf2 := xf 2
          have xf3 := xf 3
          have HM5 := Lib.hid hm5
          have HND5 := Lib.hid hnd5
          have HLO5 := Lib.hid hlo5
          have hw5 : Below w1.heap.size w1 w5 := hBr.trans (hB5.mono hBr.size)
          clear hspec hm5 hnd5 hlo5 xf qf q0 q1 q2 q3
          go_wp2
          go_roundg (if (stepP q).2 then muP (stepP q).1.colours + 1 else 0)
          case measure =>
            split
            · have := stepP_mu ‹_›; omega
            · omega
          case rel =>
            refine ⟨(stepP q).1, (stepP q).2, E, f, E', f', os5, E2, f2, rfl, ?_, paintM_step HQV.out, (endP_next q).trans HQE.out, by unfold Hid; rw [stepP_act, HQA.out], fun h => by rw [stepP_same h]; exact h, rfl, ?_⟩
            · exact ((HQ.out.below hB5).over HM5.out hO5 hC5 HND5.out HLO5.out hcl5 (by have := hBr.size; omega) hqz).below blw_
            · exact ((((hw5.setCell hz2 _).setCell hz2 _).setCell hz2 _).setCell hz2 _).alloc (by have := hw5.size; simp; omega) _
end Go.Proofs.Ytopbngfghpgbnaa
