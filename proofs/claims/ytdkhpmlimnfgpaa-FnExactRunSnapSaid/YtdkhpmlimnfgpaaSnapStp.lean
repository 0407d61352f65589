/- SnapStep: the program's step and SnapStep, and the reference's SnapStep, do what stepS and snapStepM say. -/
import Derived.Test.YtdkhpmlimnfgpaaChecked
import Derived.Deep.DeepCutAuto
import Derived.Test.YtdkhpmlimnfgpaaTw
import Derived.Test.YtdkhpmlimnfgpaaSnapV
import Derived.Test.YtdkhpmlimnfgpaaCopyT
import Derived.Test.YtdkhpmlimnfgpaaGrSz
namespace Go.Proofs.Ytdkhpmlimnfgpaa
open Go.RowKit
set_option maxRecDepth 100000
set_option linter.unusedSimpArgs false
set_option linter.unusedVariables false
set_option maxHeartbeats 4000000 in
theorem rstep_any (lo g : Nat) (p : TwoM) (A A' A2 A3 : Option Addr) (c c' c2 c3 : Nat) (os : List OCell) (w : World) (h : PTx lo w g p A c A' c' os A2 c2 A3 c3) (hl : p.x.length = p.store.cells.length) (hl2 : p.y.length = p.store.cells.length) (hl40 : p.store.cells.length ≤ 40)
    (hlt : ∀ d ∈ p.store.cells, ∀ r ∈ d.refs, r < p.store.cells.length) :
    Calls Try.prog 123 #[.pointer (some ⟨g, 0, none⟩)] w fun e w' => e = .returned (.bool (stepS p).2) ∧ PTx lo w' g (stepS p).1 A c A' c' os A2 c2 A3 c3 ∧ Only (blk A2 ++ blk A3) w w' := by
  have q0 := h.q0
  have q3 := h.q3
  have hys := h.ys
  have H := Lib.hid h
  have HL := Lib.hid hl
  have HL2 := Lib.hid hl2
  have HLT := Lib.hid hlt
  have hrf := hys.rf
  have hyl : p.y.length ≤ 40 := by omega
  clear h hlt hl hl2
  go_enter Try.func123, Try.ntmps123
  go_wp2
  go_loop [11] (fun i => ∃ k : Nat, k ≤ p.y.length ∧ i = .int .i64 k ∧ Hid (noneB id p.y k)) (fun i => p.y.length - (intOf i).toNat)
  case atStart => exact ⟨0, by omega, rfl, noneB_zero _ _⟩
  case round =>
    obtain ⟨k, hk, rfl, HNB⟩ := hrel
    by_cases hlt : k < p.y.length
    · have hkc : k < os.length := by have := HL2.out; have := congrArg List.length H.out.map; simp at this; omega
      obtain ⟨b, o, x, hA3, gx, c1, hb⟩ := hrf.at_ hlt
      have c1' : w.cell? ⟨b, o + k, none⟩ = some (.bool x) := c1
      have hx : x = true ∨ x = false := by cases x <;> simp
      rcases hx with hx | hx
      · subst hx
        obtain ⟨gc, hA, d0, d1, d2, hgc⟩ := H.out.own.cells.at_ (List.getElem?_eq_getElem hkc)
        have hcell : p.store.cells[k]? = some os[k].c := by rw [← H.out.map, List.getElem?_map, List.getElem?_eq_getElem hkc]; rfl
        have HS := Lib.hid (stepS_some HNB.out gx hcell)
        have hmem : os[k] ∈ os := List.getElem_mem hkc
        obtain ⟨hro, hrl⟩ := H.out.own.cells.2 _ hmem
        have hltr := HLT.out _ (List.mem_of_getElem? hcell)
        have hdj : ∀ b' ∈ blk os[k].A, b' ∉ blk A2 ++ blk A3 := fun b' hb' => H.out.d1 b' (List.mem_append.2 (.inl (List.mem_append.2 (.inr (mem_blks hmem hb')))))
        have HR : Hid (∀ W, Only (blk A2 ++ blk A3) w W → RF fi W os[k].A os[k].c.refs) := fun W hW => (hro.only hW hdj).rf
        have HLTR := Lib.hid hltr
        have hg2 := H.out.g2
        have hg3 := H.out.g3
        have hg4 := H.out.g4
        have hd2 := H.out.d2
        have hgcd : gc ∉ blk A3 := fun hc => H.out.d1 gc (List.mem_append.2 (.inl (List.mem_append.2 (.inl (by rw [hA]; simp [blk]))))) (List.mem_append.2 (.inr hc))
        have hkc2 : k < p.store.cells.length := by have := HL2.out; omega
        obtain ⟨q2', hq2', hq2s⟩ := hys.some_ hlt
        rw [hA3] at hq2'
        injection hq2' with hq2'
        injection hq2' with hb' ho'
        subst hb'; subst ho'
        subst hA3; subst hA
        have c3' : w.cell? ⟨b, k, none⟩ = some (.bool true) := hys.cell gx
        have f3 := hys.frozen k
        have hgb : g ≠ b := fun e => hg3 (by rw [e]; simp [blk])
        have hgb2 : b ≠ g := fun e => hgb e.symm
        have hgcb : gc ≠ b := fun e => hgcd (by rw [e]; simp [blk])
        have hgcb2 : b ≠ gc := fun e => hgcb e.symm
        have q2 := H.out.q2
        have hOn0 : Only (blk A2 ++ blk (some ⟨b, 0, none⟩)) w (w.setCell ⟨b, k, none⟩ (.bool false)) := (Only.refl _ _).setCell (.inl (by simp [blk])) _
        have hx1 : OF 4 fb (w.setCell ⟨b, k, none⟩ (.bool false)) A2 c2 p.x := H.out.xs.ne_ (fun hc => hd2 b (by simp [blk]) hc)
        have hy1 : OF 4 fb (w.setCell ⟨b, k, none⟩ (.bool false)) (some ⟨b, 0, none⟩) c3 (p.y.set k false) := hys.set_ k false
        have q2s := hOn0.cell q2 hg4
        have q3s := hOn0.cell q3 hg4
        have hyl3 : (p.y.set k false).length = p.y.length := List.length_set
        have hyl4 : (p.y.set k false).length = p.x.length := by rw [hyl3, HL2.out, HL.out]
        have HR1 : Hid (∀ W, Only (blk A2 ++ blk (some ⟨b, 0, none⟩)) (w.setCell ⟨b, k, none⟩ (.bool false)) W → RF fi W os[k].A os[k].c.refs) := fun W hW => HR.out W (hOn0.trans hW)
        have hltx : ∀ r ∈ os[k].c.refs, r < p.x.length := by rw [HL.out]; exact HLTR.out
        have HLX := Lib.hid hltx
        have HYL := Lib.hid hyl4
        have HYL3 := Lib.hid hyl3
        rw [← hyl3] at q3s
        have hxl40 : p.x.length ≤ 9223372036854775807 := by have := HL.out; omega
        generalize os[k] = oo at *
        clear gx c1 hdj hmem hltr hcell hro hyl4 hyl3 hltx
        go_wp2_with fail
        refine (meet_any g A2 (some ⟨b, 0, none⟩) oo.A c2 c3 oo.cap p.x (p.y.set k false) oo.c.refs _ q2s q3s hx1 hy1 HYL.out hg2 hg3 hd2 HR1.out hrl HLX.out hxl40).mono ?_
        rintro e w1 ⟨rfl, hX, hY, hOn⟩
        go_wp2
        go_ret
        rw [HS.out]
        refine ⟨rfl, H.out.lists hX hY (meetL_len _ _).1 ((meetL_len _ _).2.trans HYL3.out) (hOn0.trans hOn), hOn0.trans hOn⟩
      · subst hx
        have HN2 : Hid (noneB id p.y (k + 1)) := noneB_succ HNB.out gx rfl
        rw [hA3] at q3
        clear gx c1
        go_wp2
        go_round
        case rel => exact ⟨k + 1, by omega, by go_num, HN2⟩
        case measure => simp [intOf]; omega
    · have hke : k = p.y.length := by omega
      have HNB2 := HNB.out
      rw [hke] at HNB2
      have HN := Lib.hid (stepS_none HNB2)
      clear hke HNB2
      go_wp2
      go_ret
      exact ⟨ret_bool (by rw [HN.out]), by rw [HN.out]; exact H.out, Only.refl _ _⟩
set_option maxHeartbeats 4000000 in
theorem implSnapStep_any (v : Value) (p : TwoM) (w : World) (hv : RTw w v p) :
    Calls Try.prog 62 #[v] w fun e w' => ∃ v', e = .returned (.tuple #[v', .bool (snapStepM p).2]) ∧ OTw w.heap.size w' v' (snapStepM p).1 ∧ Below w.heap.size w w' := by
  have hv0 := hv
  obtain ⟨A, c, A', c', A2, c2, A3, c3, rfl, -, -, -, -, -⟩ := hv
  cases hva : snapM p
  · have HV := Lib.hid hva
    go_enter Try.func62, Try.ntmps62
    go_wp2_with (go_at_call 122; refine (implSnapValid_any _ p _ (hv0.below (by repeat (first | ((with_reducible refine Below.setc ?_ ?_ _); focus (first | omega | (simp; done) | (simp; omega))) | ((with_reducible refine Below.allocc ?_ ?_ _); focus (first | omega | (simp; done) | (simp; omega))) | (with_reducible refine Below.drew ?_) | (with_reducible refine Below.drewn ?_) | (with_reducible assumption) | (with_reducible exact Below.refl _ _) | ((with_reducible refine Below.stepp (by with_reducible assumption) ?_ ?_); focus (first | omega | (simp; done) | (simp; omega))))))).mono ?_; rw [HV.out]; rintro e w1 ⟨rfl, hB1⟩; obtain ⟨hbc, hbf, hbz⟩ := bcell hB1; have z0w1 : w.heap.size < w1.heap.size := (by (try simp at hbz); omega); have z1w1 : w.heap.size + 1 < w1.heap.size := (by (try simp at hbz); omega))
    refine bodyPost_ret (v := .tuple #[.agg #[.slice none 0 0, .slice none 0 0, .slice none 0 0, .slice none 0 0], .bool false]) (by simp [results, Try.results62, go_sem, hbc]) rfl ⟨_, by unfold snapStepM; rw [HV.out]; rfl, ?_, (by repeat (first | ((with_reducible refine Below.setc ?_ ?_ _); focus (first | omega | (simp; done) | (simp; omega))) | ((with_reducible refine Below.allocc ?_ ?_ _); focus (first | omega | (simp; done) | (simp; omega))) | (with_reducible refine Below.drew ?_) | (with_reducible refine Below.drewn ?_) | (with_reducible assumption) | (with_reducible exact Below.refl _ _) | ((with_reducible refine Below.stepp (by with_reducible assumption) ?_ ?_); focus (first | omega | (simp; done) | (simp; omega)))))⟩
    unfold snapStepM
    rw [HV.out]
    exact OTw.zero
  · obtain ⟨v1, v2, v3, v4, v5, v6, v7⟩ := snap_small hva
    have HV := Lib.hid hva
    have HV3 := Lib.hid v3
    have HV7 := Lib.hid v7
    have HV4 := Lib.hid v4
    have HV5 := Lib.hid v5
    have x40 : p.x.length ≤ 40 := by omega
    have y40 : p.y.length ≤ 40 := by omega
    clear hva v3 v4 v5 v6 v7
    go_enter Try.func62, Try.ntmps62
    go_wp2_with (go_at_call 122; refine (implSnapValid_any _ p _ (hv0.below (by repeat (first | ((with_reducible refine Below.setc ?_ ?_ _); focus (first | omega | (simp; done) | (simp; omega))) | ((with_reducible refine Below.allocc ?_ ?_ _); focus (first | omega | (simp; done) | (simp; omega))) | (with_reducible refine Below.drew ?_) | (with_reducible refine Below.drewn ?_) | (with_reducible assumption) | (with_reducible exact Below.refl _ _) | ((with_reducible refine Below.stepp (by with_reducible assumption) ?_ ?_); focus (first | omega | (simp; done) | (simp; omega))))))).mono ?_; rw [HV.out]; rintro e w1 ⟨rfl, hB1⟩; obtain ⟨hbc, hbf, hbz⟩ := bcell hB1; have z0w1 : w.heap.size < w1.heap.size := (by (try simp at hbz); omega); have z1w1 : w.heap.size + 1 < w1.heap.size := (by (try simp at hbz); omega); have HB1 : Below w.heap.size w w1 := (by repeat (first | ((with_reducible refine Below.setc ?_ ?_ _); focus (first | omega | (simp; done) | (simp; omega))) | ((with_reducible refine Below.allocc ?_ ?_ _); focus (first | omega | (simp; done) | (simp; omega))) | (with_reducible refine Below.drew ?_) | (with_reducible refine Below.drewn ?_) | (with_reducible assumption) | (with_reducible exact Below.refl _ _) | ((with_reducible refine Below.stepp (by with_reducible assumption) ?_ ?_); focus (first | omega | (simp; done) | (simp; omega))))); have MC : Hid (∀ o, o < 4 → w1.cell? ⟨w.heap.size + 1, o, none⟩ = some (.slice none 0 0)) := (fun o ho => by rw [hbc _ _ (by first | omega | (simp; done) | (simp; omega))]; rcases (by omega : o = 0 ∨ o = 1 ∨ o = 2 ∨ o = 3) with rfl | rfl | rfl | rfl <;> simp [go_sem]); have MF : Hid (∀ o, w1.frozen? ⟨w.heap.size + 1, o, none⟩ = false) := (fun o => by rw [hbf _ _ (by first | omega | (simp; done) | (simp; omega))]; simp [go_sem]))
    refine (recording_any _ p _ (hv0.below HB1) (by omega) (fun d hd => Nat.le_trans (HV3.out d hd) (by omega)) (by omega) (by omega) (by omega)).mono ?_
    rintro e w2 ⟨g, rfl, hP, hB2⟩
    obtain ⟨B, d, B', d', os, S2, d2, S3, d3, hP⟩ := hP
    have hz1 := HB1.size
    have hz2 := hB2.size
    have hgl := hP.lo_
    go_wp2_with fail
    refine (rstep_any w1.heap.size g p B B' S2 S3 d d' d2 d3 os _ hP HV4.out HV5.out v1 HV7.out).mono ?_
    rintro e w4 ⟨rfl, hP4, hOn⟩
    have hB4 : Below w1.heap.size w1 w4 := hB2.trans (hOn.below (by first | omega | (simp; done) | (simp; omega)) hP.los4)
    have n0 := cell_below (MC.out 0 (by omega)) hB4
    have n1 := cell_below (MC.out 1 (by omega)) hB4
    have n2 := cell_below (MC.out 2 (by omega)) hB4
    have n3 := cell_below (MC.out 3 (by omega)) hB4
    have nf : ∀ o, w4.frozen? ⟨w.heap.size + 1, o, none⟩ = false := fun o => ((bcell hB4).2.1 _ _ (by omega)).trans (MF.out o)
    have nf0 := nf 0
    have nf1 := nf 1
    have nf2 := nf 2
    have nf3 := nf 3
    have hw4 : Below w.heap.size w w4 := HB1.trans (hB4.mono hz1)
    have q0 := hP4.q0
    have q1 := hP4.q1
    have q2 := hP4.q2
    have q3 := hP4.q3
    have HP4 := Lib.hid hP4
    clear hB1 hbc hbf nf hP hP4 hB2 hOn
    go_wp2
    refine bodyPost_ret (v := .tuple #[.agg #[.slice B (stepS p).1.store.cells.length d, .slice B' (stepS p).1.store.roots.length d', .slice S2 (stepS p).1.x.length d2, .slice S3 (stepS p).1.y.length d3], .bool (stepS p).2]) (by simp [results, Try.results62, go_sem, n0, n1, n2, n3]) rfl ⟨_, by unfold snapStepM; rw [HV.out, if_pos rfl], ?_, (((hw4.setCell (by simp) _).setCell (by simp) _).setCell (by simp) _).setCell (by simp) _⟩
    unfold snapStepM
    rw [HV.out, if_pos rfl]
    exact (((((HP4.out.opt).setlt (by simp; omega) _).setlt (by simp; omega) _).setlt (by simp; omega) _).setlt (by simp; omega) _).lo_ (by omega)
set_option maxHeartbeats 4000000 in
theorem specSnapStep_any (v : Value) (p : TwoM) (w : World) (hv : RTw w v p) :
    Calls Try.prog 60 #[v] w fun e w' => ∃ v', e = .returned (.tuple #[v', .bool (snapStepM p).2]) ∧ OTw w.heap.size w' v' (snapStepM p).1 ∧ Below w.heap.size w w' := by
  have hv0 := hv
  obtain ⟨A, c, A', c', A2, c2, A3, c3, rfl, -, -, -, -, -⟩ := hv
  cases hva : snapM p
  · have HV := Lib.hid hva
    go_enter Try.func60, Try.ntmps60
    go_wp2_with (go_at_call 119; refine (specSnapValid_any _ p _ (hv0.below (by repeat (first | ((with_reducible refine Below.setc ?_ ?_ _); focus (first | omega | (simp; done) | (simp; omega))) | ((with_reducible refine Below.allocc ?_ ?_ _); focus (first | omega | (simp; done) | (simp; omega))) | (with_reducible refine Below.drew ?_) | (with_reducible refine Below.drewn ?_) | (with_reducible assumption) | (with_reducible exact Below.refl _ _) | ((with_reducible refine Below.stepp (by with_reducible assumption) ?_ ?_); focus (first | omega | (simp; done) | (simp; omega))))))).mono ?_; rw [HV.out]; rintro e w1 ⟨rfl, hB1⟩; obtain ⟨hbc, hbf, hbz⟩ := bcell hB1; have z0w1 : w.heap.size < w1.heap.size := (by (try simp at hbz); omega); have z1w1 : w.heap.size + 1 < w1.heap.size := (by (try simp at hbz); omega))
    refine bodyPost_ret (v := .tuple #[.agg #[.slice none 0 0, .slice none 0 0, .slice none 0 0, .slice none 0 0], .bool false]) (by simp [results, Try.results60, go_sem, hbc]) rfl ⟨_, by unfold snapStepM; rw [HV.out]; rfl, ?_, (by repeat (first | ((with_reducible refine Below.setc ?_ ?_ _); focus (first | omega | (simp; done) | (simp; omega))) | ((with_reducible refine Below.allocc ?_ ?_ _); focus (first | omega | (simp; done) | (simp; omega))) | (with_reducible refine Below.drew ?_) | (with_reducible refine Below.drewn ?_) | (with_reducible assumption) | (with_reducible exact Below.refl _ _) | ((with_reducible refine Below.stepp (by with_reducible assumption) ?_ ?_); focus (first | omega | (simp; done) | (simp; omega)))))⟩
    unfold snapStepM
    rw [HV.out]
    exact OTw.zero
  · obtain ⟨v1, v2, v3, v4, v5, v6, v7⟩ := snap_small hva
    have HV := Lib.hid hva
    have HV3 := Lib.hid v3
    have HV7 := Lib.hid v7
    have HV4 := Lib.hid v4
    have HV5 := Lib.hid v5
    have x40 : p.x.length ≤ 40 := by omega
    have y40 : p.y.length ≤ 40 := by omega
    clear hva v3 v4 v5 v6 v7
    go_enter Try.func60, Try.ntmps60
    go_wp2_with (go_at_call 119; refine (specSnapValid_any _ p _ (hv0.below (by repeat (first | ((with_reducible refine Below.setc ?_ ?_ _); focus (first | omega | (simp; done) | (simp; omega))) | ((with_reducible refine Below.allocc ?_ ?_ _); focus (first | omega | (simp; done) | (simp; omega))) | (with_reducible refine Below.drew ?_) | (with_reducible refine Below.drewn ?_) | (with_reducible assumption) | (with_reducible exact Below.refl _ _) | ((with_reducible refine Below.stepp (by with_reducible assumption) ?_ ?_); focus (first | omega | (simp; done) | (simp; omega))))))).mono ?_; rw [HV.out]; rintro e w1 ⟨rfl, hB1⟩; obtain ⟨hbc, hbf, hbz⟩ := bcell hB1; have z0w1 : w.heap.size < w1.heap.size := (by (try simp at hbz); omega); have z1w1 : w.heap.size + 1 < w1.heap.size := (by (try simp at hbz); omega); have HB1 : Below w.heap.size w w1 := (by repeat (first | ((with_reducible refine Below.setc ?_ ?_ _); focus (first | omega | (simp; done) | (simp; omega))) | ((with_reducible refine Below.allocc ?_ ?_ _); focus (first | omega | (simp; done) | (simp; omega))) | (with_reducible refine Below.drew ?_) | (with_reducible refine Below.drewn ?_) | (with_reducible assumption) | (with_reducible exact Below.refl _ _) | ((with_reducible refine Below.stepp (by with_reducible assumption) ?_ ?_); focus (first | omega | (simp; done) | (simp; omega))))); have MC : Hid (∀ o, o < 4 → w1.cell? ⟨w.heap.size + 1, o, none⟩ = some (.slice none 0 0)) := (fun o ho => by rw [hbc _ _ (by first | omega | (simp; done) | (simp; omega))]; rcases (by omega : o = 0 ∨ o = 1 ∨ o = 2 ∨ o = 3) with rfl | rfl | rfl | rfl <;> simp [go_sem]); have MF : Hid (∀ o, w1.frozen? ⟨w.heap.size + 1, o, none⟩ = false) := (fun o => by rw [hbf _ _ (by first | omega | (simp; done) | (simp; omega))]; simp [go_sem]))
    refine (l19Copy_any _ p _ (hv0.below HB1) (by omega) (fun d hd => Nat.le_trans (HV3.out d hd) (by omega)) (by omega) (by omega) (by omega)).mono ?_
    rintro e w2 ⟨v2, rfl, ho, hB2⟩
    obtain ⟨B, d, B', d', os, B2, d2, B3, d3, rfl, hm, hO, hX, hY, hnd, hlo, hxl, hyl⟩ := ho
    have hz1 := HB1.size
    have hz2 := hB2.size
    have hP := PTx.mk_ hm hO hX hY hnd hlo hxl hyl hz2 32
    have hB3 : Below w1.heap.size w1 (w2.alloc (.cells #[.slice B p.store.cells.length d, .slice B' p.store.roots.length d', .slice B2 p.x.length d2, .slice B3 p.y.length d3] 32)) := (by repeat (first | ((with_reducible refine Below.setc ?_ ?_ _); focus (first | omega | (simp; done) | (simp; omega))) | ((with_reducible refine Below.allocc ?_ ?_ _); focus (first | omega | (simp; done) | (simp; omega))) | (with_reducible refine Below.drew ?_) | (with_reducible refine Below.drewn ?_) | (with_reducible assumption) | (with_reducible exact Below.refl _ _) | ((with_reducible refine Below.stepp (by with_reducible assumption) ?_ ?_); focus (first | omega | (simp; done) | (simp; omega)))))
    have q0 := hP.q0
    have q3 := hP.q3
    have hrf := hP.ys.rf
    have hpys := hP.ys
    have H := Lib.hid hP
    have hmapl : os.length = p.y.length := by have := congrArg List.length hm; have := HV5.out; simp at *; omega
    have HML := Lib.hid hmapl
    have HLO := Lib.hid hlo
    clear hP hO hX hY hnd hm hmapl hlo
    go_wp2
    go_loop [5] (fun i => ∃ k : Nat, k ≤ p.y.length ∧ i = .int .i64 k ∧ Hid (noneB id p.y k)) (fun i => p.y.length - (intOf i).toNat)
    case atStart => exact ⟨0, by omega, rfl, noneB_zero _ _⟩
    case round =>
      obtain ⟨k, hk, rfl, HNB⟩ := hrel
      by_cases hlt : k < p.y.length
      · obtain ⟨b, o, x, rfl, gx, c1, hb⟩ := hrf.at_ hlt
        obtain ⟨b', hb', hbs⟩ := hpys.some_ hlt
        injection hb' with hb'
        injection hb' with hb1 hb2
        subst hb1; subst hb2
        have c3 := hpys.cell gx
        have hx : x = true ∨ x = false := by cases x <;> simp
        rcases hx with hx | hx
        · subst hx
          have hkc : k < os.length := by rw [HML.out]; exact hlt
          obtain ⟨gc, rfl, d0, d1, d2', hgc⟩ := H.out.own.cells.at_ (List.getElem?_eq_getElem hkc)
          have c3' : ((w2.alloc (.cells #[.slice (some ⟨gc, 0, none⟩) p.store.cells.length d, .slice B' p.store.roots.length d', .slice B2 p.x.length d2, .slice (some ⟨b, 0, none⟩) p.y.length d3] 32))).cell? ⟨b, k, none⟩ = some (.bool true) := c3
          have hcell : p.store.cells[k]? = some os[k].c := by rw [← H.out.map, List.getElem?_map, List.getElem?_eq_getElem hkc]; rfl
          have HS := Lib.hid (stepS_some HNB.out gx hcell)
          have hmem : os[k] ∈ os := List.getElem_mem hkc
          obtain ⟨hro, hrl⟩ := H.out.own.cells.2 _ hmem
          have hltr := HV7.out _ (List.mem_of_getElem? hcell)
          have HRD : Hid (∀ b' ∈ blk os[k].A, b' ∉ blk B2 ++ blk (some ⟨b, 0, none⟩)) := fun b' hb' => H.out.d1 b' (List.mem_append.2 (.inl (List.mem_append.2 (.inr (mem_blks hmem hb')))))
          have HRO := Lib.hid hro
          have HLTR := Lib.hid hltr
          have hgcn : gc ∉ blk B2 ++ blk (some ⟨b, 0, none⟩) := H.out.d1 gc (List.mem_append.2 (.inl (List.mem_append.2 (.inl (by simp [blk])))))
          have hgcb : gc ≠ b := fun e => hgcn (List.mem_append.2 (.inr (by simp [blk, e])))
          have hgcb2 : b ≠ gc := fun e => hgcb e.symm
          have hg2b : w2.heap.size ≠ b := fun e => H.out.g3 (by simp [blk, e])
          have hg2b2 : b ≠ w2.heap.size := fun e => hg2b e.symm
          have f3 := hpys.frozen k
          have hkc2 : k < p.store.cells.length := by have := HV5.out; omega
          have hOn0 : Only (blk B2 ++ blk (some ⟨b, 0, none⟩)) ((w2.alloc (.cells #[.slice (some ⟨gc, 0, none⟩) p.store.cells.length d, .slice B' p.store.roots.length d', .slice B2 p.x.length d2, .slice (some ⟨b, 0, none⟩) p.y.length d3] 32))) (((w2.alloc (.cells #[.slice (some ⟨gc, 0, none⟩) p.store.cells.length d, .slice B' p.store.roots.length d', .slice B2 p.x.length d2, .slice (some ⟨b, 0, none⟩) p.y.length d3] 32))).setCell ⟨b, k, none⟩ (.bool false)) := (Only.refl _ _).setCell (.inl (by simp [blk])) _
          have hx1 : OF 4 fb (((w2.alloc (.cells #[.slice (some ⟨gc, 0, none⟩) p.store.cells.length d, .slice B' p.store.roots.length d', .slice B2 p.x.length d2, .slice (some ⟨b, 0, none⟩) p.y.length d3] 32))).setCell ⟨b, k, none⟩ (.bool false)) B2 d2 p.x := H.out.xs.ne_ (fun hc => H.out.d2 b (by simp [blk]) hc)
          have hy1 : OF 4 fb (((w2.alloc (.cells #[.slice (some ⟨gc, 0, none⟩) p.store.cells.length d, .slice B' p.store.roots.length d', .slice B2 p.x.length d2, .slice (some ⟨b, 0, none⟩) p.y.length d3] 32))).setCell ⟨b, k, none⟩ (.bool false)) (some ⟨b, 0, none⟩) d3 (p.y.set k false) := hpys.set_ k false
          have HX1 := Lib.hid hx1
          have HY1 := Lib.hid hy1
          have HO0 := Lib.hid hOn0
          generalize os[k] = oo at *
          clear gx c1 c3 hmem hltr hcell hro hx1 hy1 hOn0
          go_wp2
          go_loopw [6] (fun i wr => ∃ (j : Nat) (us vs : List Bool), j ≤ oo.c.refs.length ∧ i = .int .i64 j ∧ Hid ((us, vs) = meetL (p.x, p.y.set k false) (oo.c.refs.take j)) ∧ OF 4 fb wr B2 d2 us ∧ OF 4 fb wr (some ⟨b, 0, none⟩) d3 vs ∧ Only (blk B2 ++ blk (some ⟨b, 0, none⟩)) ((w2.alloc (.cells #[.slice (some ⟨gc, 0, none⟩) p.store.cells.length d, .slice B' p.store.roots.length d', .slice B2 p.x.length d2, .slice (some ⟨b, 0, none⟩) p.y.length d3] 32))) wr) (fun i _ => oo.c.refs.length - (intOf i).toNat)
          case atStart => exact ⟨0, _, _, by omega, rfl, rfl, HX1.out, HY1.out, HO0.out⟩
          case round =>
            obtain ⟨j, us, vs, hj, rfl, HY, hU, hV, hOn⟩ := hrel
            have hul : us.length = p.x.length := by rw [(meet_pair HY.out).1]; exact (meetL_len _ _).1
            have hvl : vs.length = p.y.length := by rw [(meet_pair HY.out).2, (meetL_len _ _).2, List.length_set]
            have hPr := H.out.lists hU hV hul hvl hOn
            have r0 := hPr.q0
            have r1 := hPr.q1
            have r2 := hPr.q2
            have r3 := hPr.q3
            have e2 := hOn.cell d2' hgcn
            have HUL : Hid (us.length = p.store.cells.length) := hul.trans HV4.out
            have hvu : vs.length = us.length := by rw [hvl, hul, HV4.out, HV5.out]
            have HVU := Lib.hid hvu
            have HPR := Lib.hid hPr
            have hB4 : Below w1.heap.size w1 wr := hB3.trans (hOn.below (by simp; omega) (fun b hb => H.out.los4 b hb))
            have hRF := (HRO.out.only hOn HRD.out).rf
            have hd2 := H.out.d2
            clear hul hvl hvu hPr
            by_cases hlt2 : j < oo.c.refs.length
            · obtain ⟨b2, o2, r, hAr, hr, e1, hb2⟩ := hRF.at_ hlt2
              rw [hAr] at e2
              have e1' : wr.cell? ⟨b2, o2 + j, none⟩ = some (.int .i64 r) := e1
              have hrx := HLTR.out r (List.mem_of_getElem? hr)
              have hrx2 : r < us.length := by rw [HUL.out]; exact hrx
              have hul2 : us.length ≤ 9223372036854775807 := by rw [HUL.out]; omega
              have HSN := Lib.hid (meetL_snoc (xy := (p.x, p.y.set k false)) hr)
              have i1 : (0 : Int) ≤ (j : Int) := by omega
              have i2 : (j : Int) < (oo.c.refs.length : Int) := by omega
              have i3 : (0 : Int) ≤ (k : Int) := by omega
              have i4 : (k : Int) < (p.store.cells.length : Int) := by omega
              have HAR := Lib.hid hAr
              clear hr e1 hRF hAr
              go_wp2_with fail
              go_still_tail 11, (by kernel_rfl)
              change wpList _ _ _ _ _ wr.drew
              go_wp2_with fail
              (with_reducible refine (l19Meet_any _ _ B2 (some ⟨b, 0, none⟩) _ _ d d' d2 d3 us vs r _ hU.drew hV.drew HVU.out hd2 hrx2 hul2).mono ?_)
              rintro e w5 ⟨rfl, hX5, hY5, hOn5⟩
              go_wp2
              go_roundw
              case rel => exact ⟨j + 1, _, _, by omega, by go_num, by unfold Hid; rw [HSN.out, ← HY.out], hX5, hY5, (hOn.drew).trans hOn5⟩
              case measure => simp [intOf]; omega
            · have hke : j = oo.c.refs.length := by omega
              have hY := HY.out
              rw [hke, List.take_length] at hY
              have n0 := cell_below (MC.out 0 (by omega)) hB4
              have n1 := cell_below (MC.out 1 (by omega)) hB4
              have n2 := cell_below (MC.out 2 (by omega)) hB4
              have n3 := cell_below (MC.out 3 (by omega)) hB4
              have nf : ∀ o, wr.frozen? ⟨w.heap.size + 1, o, none⟩ = false := fun o => ((bcell hB4).2.1 _ _ (by omega)).trans (MF.out o)
              have nf0 := nf 0
              have nf1 := nf 1
              have nf2 := nf 2
              have nf3 := nf 3
              have hw4 : Below w.heap.size w wr := HB1.trans (hB4.mono hz1)
              have HK := Lib.hid hke
              have HYY : Hid (stepS p = (⟨p.store, us, vs⟩, true)) := by unfold Hid; rw [HS.out, ← hY]
              clear hke hY nf hRF hB1 hbc hbf hB2
              go_wp2
              refine bodyPost_ret (v := .tuple #[.agg #[.slice (some ⟨gc, 0, none⟩) p.store.cells.length d, .slice B' p.store.roots.length d', .slice B2 us.length d2, .slice (some ⟨b, 0, none⟩) vs.length d3], .bool true]) (by simp [results, Try.results60, go_sem, n0, n1, n2, n3]) rfl ⟨_, by unfold snapStepM; rw [HV.out, if_pos rfl, HYY.out], ?_, (((hw4.setCell (by simp) _).setCell (by simp) _).setCell (by simp) _).setCell (by simp) _⟩
              unfold snapStepM
              rw [HV.out, if_pos rfl, HYY.out]
              exact (((((HPR.out.opt).setlt (by simp; omega) _).setlt (by simp; omega) _).setlt (by simp; omega) _).setlt (by simp; omega) _).lo_ (by omega)
        · subst hx
          have HN2 : Hid (noneB id p.y (k + 1)) := noneB_succ HNB.out gx rfl
          clear gx c1 
          go_wp2
          go_round
          case rel => exact ⟨k + 1, by omega, by go_num, HN2⟩
          case measure => simp [intOf]; omega
      · have hke : k = p.y.length := by omega
        have HNB2 := HNB.out
        rw [hke] at HNB2
        have HN := Lib.hid (stepS_none HNB2)
        have q1 := H.out.q1
        have q2 := H.out.q2
        have n0 := cell_below (MC.out 0 (by omega)) hB3
        have n1 := cell_below (MC.out 1 (by omega)) hB3
        have n2 := cell_below (MC.out 2 (by omega)) hB3
        have n3 := cell_below (MC.out 3 (by omega)) hB3
        have nf : ∀ o, ((w2.alloc (.cells #[.slice B p.store.cells.length d, .slice B' p.store.roots.length d', .slice B2 p.x.length d2, .slice B3 p.y.length d3] 32))).frozen? ⟨w.heap.size + 1, o, none⟩ = false := fun o => ((bcell hB3).2.1 _ _ (by omega)).trans (MF.out o)
        have nf0 := nf 0
        have nf1 := nf 1
        have nf2 := nf 2
        have nf3 := nf 3
        have hw4 := HB1.trans (hB3.mono hz1)
        clear hke HNB2 nf hrf hB1 hbc hbf hB2
        go_wp2
        refine bodyPost_ret (v := .tuple #[.agg #[.slice B p.store.cells.length d, .slice B' p.store.roots.length d', .slice B2 p.x.length d2, .slice B3 p.y.length d3], .bool false]) (by simp [results, Try.results60, go_sem, n0, n1, n2, n3]) rfl ⟨_, by unfold snapStepM; rw [HV.out, if_pos rfl, HN.out], ?_, (((hw4.setCell (by simp) _).setCell (by simp) _).setCell (by simp) _).setCell (by simp) _⟩
        unfold snapStepM
        rw [HV.out, if_pos rfl, HN.out]
        exact (((((H.out.opt).setlt (by simp; omega) _).setlt (by simp; omega) _).setlt (by simp; omega) _).setlt (by simp; omega) _).lo_ (by omega)
end Go.Proofs.Ytdkhpmlimnfgpaa
