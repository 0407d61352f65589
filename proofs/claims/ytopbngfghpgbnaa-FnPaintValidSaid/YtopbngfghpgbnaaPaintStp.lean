/- PaintStep: the program's step and PaintStep, and the reference's PaintStep, do what stepP and paintStepM say. -/
import Derived.Test.YtopbngfghpgbnaaChecked
import Derived.Test.YtopbngfghpgbnaaPaintSt
namespace Go.Proofs.Ytopbngfghpgbnaa
open Go.RowKit
set_option maxRecDepth 100000
set_option linter.unusedSimpArgs false
set_option linter.unusedVariables false
theorem stepP_none {p : PaintM} (h : noneB isGrey p.colours p.colours.length) : stepP p = (p, false) := by unfold stepP; rw [firstB_none h]
theorem stepP_some {p : PaintM} {k : Nat} {c : CellM} (h : noneB isGrey p.colours k) (hk : p.colours[k]? = some 1) (hc : p.store.cells[k]? = some c) : stepP p = (⟨p.store, (greyL p.colours c.refs).set k 2, p.active⟩, true) := by
  unfold stepP; rw [firstB_some h hk rfl]; simp only [refsAt_of hc]
theorem paint_idle {p : PaintM} (h : paintM p = true) (ha : p.active = false) : noneB isGrey p.colours p.colours.length := by
  intro i hi y hy
  have h2 := (paintM_parts h).2
  unfold paintM at h
  simp only [Bool.and_eq_true] at h
  have hc := List.getElem?_eq_getElem (l := p.store.cells) (i := i) (by omega)
  have h3 := List.all_eq_true.1 h.1.2 (y, p.store.cells[i]'(by omega)) (List.mem_of_getElem? (i := i) (by rw [List.getElem?_zip_eq_some]; exact ⟨hy, hc⟩))
  unfold cellPaint at h3
  rw [ha] at h3
  simp at h3
  unfold isGrey
  rcases h3 with ⟨⟨_, h3⟩, _⟩
  simp [h3]
theorem stepP_len (p : PaintM) : (stepP p).1.store = p.store ∧ (stepP p).1.colours.length = p.colours.length := by
  unfold stepP
  split
  · exact ⟨rfl, rfl⟩
  · exact ⟨rfl, by simp only [List.length_set, greyL_len]⟩
set_option maxHeartbeats 4000000 in
theorem pstep_any (lo g : Nat) (p : PaintM) (A A' A2 : Option Addr) (c c' c2 : Nat) (os : List OCell) (w : World) (h : PPx lo w g p A c A' c' os A2 c2) (hl : p.colours.length = p.store.cells.length) (hl40 : p.colours.length ≤ 40)
    (hlt : ∀ d ∈ p.store.cells, ∀ r ∈ d.refs, r < p.colours.length) (hidle : p.active = false → noneB isGrey p.colours p.colours.length) :
    Calls Try.prog 70 #[.pointer (some ⟨g, 0, none⟩)] w fun e w' => e = .returned (.bool (stepP p).2) ∧ PPx lo w' g (stepP p).1 A c A' c' os A2 c2 ∧ Only (g :: blk A2) w w' := by
  have q0 := h.q0
  have q2 := h.q2
  have q3 := h.q3
  have hcs := h.cs
  have hcl := h.cl
  have H := Lib.hid h
  have HL := Lib.hid hl
  have HLT := Lib.hid hlt
  have hrf := hcs.rf
  cases ha : p.active
  · rw [ha] at q3
    have HN := Lib.hid (stepP_none (hidle ha))
    clear h hlt hl hidle hcs
    go_enter Try.func70, Try.ntmps70
    go_wp2
    go_loop [10] (fun i => ∃ k : Nat, k ≤ p.colours.length ∧ i = .int .i64 k) (fun i => p.colours.length - (intOf i).toNat)
    case atStart => exact ⟨0, by omega, rfl⟩
    case round =>
      obtain ⟨k, hk, rfl⟩ := hrel
      by_cases hlt : k < p.colours.length
      · obtain ⟨b, o, x, rfl, gx, c1, hb⟩ := hrf.at_ hlt
        have c1' : w.cell? ⟨b, o + k, none⟩ = some (.int .i64 x) := c1
        clear gx c1
        go_wp2
        go_round
        case rel => exact ⟨k + 1, by omega, by go_num⟩
        case measure => simp [intOf]; omega
      · have hke : k = p.colours.length := by omega
        clear hke
        go_wp2
        go_ret
        exact ⟨ret_bool (by rw [HN.out]), by rw [HN.out]; exact H.out, Only.refl _ _⟩
  · rw [ha] at q3
    have HA := Lib.hid ha
    clear h hlt hl hidle ha
    go_enter Try.func70, Try.ntmps70
    go_wp2
    go_loop [10] (fun i => ∃ k : Nat, k ≤ p.colours.length ∧ i = .int .i64 k ∧ Hid (noneB isGrey p.colours k)) (fun i => p.colours.length - (intOf i).toNat)
    case atStart => exact ⟨0, by omega, rfl, noneB_zero _ _⟩
    case round =>
      obtain ⟨k, hk, rfl, HNB⟩ := hrel
      by_cases hlt : k < p.colours.length
      · have hkc : k < os.length := by have := HL.out; have := congrArg List.length H.out.map; simp at this; omega
        obtain ⟨b, o, x, rfl, gx, c1, hb⟩ := hrf.at_ hlt
        have c1' : w.cell? ⟨b, o + k, none⟩ = some (.int .i64 x) := c1
        rcases Classical.em (x = 1) with hx | hx
        · subst hx
          obtain ⟨gc, rfl, d0, d1, d2, hgc⟩ := H.out.own.cells.at_ (List.getElem?_eq_getElem hkc)
          have hcell : p.store.cells[k]? = some os[k].c := by rw [← H.out.map, List.getElem?_map, List.getElem?_eq_getElem hkc]; rfl
          have HS := Lib.hid (stepP_some HNB.out gx hcell)
          have hmem : os[k] ∈ os := List.getElem_mem hkc
          obtain ⟨hro, hrl⟩ := H.out.own.cells.2 _ hmem
          have hltr := HLT.out _ (List.mem_of_getElem? hcell)
          have hdj : ∀ b' ∈ blk os[k].A, b' ∉ blk (some ⟨b, o, none⟩) := fun b' hb' => H.out.g1 b' (List.mem_append.2 (.inl (List.mem_append.2 (.inr (mem_blks hmem hb')))))
          have HR : Hid (∀ W, Only (blk (some ⟨b, o, none⟩)) w W → RF fi W os[k].A os[k].c.refs) := fun W hW => (hro.only hW hdj).rf
          have HLTR := Lib.hid hltr
          have hg2 := H.out.g2
          have hkc2 : k < p.store.cells.length := by have := HL.out; omega
          obtain ⟨q2', hq2', hq2s⟩ := hcs.some_ hlt
          injection hq2' with hq2'
          injection hq2' with hb' ho'
          subst hb'; subst ho'
          have c3 : w.cell? ⟨b, k, none⟩ = some (.int .i64 1) := hcs.cell gx
          generalize os[k] = oo at *
          clear gx c1 hdj hmem hltr hcell hro
          go_wp2_with fail
          refine (grey_any g _ oo.A c2 oo.cap p.colours oo.c.refs _ q2 hcs hg2 HR.out hrl HLTR.out hcl).mono ?_
          rintro e w1 ⟨rfl, hO, hOn⟩
          have k2 := hOn.cell q2 hg2
          have hgl : (greyL p.colours oo.c.refs).length = p.colours.length := greyL_len _ _
          have hk1 : k < (greyL p.colours oo.c.refs).length := by omega
          have m2 := hO.cell (List.getElem?_eq_getElem hk1)
          have f2 := hO.frozen k
          have HGL := Lib.hid hgl
          clear hgl
          go_wp2
          go_ret
          rw [HS.out]
          refine ⟨rfl, ?_, (hOn.setCell (.inl (by simp [blk])) _).mono fun b hb => List.mem_cons_of_mem _ hb⟩
          exact H.out.paint (hO.set_ k 2) (by rw [List.length_set, HGL.out]) (hOn.setCell (.inl (by simp [blk])) _)
        · have hx' : (x == 1) = false := by simpa using hx
          have HN2 : Hid (noneB isGrey p.colours (k + 1)) := noneB_succ HNB.out gx hx'
          clear gx c1 hx
          go_wp2
          go_round
          case rel => exact ⟨k + 1, by omega, by go_num, HN2⟩
          case measure => simp [intOf]; omega
      · have hke : k = p.colours.length := by omega
        have HNB2 := HNB.out
        rw [hke] at HNB2
        have HN := Lib.hid (stepP_none HNB2)
        clear hke HNB2
        go_wp2
        go_ret
        exact ⟨ret_bool (by rw [HN.out]), by rw [HN.out]; exact H.out, Only.refl _ _⟩
set_option maxHeartbeats 4000000 in
theorem implPaintStep_any (v : Value) (p : PaintM) (w : World) (hv : RPt w v p) :
    Calls Try.prog 25 #[v] w fun e w' => ∃ v', e = .returned (.tuple #[v', .bool (paintStepM p).2]) ∧ OPt w.heap.size w' v' (paintStepM p).1 ∧ Below w.heap.size w w' := by
  have hv0 := hv
  obtain ⟨A, c, A', c', A2, c2, rfl, -, -, -⟩ := hv
  cases hva : paintM p
  · have HV := Lib.hid hva
    go_enter Try.func25, Try.ntmps25
    go_wp2_with (go_at_call 16; refine (implPaintValid_any _ p _ (hv0.below blw_)).mono ?_; rw [HV.out]; rintro e w1 ⟨rfl, hB1⟩; obtain ⟨hbc, hbf, hbz⟩ := bcell hB1; have z0w1 : w.heap.size < w1.heap.size := (by (try simp at hbz); omega); have z1w1 : w.heap.size + 1 < w1.heap.size := (by (try simp at hbz); omega))
    refine bodyPost_ret (v := .tuple #[.agg #[.slice none 0 0, .slice none 0 0, .slice none 0 0, .bool false], .bool false]) (by simp [results, Try.results25, go_sem, hbc]) rfl ⟨_, by unfold paintStepM; rw [HV.out]; rfl, ?_, blw_⟩
    unfold paintStepM
    rw [HV.out]
    exact OPt.zero
  · obtain ⟨v1, v2, v3, v4, v5, v6⟩ := paint_small hva
    have HV := Lib.hid hva
    have HV3 := Lib.hid v3
    have HV6 := Lib.hid v6
    have HV7 := Lib.hid (paintM_parts hva).2
    have HVI : Hid (p.active = false → noneB isGrey p.colours p.colours.length) := fun ha => paint_idle hva ha
    clear hva v3 v5 v6
    go_enter Try.func25, Try.ntmps25
    go_wp2_with (go_at_call 16; refine (implPaintValid_any _ p _ (hv0.below blw_)).mono ?_; rw [HV.out]; rintro e w1 ⟨rfl, hB1⟩; obtain ⟨hbc, hbf, hbz⟩ := bcell hB1; have z0w1 : w.heap.size < w1.heap.size := (by (try simp at hbz); omega); have z1w1 : w.heap.size + 1 < w1.heap.size := (by (try simp at hbz); omega); have HB1 : Below w.heap.size w w1 := blw_; have MC : Hid (∀ o, o < 3 → w1.cell? ⟨w.heap.size + 1, o, none⟩ = some (.slice none 0 0)) := (fun o ho => by rw [hbc _ _ (by first | omega | (simp; done) | (simp; omega))]; rcases (by omega : o = 0 ∨ o = 1 ∨ o = 2) with rfl | rfl | rfl <;> simp [go_sem]); have m3 : w1.cell? ⟨w.heap.size + 1, 3, none⟩ = some (.bool false) := (by rw [hbc _ _ (by first | omega | (simp; done) | (simp; omega))]; simp [go_sem]); have MF : Hid (∀ o, w1.frozen? ⟨w.heap.size + 1, o, none⟩ = false) := (fun o => by rw [hbf _ _ (by first | omega | (simp; done) | (simp; omega))]; simp [go_sem]); have k3 : w1.cell? ⟨w.heap.size, 3, none⟩ = some (.bool p.active) := (by rw [hbc _ _ (by first | omega | (simp; done) | (simp; omega))]; simp [go_sem]))
    refine (copyPaint_any _ p _ (hv0.below HB1) (by omega) (fun d hd => Nat.le_trans (HV3.out d hd) (by omega)) (by omega) (by omega)).mono ?_
    rintro e w2 ⟨v2, rfl, ho, hB2⟩
    obtain ⟨B, d, B', d', os, B2, d2, rfl, hm, hO, hC, hnd, hlo, hcl⟩ := ho
    have hz1 := HB1.size
    have hz2 := hB2.size
    have hP := PPx.mk_ hm hO hC hnd hlo hcl hz2 28
    have hB3 : Below w1.heap.size w1 (w2.alloc (.cells #[.slice B p.store.cells.length d, .slice B' p.store.roots.length d', .slice B2 p.colours.length d2, .bool p.active] 28)) := blw_
    go_wp2_with fail
    refine (pstep_any w1.heap.size _ p B B' B2 d d' d2 os _ hP HV7.out v4 HV6.out HVI.out).mono ?_
    rintro e w4 ⟨rfl, hP4, hOn⟩
    have hB4 : Below w1.heap.size w1 w4 := hB3.trans (hOn.below (by simp; omega) (fun b hb => by rcases List.mem_cons.1 hb with rfl | hb; exact hz2; exact hlo b (List.mem_append.2 (.inr hb))))
    have n0 := cell_below (MC.out 0 (by omega)) hB4
    have n1 := cell_below (MC.out 1 (by omega)) hB4
    have n2 := cell_below (MC.out 2 (by omega)) hB4
    have n3 := cell_below m3 hB4
    have nf : ∀ o, w4.frozen? ⟨w.heap.size + 1, o, none⟩ = false := fun o => ((bcell hB4).2.1 _ _ (by omega)).trans (MF.out o)
    have nf0 := nf 0
    have nf1 := nf 1
    have nf2 := nf 2
    have nf3 := nf 3
    have hw4 : Below w.heap.size w w4 := HB1.trans (hB4.mono hz1)
    have q0 := hP4.q0
    have q1 := hP4.q1
    have q2 := hP4.q2
    have q3 := hP4.q3
    have HP4 := Lib.hid hP4
    clear hB1 hbc hbf nf hP hP4 hB2 hB3 hOn
    go_wp2
    refine bodyPost_ret (v := .tuple #[.agg #[.slice B (stepP p).1.store.cells.length d, .slice B' (stepP p).1.store.roots.length d', .slice B2 (stepP p).1.colours.length d2, .bool (stepP p).1.active], .bool (stepP p).2]) (by simp [results, Try.results25, go_sem, n0, n1, n2, n3]) rfl ⟨_, by unfold paintStepM; rw [HV.out, if_pos rfl], ?_, (((hw4.setCell (by simp) _).setCell (by simp) _).setCell (by simp) _).setCell (by simp) _⟩
    unfold paintStepM
    rw [HV.out, if_pos rfl]
    exact (((((HP4.out.opt).setlt (by simp; omega) _).setlt (by simp; omega) _).setlt (by simp; omega) _).setlt (by simp; omega) _).lo_ (by omega)
set_option maxHeartbeats 4000000 in
theorem specPaintStep_any (v : Value) (p : PaintM) (w : World) (hv : RPt w v p) :
    Calls Try.prog 26 #[v] w fun e w' => ∃ v', e = .returned (.tuple #[v', .bool (paintStepM p).2]) ∧ OPt w.heap.size w' v' (paintStepM p).1 ∧ Below w.heap.size w w' := by
  have hv0 := hv
  obtain ⟨A, c, A', c', A2, c2, rfl, -, -, -⟩ := hv
  cases hva : paintM p
  · have HV := Lib.hid hva
    go_enter Try.func26, Try.ntmps26
    go_wp2_with (go_at_call 17; refine (specPaintValid_any _ p _ (hv0.below blw_)).mono ?_; rw [HV.out]; rintro e w1 ⟨rfl, hB1⟩; obtain ⟨hbc, hbf, hbz⟩ := bcell hB1; have z0w1 : w.heap.size < w1.heap.size := (by (try simp at hbz); omega); have z1w1 : w.heap.size + 1 < w1.heap.size := (by (try simp at hbz); omega))
    refine bodyPost_ret (v := .tuple #[.agg #[.slice none 0 0, .slice none 0 0, .slice none 0 0, .bool false], .bool false]) (by simp [results, Try.results26, go_sem, hbc]) rfl ⟨_, by unfold paintStepM; rw [HV.out]; rfl, ?_, blw_⟩
    unfold paintStepM
    rw [HV.out]
    exact OPt.zero
  · obtain ⟨v1, v2, v3, v4, v5, v6⟩ := paint_small hva
    have HV := Lib.hid hva
    have HV3 := Lib.hid v3
    have HV6 := Lib.hid v6
    have HV7 := Lib.hid (paintM_parts hva).2
    have HVI : Hid (p.active = false → noneB isGrey p.colours p.colours.length) := fun ha => paint_idle hva ha
    clear hva v3 v5 v6
    go_enter Try.func26, Try.ntmps26
    go_wp2_with (go_at_call 17; refine (specPaintValid_any _ p _ (hv0.below blw_)).mono ?_; rw [HV.out]; rintro e w1 ⟨rfl, hB1⟩; obtain ⟨hbc, hbf, hbz⟩ := bcell hB1; have z0w1 : w.heap.size < w1.heap.size := (by (try simp at hbz); omega); have z1w1 : w.heap.size + 1 < w1.heap.size := (by (try simp at hbz); omega); have HB1 : Below w.heap.size w w1 := blw_; have MC : Hid (∀ o, o < 3 → w1.cell? ⟨w.heap.size + 1, o, none⟩ = some (.slice none 0 0)) := (fun o ho => by rw [hbc _ _ (by first | omega | (simp; done) | (simp; omega))]; rcases (by omega : o = 0 ∨ o = 1 ∨ o = 2) with rfl | rfl | rfl <;> simp [go_sem]); have m3 : w1.cell? ⟨w.heap.size + 1, 3, none⟩ = some (.bool false) := (by rw [hbc _ _ (by first | omega | (simp; done) | (simp; omega))]; simp [go_sem]); have MF : Hid (∀ o, w1.frozen? ⟨w.heap.size + 1, o, none⟩ = false) := (fun o => by rw [hbf _ _ (by first | omega | (simp; done) | (simp; omega))]; simp [go_sem]); have k3 : w1.cell? ⟨w.heap.size, 3, none⟩ = some (.bool p.active) := (by rw [hbc _ _ (by first | omega | (simp; done) | (simp; omega))]; simp [go_sem]))
    refine (l18Copy_any _ p _ (hv0.below HB1) (by omega) (fun d hd => Nat.le_trans (HV3.out d hd) (by omega)) (by omega) (by omega)).mono ?_
    rintro e w2 ⟨v2, rfl, ho, hB2⟩
    obtain ⟨B, d, B', d', os, B2, d2, rfl, hm, hO, hC, hnd, hlo, hcl⟩ := ho
    have hz1 := HB1.size
    have hz2 := hB2.size
    have hP := PPx.mk_ hm hO hC hnd hlo hcl hz2 28
    have hB3 : Below w1.heap.size w1 (w2.alloc (.cells #[.slice B p.store.cells.length d, .slice B' p.store.roots.length d', .slice B2 p.colours.length d2, .bool p.active] 28)) := blw_
    have hcl2 := HV7.out
    have HPC := Lib.hid (show p.colours.length = p.store.cells.length from hcl2)
    have q0 := hP.q0
    have q2 := hP.q2
    have hrf := hP.cs.rf
    have hpcs := hP.cs
    have H := Lib.hid hP
    have hmapl : os.length = p.colours.length := by have := congrArg List.length hm; simp at this; omega
    have HML := Lib.hid hmapl
    clear hcl2 hP hO hC hnd hm hmapl
    go_wp2
    go_loop [5] (fun i => ∃ k : Nat, k ≤ p.colours.length ∧ i = .int .i64 k ∧ Hid (noneB isGrey p.colours k)) (fun i => p.colours.length - (intOf i).toNat)
    case atStart => exact ⟨0, by omega, rfl, noneB_zero _ _⟩
    case round =>
      obtain ⟨k, hk, rfl, HNB⟩ := hrel
      by_cases hlt : k < p.colours.length
      · obtain ⟨b, o, x, rfl, gx, c1, hb⟩ := hrf.at_ hlt
        obtain ⟨b', hb', hbs⟩ := hpcs.some_ hlt
        injection hb' with hb'
        injection hb' with hb1 hb2
        subst hb1; subst hb2
        have c3 := hpcs.cell gx
        have c3' : ((w2.alloc (.cells #[.slice B p.store.cells.length d, .slice B' p.store.roots.length d', .slice (some ⟨b, 0, none⟩) p.colours.length d2, .bool p.active] 28))).cell? ⟨b, k, none⟩ = some (.int .i64 x) := c3
        rcases Classical.em (x = 1) with hx | hx
        · subst hx
          have hkc : k < os.length := by rw [HML.out]; exact hlt
          obtain ⟨gc, rfl, d0, d1, d2', hgc⟩ := H.out.own.cells.at_ (List.getElem?_eq_getElem hkc)
          have hcell : p.store.cells[k]? = some os[k].c := by rw [← H.out.map, List.getElem?_map, List.getElem?_eq_getElem hkc]; rfl
          have HS := Lib.hid (stepP_some HNB.out gx hcell)
          have hmem : os[k] ∈ os := List.getElem_mem hkc
          obtain ⟨hro, hrl⟩ := H.out.own.cells.2 _ hmem
          have hltr := HV6.out _ (List.mem_of_getElem? hcell)
          have HRD : Hid (∀ b' ∈ blk os[k].A, b' ∉ blk (some ⟨b, 0, none⟩)) := fun b' hb' => H.out.g1 b' (List.mem_append.2 (.inl (List.mem_append.2 (.inr (mem_blks hmem hb')))))
          have HRO := Lib.hid hro
          have HLTR := Lib.hid hltr
          have hg2 := H.out.g2
          have hgcn : gc ∉ blk (some ⟨b, 0, none⟩) := H.out.g1 gc (List.mem_append.2 (.inl (List.mem_append.2 (.inl (by simp [blk])))))
          have hkc2 : k < p.store.cells.length := by have := HPC.out; omega
          generalize os[k] = oo at *
          clear gx c1 c3 hmem hltr hcell hro
          go_wp2
          go_loopw [6] (fun i wr => ∃ (j : Nat) (us : List Int), j ≤ oo.c.refs.length ∧ i = .int .i64 j ∧ Hid (us = greyL p.colours (oo.c.refs.take j)) ∧ OF 3 fi wr (some ⟨b, 0, none⟩) d2 us ∧ Only (blk (some ⟨b, 0, none⟩)) (w2.alloc (.cells #[.slice (some ⟨gc, 0, none⟩) p.store.cells.length d, .slice B' p.store.roots.length d', .slice (some ⟨b, 0, none⟩) p.colours.length d2, .bool p.active] 28)) wr) (fun i _ => oo.c.refs.length - (intOf i).toNat)
          case atStart => exact ⟨0, _, by omega, rfl, rfl, hpcs, Only.refl _ _⟩
          case round =>
            obtain ⟨j, us, hj, rfl, HY, hU, hOn⟩ := hrel
            have hul : us.length = p.colours.length := by rw [HY.out]; exact greyL_len _ _
            have hPr := H.out.paint hU hul hOn
            have r0 := hPr.q0
            have r1 := hPr.q1
            have r2 := hPr.q2
            have r3 := hPr.q3
            have e2 := hOn.cell d2' hgcn
            have HUL := Lib.hid hul
            have HPR := Lib.hid hPr
            have hB4 : Below w1.heap.size w1 wr := hB3.trans (hOn.below (by simp; omega) (fun b hb => hlo b (List.mem_append.2 (.inr hb))))
            have hRF := (HRO.out.only hOn HRD.out).rf
            clear hul hPr
            by_cases hlt2 : j < oo.c.refs.length
            · obtain ⟨b2, o2, r, hAr, hr, e1, hb2⟩ := hRF.at_ hlt2
              rw [hAr] at e2
              have e1' : wr.cell? ⟨b2, o2 + j, none⟩ = some (.int .i64 r) := e1
              have hrx := HLTR.out r (List.mem_of_getElem? hr)
              have hrx2 : r < us.length := by rw [HUL.out]; exact hrx
              have hul2 : us.length ≤ 9223372036854775807 := by rw [HUL.out]; exact hcl
              have HSN := Lib.hid (greyL_snoc (cols := p.colours) hr)
              have i1 : (0 : Int) ≤ (j : Int) := by omega
              have i2 : (j : Int) < (oo.c.refs.length : Int) := by omega
              have i3 : (0 : Int) ≤ (k : Int) := by omega
              have i4 : (k : Int) < (p.store.cells.length : Int) := by omega
              have HAR := Lib.hid hAr
              clear hr e1 hRF hAr
              go_wp2_with fail
              go_still_tail 11, (by kernel_rfl)
              change wpList _ _ _ _ _ wr.drew
              go_wp2_with fail
              (with_reducible refine (l18Grey_any _ _ (some ⟨b, 0, none⟩) _ _ d d' d2 p.active us r _ hU.drew hrx2 hul2).mono ?_)
              rintro e w5 ⟨rfl, hO5, hOn5⟩
              go_wp2
              go_roundw
              case rel => exact ⟨j + 1, _, by omega, by go_num, by unfold Hid; rw [HSN.out, ← HY.out], hO5, (hOn.drew).trans hOn5⟩
              case measure => simp [intOf]; omega
            · have hke : j = oo.c.refs.length := by omega
              have hY := HY.out
              rw [hke, List.take_length] at hY
              have hk1 : k < us.length := by rw [HUL.out]; exact hlt
              have m2 := hU.cell (List.getElem?_eq_getElem hk1)
              have f2 := hU.frozen k
              have n0 := cell_below (MC.out 0 (by omega)) hB4
              have n1 := cell_below (MC.out 1 (by omega)) hB4
              have n2 := cell_below (MC.out 2 (by omega)) hB4
              have n3 := cell_below m3 hB4
              have nf : ∀ o, wr.frozen? ⟨w.heap.size + 1, o, none⟩ = false := fun o => ((bcell hB4).2.1 _ _ (by omega)).trans (MF.out o)
              have nf0 := nf 0
              have nf1 := nf 1
              have nf2 := nf 2
              have nf3 := nf 3
              have hPs := HPR.out.paint (cols := us.set k 2) (hU.set_ k 2) (by simp) (Only.setCell (Only.refl _ _) (.inl (by simp [blk])) _)
              have hw4 : Below w.heap.size w wr := HB1.trans (hB4.mono hz1)
              have hbl : w1.heap.size ≤ b := hlo b (List.mem_append.2 (.inr (by simp [blk])))
              have hbn : b ≠ w.heap.size + 1 := by omega
              have hbn2 : w.heap.size + 1 ≠ b := by omega
              have hbn3 : w2.heap.size ≠ b := fun e => H.out.g2 (by rw [e]; simp [blk])
              have hbn4 : b ≠ w2.heap.size := fun e => hbn3 e.symm
              have HPS := Lib.hid hPs
              have HK := Lib.hid hke
              have HYY : Hid (stepP p = (⟨p.store, us.set k 2, p.active⟩, true)) := by unfold Hid; rw [HS.out, hY]
              clear hke hY nf hRF hB1 hbc hbf hB2 hPs
              go_wp2
              refine bodyPost_ret (v := .tuple #[.agg #[.slice (some ⟨gc, 0, none⟩) p.store.cells.length d, .slice B' p.store.roots.length d', .slice (some ⟨b, 0, none⟩) us.length d2, .bool p.active], .bool true]) (by simp [results, Try.results26, go_sem, n0, n1, n2, n3, hbn, hbn2]) rfl ⟨_, by unfold paintStepM; rw [HV.out, if_pos rfl, HYY.out], ?_, ?_⟩
              · unfold paintStepM
                rw [HV.out, if_pos rfl, HYY.out]
                have h9 := HPS.out.opt
                simp only [List.length_set] at h9
                exact (((((h9).setlt (by simp; omega) _).setlt (by simp; omega) _).setlt (by simp; omega) _).setlt (by simp; omega) _).lo_ (by omega)
              · exact ((((hw4.setCell (by simp; omega) _).setCell (by simp) _).setCell (by simp) _).setCell (by simp) _).setCell (by simp) _
        · have hx' : (x == 1) = false := by simpa using hx
          have HN2 : Hid (noneB isGrey p.colours (k + 1)) := noneB_succ HNB.out gx hx'
          clear gx c1 c3 hx
          go_wp2
          go_round
          case rel => exact ⟨k + 1, by omega, by go_num, HN2⟩
          case measure => simp [intOf]; omega
      · have hke : k = p.colours.length := by omega
        have HNB2 := HNB.out
        rw [hke] at HNB2
        have HN := Lib.hid (stepP_none HNB2)
        have q1 := H.out.q1
        have q3 := H.out.q3
        have n0 := cell_below (MC.out 0 (by omega)) hB3
        have n1 := cell_below (MC.out 1 (by omega)) hB3
        have n2 := cell_below (MC.out 2 (by omega)) hB3
        have n3 := cell_below m3 hB3
        have nf : ∀ o, (w2.alloc (.cells #[.slice B p.store.cells.length d, .slice B' p.store.roots.length d', .slice B2 p.colours.length d2, .bool p.active] 28)).frozen? ⟨w.heap.size + 1, o, none⟩ = false := fun o => ((bcell hB3).2.1 _ _ (by omega)).trans (MF.out o)
        have nf0 := nf 0
        have nf1 := nf 1
        have nf2 := nf 2
        have nf3 := nf 3
        have hw4 := HB1.trans (hB3.mono hz1)
        clear hke HNB2 nf hrf hB1 hbc hbf hB2
        go_wp2
        refine bodyPost_ret (v := .tuple #[.agg #[.slice B p.store.cells.length d, .slice B' p.store.roots.length d', .slice B2 p.colours.length d2, .bool p.active], .bool false]) (by simp [results, Try.results26, go_sem, n0, n1, n2, n3]) rfl ⟨_, by unfold paintStepM; rw [HV.out, if_pos rfl, HN.out], ?_, (((hw4.setCell (by simp) _).setCell (by simp) _).setCell (by simp) _).setCell (by simp) _⟩
        unfold paintStepM
        rw [HV.out, if_pos rfl, HN.out]
        exact (((((H.out.opt).setlt (by simp; omega) _).setlt (by simp; omega) _).setlt (by simp; omega) _).setlt (by simp; omega) _).lo_ (by omega)
end Go.Proofs.Ytopbngfghpgbnaa
