/- PaintStep: the program's step and PaintStep, and the reference's PaintStep, do what stepP and paintStepM say. -/
import Derived.Test.YtmlgndeihfpfgaaChecked
import Derived.Test.YtmlgndeihfpfgaaPaintSt
namespace Go.Proofs.Ytmlgndeihfpfgaa
open Go.RowKit
set_option maxRecDepth 100000
set_option linter.unusedSimpArgs false
set_option linter.unusedVariables false
theorem stepP_none {p : PaintM} (h : noneB isGrey p.colours p.colours.length) : stepP p = (p, false) := by unfold stepP; rw [firstB_none h]
theorem stepP_some {p : PaintM} {k : Nat} {c : CellM} (h : noneB isGrey p.colours k) (hk : p.colours[k]? = some 1) (hc : p.store.cells[k]? = some c) : stepP p = (⟨p.store, (greyL p.colours c.refs).set k 2, p.active⟩, true) := by
  unfold stepP; rw [firstB_some h hk rfl]; simp only [refsAt_of hc]
theorem paint_idle {p : PaintM} (h : paintM p = true) (ha : p.active = false) : noneB isGrey p.colours p.colours.length := by
  intro i hi y hy
  have h2 := (paintM_parts h).2
  unfold paintM at h
  simp only [Bool.and_eq_true] at h
  have hc := List.getElem?_eq_getElem (l := p.store.cells) (i := i) (by omega)
  have h3 := List.all_eq_true.1 h.1.2 (y, p.store.cells[i]'(by omega)) (List.mem_of_getElem? (i := i) (by rw [List.getElem?_zip_eq_some]; exact ⟨hy, hc⟩))
  unfold cellPaint at h3
  rw [ha] at h3
  simp at h3
  unfold isGrey
  rcases h3 with ⟨⟨_, h3⟩, _⟩
  simp [h3]
theorem stepP_len (p : PaintM) : (stepP p).1.store = p.store ∧ (stepP p).1.colours.length = p.colours.length := by
  unfold stepP
  split
  · exact ⟨rfl, rfl⟩
  · exact ⟨rfl, by simp only [List.length_set, greyL_len]⟩
set_option maxHeartbeats 4000000 in
theorem pstep_any (lo g : Nat) (p : PaintM) (A A' A2 : Option Addr) (c c' c2 : Nat) (os : List OCell) (w : World) (h : PPx lo w g p A c A' c' os A2 c2) (hl : p.colours.length = p.store.cells.length) (hl40 : p.colours.length ≤ 40)
    (hlt : ∀ d ∈ p.store.cells, ∀ r ∈ d.refs, r < p.colours.length) (hidle : p.active = false → noneB isGrey p.colours p.colours.length) :
    Calls Try.prog 92 #[.pointer (some ⟨g, 0, none⟩)] w fun e w' => e = .returned (.bool (stepP p).2) ∧ PPx lo w' g (stepP p).1 A c A' c' os A2 c2 ∧ Only (g :: blk A2) w w' := by
  have q0 := h.q0
  have q2 := h.q2
  have q3 := h.q3
  have hcs := h.cs
  have hcl := h.cl
  have H := Lib.hid h
  have HL := Lib.hid hl
  have HLT := Lib.hid hlt
  have hrf := hcs.rf
  cases ha : p.active
  · rw [ha] at q3
    have HN := Lib.hid (stepP_none (hidle ha))
    clear h hlt hl hidle hcs
    go_enter Try.func92, Try.ntmps92
    go_wp2
    go_loop [10] (fun i => ∃ k : Nat, k ≤ p.colours.length ∧ i = .int .i64 k) (fun i => p.colours.length - (intOf i).toNat)
    case atStart => exact ⟨0, by omega, rfl⟩
    case round =>
      obtain ⟨k, hk, rfl⟩ := hrel
      by_cases hlt : k < p.colours.length
      · obtain ⟨b, o, x, rfl, gx, c1, hb⟩ := hrf.at_ hlt
        have c1' : w.cell? ⟨b, o + k, none⟩ = some (.int .i64 x) := c1
        clear gx c1
        go_wp2
        go_round
        case rel => exact ⟨k + 1, by omega, by go_num⟩
        case measure => simp [intOf]; omega
      · have hke : k = p.colours.length := by omega
        clear hke
        go_wp2
        go_ret
        exact ⟨ret_bool (by rw [HN.out]), by rw [HN.out]; exact H.out, Only.refl _ _⟩
  · rw [ha] at q3
    have HA := Lib.hid ha
    clear h hlt hl hidle ha
    go_enter Try.func92, Try.ntmps92
    go_wp2
    go_loop [10] (fun i => ∃ k : Nat, k ≤ p.colours.length ∧ i = .int .i64 k ∧ Hid (noneB isGrey p.colours k)) (fun i => p.colours.length - (intOf i).toNat)
    case atStart => exact ⟨0, by omega, rfl, noneB_zero _ _⟩
    case round =>
      obtain ⟨k, hk, rfl, HNB⟩ := hrel
      by_cases hlt : k < p.colours.length
      · have hkc : k < os.length := by have := HL.out; have := congrArg List.length H.out.map; simp at this; omega
        obtain ⟨b, o, x, rfl, gx, c1, hb⟩ := hrf.at_ hlt
        have c1' : w.cell? ⟨b, o + k, none⟩ = some (.int .i64 x) := c1
        rcases Classical.em (x = 1) with hx | hx
        · subst hx
          obtain ⟨gc, rfl, d0, d1, d2, hgc⟩ := H.out.own.cells.at_ (List.getElem?_eq_getElem hkc)
          have hcell : p.store.cells[k]? = some os[k].c := by rw [← H.out.map, List.getElem?_map, List.getElem?_eq_getElem hkc]; rfl
          have HS := Lib.hid (stepP_some HNB.out gx hcell)
          have hmem : os[k] ∈ os := List.getElem_mem hkc
          obtain ⟨hro, hrl⟩ := H.out.own.cells.2 _ hmem
          have hltr := HLT.out _ (List.mem_of_getElem? hcell)
          have hdj : ∀ b' ∈ blk os[k].A, b' ∉ blk (some ⟨b, o, none⟩) := fun b' hb' => H.out.g1 b' (List.mem_append.2 (.inl (List.mem_append.2 (.inr (mem_blks hmem hb')))))
          have HR : Hid (∀ W, Only (blk (some ⟨b, o, none⟩)) w W → RF fi W os[k].A os[k].c.refs) := fun W hW => (hro.only hW hdj).rf
          have HLTR := Lib.hid hltr
          have hg2 := H.out.g2
          have hkc2 : k < p.store.cells.length := by have := HL.out; omega
          obtain ⟨q2', hq2', hq2s⟩ := hcs.some_ hlt
          injection hq2' with hq2'
          injection hq2' with hb' ho'
          subst hb'; subst ho'
          have c3 : w.cell? ⟨b, k, none⟩ = some (.int .i64 1) := hcs.cell gx
          generalize os[k] = oo at *
          clear gx c1 hdj hmem hltr hcell hro
          go_wp2_with fail
          refine (grey_any g _ oo.A c2 oo.cap p.colours oo.c.refs _ q2 hcs hg2 HR.out hrl HLTR.out hcl).mono ?_
          rintro e w1 ⟨rfl, hO, hOn⟩
          have k2 := hOn.cell q2 hg2
          have hgl : (greyL p.colours oo.c.refs).length = p.colours.length := greyL_len _ _
          have hk1 : k < (greyL p.colours oo.c.refs).length := by omega
          have m2 := hO.cell (List.getElem?_eq_getElem hk1)
          have f2 := hO.frozen k
          have HGL := Lib.hid hgl
          clear hgl
          go_wp2
          go_ret
          rw [HS.out]
          refine ⟨rfl, ?_, (hOn.setCell (.inl (by simp [blk])) _).mono fun b hb => List.mem_cons_of_mem _ hb⟩
          exact H.out.paint (hO.set_ k 2) (by rw [List.length_set, HGL.out]) (hOn.setCell (.inl (by simp [blk])) _)
        · have hx' : (x == 1) = false := by simpa using hx
          have HN2 : Hid (noneB isGrey p.colours (k + 1)) := noneB_succ HNB.out gx hx'
          clear gx c1 hx
          go_wp2
          go_round
          case rel => exact ⟨k + 1, by omega, by go_num, HN2⟩
          case measure => simp [intOf]; omega
      · have hke : k = p.colours.length := by omega
        have HNB2 := HNB.out
        rw [hke] at HNB2
        have HN := Lib.hid (stepP_none HNB2)
        clear hke HNB2
        go_wp2
        go_ret
        exact ⟨ret_bool (by rw [HN.out]), by rw [HN.out]; exact H.out, Only.refl _ _⟩
end Go.Proofs.Ytmlgndeihfpfgaa
