/- The reference's order in which cells are met, and new numbers. -/
import Derived.Test.YtkmfhadanbfadaaChecked
import Derived.Deep.DeepCutAuto
import Derived.IntWalk
import Derived.Test.YtkmfhadanbfadaaGrClo
import Derived.Test.YtkmfhadanbfadaaGrData
import Derived.Test.YtkmfhadanbfadaaSmall
namespace Go.Proofs.Ytkmfhadanbfadaa
open Go.RowKit
set_option maxRecDepth 100000
set_option linter.unusedSimpArgs false
set_option linter.unusedVariables false
theorem ord_start {h : HeapM} (hv : validM h = true) {us : List Bool} {wk : List Int} (e : (us, wk) = visBL (List.replicate h.cells.length false, []) h.roots) : (getB us, wk) = ordIt (refsAt h) nonneg h.roots 0 := by
  have h1 := visBL_vis h.roots (List.replicate h.cells.length false, []) (fun r hr => by simp; exact (validM_lt hv).2 r hr)
  rw [← e] at h1
  simp only [getB_rep] at h1
  exact h1
theorem ord_round {h : HeapM} (hv : validM h = true) {us us' : List Bool} {wk wk' : List Int} {j : Nat} {r : Int} (hl : us.length = h.cells.length) (hs : (getB us, wk) = ordIt (refsAt h) nonneg h.roots j) (hr : wk[j]? = some r) (e : (us', wk') = visBL (us, wk) (refsAt h r.toNat)) : (getB us', wk') = ordIt (refsAt h) nonneg h.roots (j + 1) := by
  have h2 : (ordIt (refsAt h) nonneg h.roots j).2[j]? = some r := by rw [← hs]; exact hr
  rw [ordIt_next h2, ← hs]
  have h1 := visBL_vis (refsAt h r.toNat) (us, wk) (fun x hx => by simp only [hl]; exact leadsM_lt (refsAt_leads hv _ x hx))
  rw [← e] at h1
  exact h1
theorem ord_stop {h : HeapM} (hv : validM h = true) {us : List Bool} {wk : List Int} {j : Nat} (hs : (getB us, wk) = ordIt (refsAt h) nonneg h.roots j) (hj : j = wk.length) : wk = orderM h := by
  have h1 : (ordIt (refsAt h) nonneg h.roots j).2 = wk := by rw [← hs]
  have := ord_end hv (i := j) (by rw [h1, hj])
  rw [← this, h1]
theorem ord_len {h : HeapM} (hv : validM h = true) {us : List Bool} {wk : List Int} {j : Nat} (hs : (getB us, wk) = ordIt (refsAt h) nonneg h.roots j) : wk.length ≤ h.cells.length := by
  have := (ord_ok hv j).le
  rw [← hs] at this
  simp only at this
  omega
theorem ord_at {h : HeapM} (hv : validM h = true) {us : List Bool} {wk : List Int} {j i : Nat} (hl : us.length = h.cells.length) (hs : (getB us, wk) = ordIt (refsAt h) nonneg h.roots j) {r : Int} (hr : wk[i]? = some r) : ∃ k : Nat, r = (k : Int) ∧ k < h.cells.length := by
  have hm := (ord_ok hv j).met r (by rw [← hs]; exact List.mem_of_getElem? hr)
  have h0 : 0 ≤ r := by simpa [nonneg] using hm.1
  obtain ⟨k, rfl⟩ := Int.eq_ofNat_of_zero_le h0
  refine ⟨k, rfl, ?_⟩
  have h2 := hm.2
  rw [← hs] at h2
  rcases Nat.lt_or_ge k us.length with h4 | h4
  · rw [← hl]; exact h4
  · simp only [Int.toNat_natCast] at h2
    unfold getB at h2; rw [getD_len h4] at h2; cases h2
set_option maxHeartbeats 4000000 in
theorem l9Order_any (v : Value) (h : HeapM) (w : World) (hv : RH w v h) (hva : validM h = true) :
    Calls Try.prog 166 #[v] w fun e w' => ∃ S c, e = .returned (.slice S (orderM h).length c) ∧ OF 3 fi w' S c (orderM h) ∧ (∀ b ∈ blk S, w.heap.size ≤ b) ∧ Below w.heap.size w w' := by
  obtain ⟨A, c, A', c', rfl, hc, hr, hl1, hl2⟩ := hv
  obtain ⟨v1, v2_, v3⟩ := valid_small hva
  have v2 : h.roots.length ≤ 4 := by omega
  obtain ⟨lt1, lt2⟩ := validM_lt hva
  have HVA := Lib.hid hva
  have HLT1 := Lib.hid lt1
  have HLT := Lib.hid lt2
  have HV3 := Lib.hid v3
  have HR := Lib.hid hr
  have HC := Lib.hid hc
  have hmk := mk_bools h.cells.length (by omega)
  clear lt1 lt2 v3 v2_ hva hr hc
  go_enter Try.func166, Try.ntmps166
  go_wp2_with fail
  have hU0 : OF 4 fb ((((w.alloc (.cells #[.slice A h.cells.length c, .slice A' h.roots.length c'] 32)).alloc (.cells #[] 3)).alloc (.cells (rowF fb (List.replicate h.cells.length false)) 4))) (some ⟨w.heap.size + 1 + 1, 0, none⟩) h.cells.length (List.replicate h.cells.length false) := OF.of_blkn (by simp) (heap_alloc_at _ _ _ (by simp)) (by simp only [maxLen, List.length_replicate]; omega)
  have hK0 : OF 3 fi ((((w.alloc (.cells #[.slice A h.cells.length c, .slice A' h.roots.length c'] 32)).alloc (.cells #[] 3)).alloc (.cells (rowF fb (List.replicate h.cells.length false)) 4))) (some ⟨w.heap.size + 1, 0, none⟩) 0 ([] : List Int) := OF.new0 (by rw [Below.heap_alloc _ _ _ (by first | omega | (simp; done) | (simp; omega))]; exact heap_alloc_at _ _ _ (by simp))
  have hX0 : Below w.heap.size w ((((w.alloc (.cells #[.slice A h.cells.length c, .slice A' h.roots.length c'] 32)).alloc (.cells #[] 3)).alloc (.cells (rowF fb (List.replicate h.cells.length false)) 4))) := (by repeat (first | ((with_reducible refine Below.setc ?_ ?_ _); focus (first | omega | (simp; done) | (simp; omega))) | ((with_reducible refine Below.allocc ?_ ?_ _); focus (first | omega | (simp; done) | (simp; omega))) | (with_reducible refine Below.drew ?_) | (with_reducible refine Below.drewn ?_) | (with_reducible assumption) | (with_reducible exact Below.refl _ _) | ((with_reducible refine Below.stepp (by with_reducible assumption) ?_ ?_); focus (first | omega | (simp; done) | (simp; omega)))))
  have kb0 : ((((w.alloc (.cells #[.slice A h.cells.length c, .slice A' h.roots.length c'] 32)).alloc (.cells #[] 3)).alloc (.cells (rowF fb (List.replicate h.cells.length false)) 4))).cell? ⟨w.heap.size, 0, none⟩ = some (.slice A h.cells.length c) := by simp [go_sem]
  have kc0 : ((((w.alloc (.cells #[.slice A h.cells.length c, .slice A' h.roots.length c'] 32)).alloc (.cells #[] 3)).alloc (.cells (rowF fb (List.replicate h.cells.length false)) 4))).cell? ⟨w.heap.size, 1, none⟩ = some (.slice A' h.roots.length c') := by simp [go_sem]
  have hz0 : ((((w.alloc (.cells #[.slice A h.cells.length c, .slice A' h.roots.length c'] 32)).alloc (.cells #[] 3)).alloc (.cells (rowF fb (List.replicate h.cells.length false)) 4))).heap.size = w.heap.size + 3 := by simp
  generalize ((((w.alloc (.cells #[.slice A h.cells.length c, .slice A' h.roots.length c'] 32)).alloc (.cells #[] 3)).alloc (.cells (rowF fb (List.replicate h.cells.length false)) 4))) = W0 at *
  have HU0 := Lib.hid hU0
  have HK0 := Lib.hid hK0
  clear hU0 hK0
  go_loopw [3, 5] (fun s6 i wr => ∃ (j : Nat) (us : List Bool) (S : Option Addr) (cS : Nat) (wk : List Int), j ≤ h.roots.length ∧ i = .int .i64 j ∧ s6 = .slice S wk.length cS ∧ Hid ((us, wk) = visBL (List.replicate h.cells.length false, []) (h.roots.take j)) ∧ Hid (OF 4 fb wr (some ⟨w.heap.size + 1 + 1, 0, none⟩) h.cells.length us) ∧ Hid (OF 3 fi wr S cS wk) ∧ Hid (∀ b ∈ blk S, w.heap.size + 1 ≤ b ∧ b ≠ w.heap.size + 1 + 1) ∧ wr.cell? ⟨w.heap.size, 0, none⟩ = some (.slice A h.cells.length c) ∧ wr.cell? ⟨w.heap.size, 1, none⟩ = some (.slice A' h.roots.length c') ∧ w.heap.size + 3 ≤ wr.heap.size ∧ Below w.heap.size w wr) (fun _ i _ => h.roots.length - (intOf i).toNat)
  case atStart => exact ⟨0, List.replicate h.cells.length false, _, _, [], by omega, rfl, rfl, rfl, HU0, HK0, fun b hb => (by have := mem_blk_some hb; omega), kb0, kc0, by omega, hX0⟩
  case round =>
    obtain ⟨j, us, S, cS, wk, hj, rfl, rfl, HQ, HU, HK, HSL, kb, kc, hzr, hBr⟩ := hrel
    have hul : us.length = h.cells.length := by have := visBL_len (h.roots.take j) (List.replicate h.cells.length false, []); rw [← HQ.out] at this; simpa using this
    have hwl : wk.length ≤ 1048576 := by have := visBL_len2 (h.roots.take j) (List.replicate h.cells.length false, []); rw [← HQ.out, List.length_take] at this; simp only [List.length_nil] at this; omega
    have HGB : Hid (w.heap.size + 1 + 1 ∉ blk S) := fun hc => (HSL.out _ hc).2 rfl
    have HBS : Hid (w.heap.size ∉ blk S) := fun hc => by have := HSL.out _ hc; omega
    by_cases hlt : j < h.roots.length
    · obtain ⟨b, o, r, rfl, gr, c1, hb⟩ := HR.out.at_ hlt
      have c1' : wr.cell? ⟨b, o + j, none⟩ = some (.int .i64 r) := cell_below c1 hBr
      have hbn : b ≠ w.heap.size + 1 + 1 := by omega
      have hbn2 : w.heap.size + 1 + 1 ≠ b := by omega
      have hrn := HLT.out r (List.mem_of_getElem? gr)
      have HS := Lib.hid (visBL_snoc (st := (List.replicate h.cells.length false, [])) gr)
      clear gr c1
      rcases Classical.em (r < 0) with h0 | h0
      · have HN : Hid ((us, wk) = visBL (List.replicate h.cells.length false, []) (h.roots.take (j + 1))) := by unfold Hid; rw [HS.out, ← HQ.out, visB_neg h0]
        go_wp2
        go_roundw
        case rel => exact ⟨j + 1, us, S, cS, wk, by omega, by go_num, rfl, HN, HU, HK, HSL, kb, kc, hzr, hBr⟩
        case measure => simp [intOf]; omega
      have hr0 : 0 ≤ r := by omega
      have hrl2 : r.toNat < us.length := by omega
      have hu := List.getElem?_eq_getElem hrl2
      obtain ⟨x, hx⟩ : ∃ x, x = us[r.toNat] := ⟨_, rfl⟩
      rw [← hx] at hu
      have m2 : wr.cell? ⟨w.heap.size + 1 + 1, r.toNat, none⟩ = some (.bool x) := HU.out.cell hu
      have f2 := HU.out.frozen r.toNat
      clear hx h0
      rcases bool_ft x with rfl | rfl
      · have HN : Hid ((us.set r.toNat true, wk ++ [r]) = visBL (List.replicate h.cells.length false, []) (h.roots.take (j + 1))) := by unfold Hid; rw [HS.out, ← HQ.out, visB_new hr0 hu]
        have HU2 : Hid (OF 4 fb (wr.setCell ⟨w.heap.size + 1 + 1, r.toNat, none⟩ (.bool true)) (some ⟨w.heap.size + 1 + 1, 0, none⟩) h.cells.length (us.set r.toNat true)) := HU.out.set_ r.toNat true; have HK2 : Hid (OF 3 fi (wr.setCell ⟨w.heap.size + 1 + 1, r.toNat, none⟩ (.bool true)) S cS wk) := HK.out.ne_ HGB.out; have kbs : (wr.setCell ⟨w.heap.size + 1 + 1, r.toNat, none⟩ (.bool true)).cell? ⟨w.heap.size, 0, none⟩ = some (.slice A h.cells.length c) := (by simp [go_sem, kb]); have kcs : (wr.setCell ⟨w.heap.size + 1 + 1, r.toNat, none⟩ (.bool true)).cell? ⟨w.heap.size, 1, none⟩ = some (.slice (some ⟨b, o, none⟩) h.roots.length c') := (by simp [go_sem, kc])
        clear hu
        go_wp2_with (at_builtin; (refine wpList_appi rfl (.tmp 40) (.tmp 42) rfl wk rfl rfl (HK2.out.below (by repeat (first | ((with_reducible refine Below.setc ?_ ?_ _); focus (first | omega | (simp; done) | (simp; omega))) | ((with_reducible refine Below.allocc ?_ ?_ _); focus (first | omega | (simp; done) | (simp; omega))) | (with_reducible refine Below.drew ?_) | (with_reducible refine Below.drewn ?_) | (with_reducible assumption) | (with_reducible exact Below.refl _ _) | ((with_reducible refine Below.stepp (by with_reducible assumption) ?_ ?_); focus (first | omega | (simp; done) | (simp; omega)))))) (RF.singR (x := r) (by simp [go_sem, fi])) (by simp; omega) ?_); intro S2 c2 w3 hO3 hOn3 hg3; have kb3 := hOn3.cell (cell_below kbs (by repeat (first | ((with_reducible refine Below.setc ?_ ?_ _); focus (first | omega | (simp; done) | (simp; omega))) | ((with_reducible refine Below.allocc ?_ ?_ _); focus (first | omega | (simp; done) | (simp; omega))) | (with_reducible refine Below.drew ?_) | (with_reducible refine Below.drewn ?_) | (with_reducible assumption) | (with_reducible exact Below.refl _ _) | ((with_reducible refine Below.stepp (by with_reducible assumption) ?_ ?_); focus (first | omega | (simp; done) | (simp; omega)))))) HBS.out; have kc3 := hOn3.cell (cell_below kcs (by repeat (first | ((with_reducible refine Below.setc ?_ ?_ _); focus (first | omega | (simp; done) | (simp; omega))) | ((with_reducible refine Below.allocc ?_ ?_ _); focus (first | omega | (simp; done) | (simp; omega))) | (with_reducible refine Below.drew ?_) | (with_reducible refine Below.drewn ?_) | (with_reducible assumption) | (with_reducible exact Below.refl _ _) | ((with_reducible refine Below.stepp (by with_reducible assumption) ?_ ?_); focus (first | omega | (simp; done) | (simp; omega)))))) HBS.out; have hU3 : Hid (OF 4 fb w3 (some ⟨w.heap.size + 1 + 1, 0, none⟩) h.cells.length (us.set r.toNat true)) := OF.only (OF.below HU2.out (by repeat (first | ((with_reducible refine Below.setc ?_ ?_ _); focus (first | omega | (simp; done) | (simp; omega))) | ((with_reducible refine Below.allocc ?_ ?_ _); focus (first | omega | (simp; done) | (simp; omega))) | (with_reducible refine Below.drew ?_) | (with_reducible refine Below.drewn ?_) | (with_reducible assumption) | (with_reducible exact Below.refl _ _) | ((with_reducible refine Below.stepp (by with_reducible assumption) ?_ ?_); focus (first | omega | (simp; done) | (simp; omega)))))) hOn3 (fun b9 hb9 hc9 => HGB.out (by rw [mem_blk_some hb9] at hc9; exact hc9)); have hB3 : Below w.heap.size w w3 := Below.trans (by repeat (first | ((with_reducible refine Below.setc ?_ ?_ _); focus (first | omega | (simp; done) | (simp; omega))) | ((with_reducible refine Below.allocc ?_ ?_ _); focus (first | omega | (simp; done) | (simp; omega))) | (with_reducible refine Below.drew ?_) | (with_reducible refine Below.drewn ?_) | (with_reducible assumption) | (with_reducible exact Below.refl _ _) | ((with_reducible refine Below.stepp (by with_reducible assumption) ?_ ?_); focus (first | omega | (simp; done) | (simp; omega))))) (hOn3.below (by simp; omega) (fun b9 hb9 => Nat.le_trans (by omega) (HSL.out b9 hb9).1)); have HSL3 : Hid (∀ b9 ∈ blk S2, w.heap.size + 1 ≤ b9 ∧ b9 ≠ w.heap.size + 1 + 1) := (fun b9 hb9 => by rcases hg3 b9 hb9 with h9 | h9; exact HSL.out b9 h9; simp at h9; omega); have HK3 := Lib.hid hO3; have hOn3s : w.heap.size + 3 ≤ w3.heap.size := Nat.le_trans (by simp; omega) hOn3.size; clear hO3 hOn3 hg3)
        go_roundw
        case rel => exact ⟨j + 1, _, S2, c2, wk ++ [r], by omega, by go_num, by simp, HN, hU3, HK3, HSL3, kb3, kc3, by have := hOn3s; omega, hB3⟩
        case measure => simp [intOf]; omega
      · have HN : Hid ((us, wk) = visBL (List.replicate h.cells.length false, []) (h.roots.take (j + 1))) := by unfold Hid; rw [HS.out, ← HQ.out, visB_met hu]
        clear hu
        go_wp2
        go_roundw
        case rel => exact ⟨j + 1, us, S, cS, wk, by omega, by go_num, rfl, HN, HU, HK, HSL, kb, kc, hzr, hBr⟩
        case measure => simp [intOf]; omega
    · have hje : j = h.roots.length := by omega
      have HOI := Lib.hid (ord_start HVA.out (us := us) (wk := wk) (by have := HQ.out; rw [hje, List.take_length] at this; exact this))
      have HUL := Lib.hid hul
      clear hul hje HQ
      go_wp2
      go_loopw [3, 7] (fun s6 i wr => ∃ (j : Nat) (us : List Bool) (S : Option Addr) (cS : Nat) (wk : List Int), j ≤ wk.length ∧ i = .int .i64 j ∧ s6 = .slice S wk.length cS ∧ Hid ((getB us, wk) = ordIt (refsAt h) nonneg h.roots j) ∧ Hid (us.length = h.cells.length) ∧ Hid (OF 4 fb wr (some ⟨w.heap.size + 1 + 1, 0, none⟩) h.cells.length us) ∧ Hid (OF 3 fi wr S cS wk) ∧ Hid (∀ b ∈ blk S, w.heap.size + 1 ≤ b ∧ b ≠ w.heap.size + 1 + 1) ∧ wr.cell? ⟨w.heap.size, 0, none⟩ = some (.slice A h.cells.length c) ∧ wr.cell? ⟨w.heap.size, 1, none⟩ = some (.slice A' h.roots.length c') ∧ w.heap.size + 3 ≤ wr.heap.size ∧ Below w.heap.size w wr) (fun _ i _ => 40 - (intOf i).toNat)
      case atStart => exact ⟨0, us, S, cS, wk, by omega, rfl, rfl, HOI, HUL, HU, HK, HSL, kb, kc, hzr, hBr⟩
      case round =>
        clear HOI HUL HU HK HSL kb kc hzr hBr HGB HBS hwl hlt
        obtain ⟨j0, us0, S0, cS0, wk0, hj, rfl, rfl, HOI, HUL, HU, HK, HSL, kb, kc, hzr, hBr⟩ := hrel
        have hwl : wk0.length ≤ 40 := by have := ord_len HVA.out HOI.out; omega
        by_cases hlt : j0 < wk0.length
        · have hwj := List.getElem?_eq_getElem hlt
          obtain ⟨r, hr⟩ : ∃ r, r = wk0[j0] := ⟨_, rfl⟩
          rw [← hr] at hwj
          clear hr
          obtain ⟨k, rfl, hkn⟩ := ord_at HVA.out HUL.out HOI.out hwj
          obtain ⟨q, rfl, hq⟩ := HK.out.some_ hlt
          have mq : wr.cell? ⟨q, j0, none⟩ = some (.int .i64 (k : Int)) := HK.out.cell hwj
          obtain ⟨b, o, cc, Ac, cr2, rfl, gc, -, -, d2, hrr, hrl2, hb⟩ := HC.out.at_ hkn
          have d2' := cell_below d2 hBr
          have HRR := Lib.hid hrr
          have HCR := Lib.hid (refsAt_of gc)
          have hrl3 := HV3.out cc (List.mem_of_getElem? gc)
          have HLT3 := Lib.hid (HLT1.out cc (List.mem_of_getElem? gc))
          have HWJ := Lib.hid hwj
          clear hwj gc hrr d2
          go_wp2
          go_quiet (fail)
          go_wp2
          go_loopw [3, 9] (fun s6 i wr => ∃ (j : Nat) (us : List Bool) (S : Option Addr) (cS : Nat) (wk : List Int), j ≤ cc.refs.length ∧ i = .int .i64 j ∧ s6 = .slice S wk.length cS ∧ Hid ((us, wk) = visBL (us0, wk0) (cc.refs.take j)) ∧ Hid (OF 4 fb wr (some ⟨w.heap.size + 1 + 1, 0, none⟩) h.cells.length us) ∧ Hid (OF 3 fi wr S cS wk) ∧ Hid (∀ b ∈ blk S, w.heap.size + 1 ≤ b ∧ b ≠ w.heap.size + 1 + 1) ∧ wr.cell? ⟨w.heap.size, 0, none⟩ = some (.slice (some ⟨b, o, none⟩) h.cells.length c) ∧ wr.cell? ⟨w.heap.size, 1, none⟩ = some (.slice A' h.roots.length c') ∧ w.heap.size + 3 ≤ wr.heap.size ∧ Below w.heap.size w wr) (fun _ i _ => cc.refs.length - (intOf i).toNat)
          case atStart => exact ⟨0, us0, _, _, wk0, by omega, rfl, rfl, rfl, HU.out.below (Below.drewn (Below.refl _ _)), HK.out.below (Below.drewn (Below.refl _ _)), HSL, cell_below kb (Below.drewn (Below.refl _ _)), cell_below kc (Below.drewn (Below.refl _ _)), hzr, Below.drewn hBr⟩
          case round =>
            clear HU HK HSL kb kc hzr hBr mq d2'
            obtain ⟨j, us, S, cS, wk, hj2, rfl, rfl, HQ, HU, HK, HSL, kb, kc, hzr, hBr⟩ := hrel
            have hul : us.length = h.cells.length := by have := visBL_len (cc.refs.take j) (us0, wk0); rw [← HQ.out] at this; exact this.trans HUL.out
            have hwl2 : wk.length ≤ 1048576 := by have := visBL_len2 (cc.refs.take j) (us0, wk0); rw [← HQ.out, List.length_take] at this; simp only at this; omega
            have HGB : Hid (w.heap.size + 1 + 1 ∉ blk S) := fun hc => (HSL.out _ hc).2 rfl
            have HBS : Hid (w.heap.size ∉ blk S) := fun hc => by have := HSL.out _ hc; omega
            by_cases hlt2 : j < cc.refs.length
            · obtain ⟨b2, o2, r, rfl, gr, c1, hb2⟩ := HRR.out.at_ hlt2
              have c1' : wr.cell? ⟨b2, o2 + j, none⟩ = some (.int .i64 r) := cell_below c1 hBr
              have hbn : b2 ≠ w.heap.size + 1 + 1 := by omega
              have hbn2 : w.heap.size + 1 + 1 ≠ b2 := by omega
              have hrn := HLT3.out r (List.mem_of_getElem? gr)
              have HS := Lib.hid (visBL_snoc (st := (us0, wk0)) gr)
              clear gr c1
              rcases Classical.em (r < 0) with h0 | h0
              · have HN : Hid ((us, wk) = visBL (us0, wk0) (cc.refs.take (j + 1))) := by unfold Hid; rw [HS.out, ← HQ.out, visB_neg h0]
                go_wp2
                go_roundw
                case rel => exact ⟨j + 1, us, S, cS, wk, by omega, by go_num, rfl, HN, HU, HK, HSL, kb, kc, hzr, hBr⟩
                case measure => simp [intOf]; omega
              have hr0 : 0 ≤ r := by omega
              have hrl4 : r.toNat < us.length := by omega
              have hu := List.getElem?_eq_getElem hrl4
              obtain ⟨x, hx⟩ : ∃ x, x = us[r.toNat] := ⟨_, rfl⟩
              rw [← hx] at hu
              have m2 : wr.cell? ⟨w.heap.size + 1 + 1, r.toNat, none⟩ = some (.bool x) := HU.out.cell hu
              have f2 := HU.out.frozen r.toNat
              clear hx h0
              rcases bool_ft x with rfl | rfl
              · have HN : Hid ((us.set r.toNat true, wk ++ [r]) = visBL (us0, wk0) (cc.refs.take (j + 1))) := by unfold Hid; rw [HS.out, ← HQ.out, visB_new hr0 hu]
                have HU2 : Hid (OF 4 fb (wr.setCell ⟨w.heap.size + 1 + 1, r.toNat, none⟩ (.bool true)) (some ⟨w.heap.size + 1 + 1, 0, none⟩) h.cells.length (us.set r.toNat true)) := HU.out.set_ r.toNat true; have HK2 : Hid (OF 3 fi (wr.setCell ⟨w.heap.size + 1 + 1, r.toNat, none⟩ (.bool true)) S cS wk) := HK.out.ne_ HGB.out; have kbs : (wr.setCell ⟨w.heap.size + 1 + 1, r.toNat, none⟩ (.bool true)).cell? ⟨w.heap.size, 0, none⟩ = some (.slice (some ⟨b, o, none⟩) h.cells.length c) := (by simp [go_sem, kb]); have kcs : (wr.setCell ⟨w.heap.size + 1 + 1, r.toNat, none⟩ (.bool true)).cell? ⟨w.heap.size, 1, none⟩ = some (.slice A' h.roots.length c') := (by simp [go_sem, kc])
                clear hu
                go_wp2_with (at_builtin; (refine wpList_appi rfl (.tmp 81) (.tmp 83) rfl wk rfl rfl (HK2.out.below (by repeat (first | ((with_reducible refine Below.setc ?_ ?_ _); focus (first | omega | (simp; done) | (simp; omega))) | ((with_reducible refine Below.allocc ?_ ?_ _); focus (first | omega | (simp; done) | (simp; omega))) | (with_reducible refine Below.drew ?_) | (with_reducible refine Below.drewn ?_) | (with_reducible assumption) | (with_reducible exact Below.refl _ _) | ((with_reducible refine Below.stepp (by with_reducible assumption) ?_ ?_); focus (first | omega | (simp; done) | (simp; omega)))))) (RF.singR (x := r) (by simp [go_sem, fi])) (by simp; omega) ?_); intro S2 c2 w3 hO3 hOn3 hg3; have kb3 := hOn3.cell (cell_below kbs (by repeat (first | ((with_reducible refine Below.setc ?_ ?_ _); focus (first | omega | (simp; done) | (simp; omega))) | ((with_reducible refine Below.allocc ?_ ?_ _); focus (first | omega | (simp; done) | (simp; omega))) | (with_reducible refine Below.drew ?_) | (with_reducible refine Below.drewn ?_) | (with_reducible assumption) | (with_reducible exact Below.refl _ _) | ((with_reducible refine Below.stepp (by with_reducible assumption) ?_ ?_); focus (first | omega | (simp; done) | (simp; omega)))))) HBS.out; have kc3 := hOn3.cell (cell_below kcs (by repeat (first | ((with_reducible refine Below.setc ?_ ?_ _); focus (first | omega | (simp; done) | (simp; omega))) | ((with_reducible refine Below.allocc ?_ ?_ _); focus (first | omega | (simp; done) | (simp; omega))) | (with_reducible refine Below.drew ?_) | (with_reducible refine Below.drewn ?_) | (with_reducible assumption) | (with_reducible exact Below.refl _ _) | ((with_reducible refine Below.stepp (by with_reducible assumption) ?_ ?_); focus (first | omega | (simp; done) | (simp; omega)))))) HBS.out; have hU3 : Hid (OF 4 fb w3 (some ⟨w.heap.size + 1 + 1, 0, none⟩) h.cells.length (us.set r.toNat true)) := OF.only (OF.below HU2.out (by repeat (first | ((with_reducible refine Below.setc ?_ ?_ _); focus (first | omega | (simp; done) | (simp; omega))) | ((with_reducible refine Below.allocc ?_ ?_ _); focus (first | omega | (simp; done) | (simp; omega))) | (with_reducible refine Below.drew ?_) | (with_reducible refine Below.drewn ?_) | (with_reducible assumption) | (with_reducible exact Below.refl _ _) | ((with_reducible refine Below.stepp (by with_reducible assumption) ?_ ?_); focus (first | omega | (simp; done) | (simp; omega)))))) hOn3 (fun b9 hb9 hc9 => HGB.out (by rw [mem_blk_some hb9] at hc9; exact hc9)); have hB3 : Below w.heap.size w w3 := Below.trans (by repeat (first | ((with_reducible refine Below.setc ?_ ?_ _); focus (first | omega | (simp; done) | (simp; omega))) | ((with_reducible refine Below.allocc ?_ ?_ _); focus (first | omega | (simp; done) | (simp; omega))) | (with_reducible refine Below.drew ?_) | (with_reducible refine Below.drewn ?_) | (with_reducible assumption) | (with_reducible exact Below.refl _ _) | ((with_reducible refine Below.stepp (by with_reducible assumption) ?_ ?_); focus (first | omega | (simp; done) | (simp; omega))))) (hOn3.below (by simp; omega) (fun b9 hb9 => Nat.le_trans (by omega) (HSL.out b9 hb9).1)); have HSL3 : Hid (∀ b9 ∈ blk S2, w.heap.size + 1 ≤ b9 ∧ b9 ≠ w.heap.size + 1 + 1) := (fun b9 hb9 => by rcases hg3 b9 hb9 with h9 | h9; exact HSL.out b9 h9; simp at h9; omega); have HK3 := Lib.hid hO3; have hOn3s : w.heap.size + 3 ≤ w3.heap.size := Nat.le_trans (by simp; omega) hOn3.size; clear hO3 hOn3 hg3)
                go_roundw
                case rel => exact ⟨j + 1, _, S2, c2, wk ++ [r], by omega, by go_num, by simp, HN, hU3, HK3, HSL3, kb3, kc3, by have := hOn3s; omega, hB3⟩
                case measure => simp [intOf]; omega
              · have HN : Hid ((us, wk) = visBL (us0, wk0) (cc.refs.take (j + 1))) := by unfold Hid; rw [HS.out, ← HQ.out, visB_met hu]
                clear hu
                go_wp2
                go_roundw
                case rel => exact ⟨j + 1, us, S, cS, wk, by omega, by go_num, rfl, HN, HU, HK, HSL, kb, kc, hzr, hBr⟩
                case measure => simp [intOf]; omega
            · have hje : j = cc.refs.length := by omega
              have HOI2 := Lib.hid (ord_round HVA.out HUL.out HOI.out HWJ.out (us' := us) (wk' := wk) (by have := HQ.out; rw [hje, List.take_length] at this; rw [Int.toNat_natCast, HCR.out]; exact this))
              have hge : wk0.length ≤ wk.length := by have := visBL_ge (cc.refs.take j) (us0, wk0); rw [← HQ.out] at this; exact this
              have HUL2 := Lib.hid hul
              clear hje hul HQ HOI HUL
              go_wp2
              go_roundw
              case rel => exact ⟨j0 + 1, us, S, cS, wk, by omega, by go_num, rfl, HOI2, HUL2, HU, HK, HSL, kb, kc, hzr, hBr⟩
              case measure => simp [intOf]; omega
        · have hje : j0 = wk0.length := by omega
          have HF := Lib.hid (ord_stop HVA.out HOI.out hje)
          clear hje
          go_wp2
          go_ret
          exact ⟨_, _, by rw [← HF.out]; rfl, by rw [← HF.out]; exact HK.out, fun b9 hb9 => by have := HSL.out b9 hb9; omega, hBr⟩
set_option maxHeartbeats 4000000 in
theorem l9Name_any (A : Option Addr) (order : List Int) (c : Nat) (r : Int) (w : World) (hr : RF fi w A order) (hl : order.length ≤ 9223372036854775807) :
    Calls Try.prog 182 #[.slice A order.length c, .int .i64 r] w fun e w' => e = .returned (.int .i64 (nameM order r)) ∧ w = w' := by
  have HR := Lib.hid hr
  clear hr
  go_enter Try.func182, Try.ntmps182
  go_wp2
  go_loopw [5] (fun i wr => ∃ k : Nat, k ≤ order.length ∧ i = .int .i64 k ∧ Hid (noneB (isR r) order k) ∧ wr = w) (fun i _ => order.length - (intOf i).toNat)
  case atStart => exact ⟨0, by omega, rfl, fun i hi => absurd hi (Nat.not_lt_zero _), rfl⟩
  case round =>
    obtain ⟨k, hk, rfl, HA, rfl⟩ := hrel
    by_cases hlt : k < order.length
    · obtain ⟨b, o, x, rfl, gx, m, hb⟩ := HR.out.at_ hlt
      have m2 : wr.cell? ⟨b, o + k, none⟩ = some (.int .i64 x) := m
      have HG := Lib.hid gx
      clear m gx
      rcases Classical.em (x = r) with h1 | h1
      · subst h1
        have HN := Lib.hid (nameM_some HA.out HG.out)
        go_wp2
        go_ret
        exact ⟨by rw [HN.out]; rfl, rfl⟩
      · have HN : Hid (noneB (isR r) order (k + 1)) := fun i hi y hy => by
          rcases Nat.lt_succ_iff_lt_or_eq.1 hi with h2 | h2
          · exact HA.out i h2 y hy
          · subst h2; rw [HG.out] at hy; injection hy with hy; subst hy; unfold isR; simpa using h1
        go_wp2
        go_roundw
        case rel => exact ⟨k + 1, by omega, by go_num, HN, by first | rfl | trivial⟩
        case measure => simp [intOf]; omega
    · have hke : k = order.length := by omega
      have HN : Hid (nameM order r = -1) := nameM_none (by have := HA.out; rw [hke] at this; exact this)
      clear hke
      go_wp2
      go_ret
      exact ⟨by rw [HN.out]; rfl, rfl⟩
end Go.Proofs.Ytkmfhadanbfadaa
