/- Reachability in the reference: l7Reach and Reachable. -/
import Derived.Test.YtkmfhadanbfadaaChecked
import Derived.RegionTactic
import Derived.BigRegion
import Derived.Deep.DeepCutAuto
import Derived.Test.YtkmfhadanbfadaaApp
import Derived.Test.YtkmfhadanbfadaaCopy
import Derived.Test.YtkmfhadanbfadaaGrOwn
import Derived.Test.YtkmfhadanbfadaaGrHeap
import Derived.Test.YtkmfhadanbfadaaGrData
namespace Go.Proofs.Ytkmfhadanbfadaa
open Go.RowKit
set_option maxRecDepth 100000
set_option linter.unusedSimpArgs false
set_option linter.unusedVariables false
theorem RF.singR {α : Type} {f : α → Value} {w : World} {g : Nat} {x : α} (h : w.cell? ⟨g, 0, none⟩ = some (f x)) : RF f w (some ⟨g, 0, none⟩) [x] := fun i hi => by
  obtain rfl : i = 0 := by simp at hi; omega
  exact ⟨g, 0, x, rfl, rfl, h⟩
theorem OF.new0 {α : Type} {T : TypeId} {f : α → Value} {w : World} {q : Nat} (h : w.heap[q]? = some (.cells #[] T (0, 0))) : OF T f w (some ⟨q, 0, none⟩) 0 ([] : List α) :=
  ⟨by simp, .inr ⟨q, 0, #[], rfl, Nat.zero_le _, h, by simp, by simp, by simp, by simp⟩⟩
def visB (st : List Bool × List Int) (r : Int) : List Bool × List Int := if 0 ≤ r ∧ st.1[r.toNat]? = some false then (st.1.set r.toNat true, st.2 ++ [r]) else st
def visBL (st : List Bool × List Int) (rs : List Int) : List Bool × List Int := rs.foldl visB st
theorem visBL_snoc {st : List Bool × List Int} {rs : List Int} {k : Nat} {r : Int} (h : rs[k]? = some r) : visBL st (rs.take (k + 1)) = visB (visBL st (rs.take k)) r := by
  unfold visBL; rw [take_snoc_of h, List.foldl_append]; rfl
theorem visB_neg {st : List Bool × List Int} {r : Int} (h : r < 0) : visB st r = st := by unfold visB; rw [if_neg (by omega)]
theorem visB_met {st : List Bool × List Int} {r : Int} (h : st.1[r.toNat]? = some true) : visB st r = st := by unfold visB; rw [if_neg (by rw [h]; simp)]
theorem visB_new {st : List Bool × List Int} {r : Int} (h0 : 0 ≤ r) (h : st.1[r.toNat]? = some false) : visB st r = (st.1.set r.toNat true, st.2 ++ [r]) := by unfold visB; rw [if_pos ⟨h0, h⟩]
theorem visB_len (st : List Bool × List Int) (r : Int) : (visB st r).1.length = st.1.length := by unfold visB; split <;> simp
theorem visB_len2 (st : List Bool × List Int) (r : Int) : (visB st r).2.length ≤ st.2.length + 1 := by unfold visB; split <;> simp
def getB (l : List Bool) : Nat → Bool := fun k => l.getD k false
theorem getB_set {l : List Bool} {i : Nat} (h : i < l.length) : getB (l.set i true) = fun k => if k = i then true else getB l k := by
  funext k
  unfold getB
  by_cases e : k = i
  · subst e; simp [List.getD, h]
  · have e2 : ¬ i = k := fun h => e h.symm
    simp [List.getD, List.getElem?_set, e, e2]
theorem visB_vis {st : List Bool × List Int} {r : Int} (h : r < st.1.length) : (getB (visB st r).1, (visB st r).2) = vis1 nonneg (getB st.1, st.2) r := by
  by_cases h0 : 0 ≤ r
  · have hl : r.toNat < st.1.length := by omega
    have hx := List.getElem?_eq_getElem hl
    have hg : getB st.1 r.toNat = st.1[r.toNat] := by unfold getB; rw [List.getD, hx]; rfl
    rcases bool_ft (st.1[r.toNat]) with e | e
    · rw [e] at hx hg
      rw [visB_new h0 hx, vis1_yes (by simp [nonneg, h0]) hg, getB_set hl]
    · rw [e] at hx hg
      rw [visB_met hx, vis1_no (.inr hg)]
  · rw [visB_neg (by omega), vis1_no (.inl (by simp [nonneg]; omega))]
theorem visBL_vis (rs : List Int) : ∀ (st : List Bool × List Int), (∀ r ∈ rs, r < st.1.length) → (getB (visBL st rs).1, (visBL st rs).2) = visL nonneg (getB st.1, st.2) rs := by
  induction rs with
  | nil => intro st _; rfl
  | cons r rs ih =>
    intro st h
    show (getB (visBL (visB st r) rs).1, (visBL (visB st r) rs).2) = visL nonneg (vis1 nonneg (getB st.1, st.2) r) rs
    rw [ih _ (fun x hx => by rw [visB_len]; exact h x (by simp [hx])), visB_vis (h r (by simp))]
theorem visBL_len (rs : List Int) : ∀ (st : List Bool × List Int), (visBL st rs).1.length = st.1.length := by
  induction rs with
  | nil => intro st; rfl
  | cons r rs ih => intro st; exact (ih _).trans (visB_len st r)
theorem visBL_len2 (rs : List Int) : ∀ (st : List Bool × List Int), (visBL st rs).2.length ≤ st.2.length + rs.length := by
  induction rs with
  | nil => intro st; exact Nat.le_refl _
  | cons r rs ih => intro st; have h1 := ih (visB st r); have h2 := visB_len2 st r; show (visBL (visB st r) rs).2.length ≤ _; rw [List.length_cons]; omega
theorem visB_ge (st : List Bool × List Int) (r : Int) : st.2.length ≤ (visB st r).2.length := by unfold visB; split <;> simp
theorem visBL_ge (rs : List Int) : ∀ (st : List Bool × List Int), st.2.length ≤ (visBL st rs).2.length := by
  induction rs with
  | nil => intro st; exact Nat.le_refl _
  | cons r rs ih => intro st; exact Nat.le_trans (visB_ge st r) (ih (visB st r))
theorem visL_pre {ok : Int → Bool} (rs : List Int) : ∀ (M : Nat → Bool) (a b : List Int), visL ok (M, a ++ b) rs = ((visL ok (M, b) rs).1, a ++ (visL ok (M, b) rs).2) := by
  induction rs with
  | nil => intro M a b; rfl
  | cons r rs ih =>
    intro M a b
    show visL ok (vis1 ok (M, a ++ b) r) rs = ((visL ok (vis1 ok (M, b) r) rs).1, a ++ (visL ok (vis1 ok (M, b) r) rs).2)
    unfold vis1
    split
    · simp only [List.append_assoc]; exact ih _ _ _
    · exact ih _ _ _
theorem getB_rep (n : Nat) : getB (List.replicate n false) = fun _ => false := by
  funext k
  unfold getB
  by_cases h : k < n <;> simp [List.getD, h, List.getElem?_replicate]
/-- The start: the numbers fr are met. -/
theorem reach_start {h : HeapM} {fr : List Int} (hf : ∀ r ∈ fr, r < h.cells.length) {us : List Bool} {wk : List Int} (e : (us, wk) = visBL (List.replicate h.cells.length false, []) fr) :
    CloI (refsAt h) nonneg fr (getB us) (wk.drop 0) ∧ OrdI nonneg h.cells.length (getB us, wk) := by
  have hv := visBL_vis fr (List.replicate h.cells.length false, []) (by simpa using hf)
  rw [← e, getB_rep] at hv
  have h1 : getB us = (visL nonneg (fun _ => false, []) fr).1 := by rw [← hv]
  have h2 : wk = (visL nonneg (fun _ => false, []) fr).2 := by rw [← hv]
  refine ⟨?_, ?_⟩
  · have := CloI.init (rf := refsAt h) (ok := nonneg) (fr := fr)
    rw [← h1, ← h2] at this
    exact this
  · rw [hv]
    exact (OrdI.start nonneg _).visL fr fun r hr h0 => by have := hf r hr; have h3 : 0 ≤ r := (by simpa [nonneg] using h0); omega
/-- A round: number i of the list is looked at. -/
theorem reach_round {h : HeapM} (hv : ∀ c ∈ h.cells, ∀ r ∈ c.refs, r < h.cells.length) {fr : List Int} {us us' : List Bool} {wk wk' : List Int} {i : Nat} {r : Int} (hu : us.length = h.cells.length) (hC : CloI (refsAt h) nonneg fr (getB us) (wk.drop i)) (hO : OrdI nonneg h.cells.length (getB us, wk))
    (hr : wk[i]? = some r) (e : (us', wk') = visBL (us, wk) (refsAt h r.toNat)) : CloI (refsAt h) nonneg fr (getB us') (wk'.drop (i + 1)) ∧ OrdI nonneg h.cells.length (getB us', wk') := by
  have hlt : ∀ x ∈ refsAt h r.toNat, x < h.cells.length := by
    intro x hx
    unfold refsAt at hx
    split at hx
    · next c hc => exact hv c (List.mem_of_getElem? hc) x hx
    · simp at hx
  have hvb := visBL_vis (refsAt h r.toNat) (us, wk) (by rw [hu]; exact hlt)
  rw [← e] at hvb
  have hi := (List.getElem?_eq_some_iff.1 hr).1
  refine ⟨?_, ?_⟩
  · have hst := hC.step (wk' := wk.drop (i + 1)) (r := r) (fun x hx => by rw [drop_cons_of hr] at hx; exact List.mem_cons.1 hx) (fun x hx => by rw [drop_cons_of hr]; exact List.mem_cons_of_mem _ hx) (by rw [drop_cons_of hr]; simp)
    have hp := visL_pre (ok := nonneg) (refsAt h r.toNat) (getB us) (wk.take (i + 1)) (wk.drop (i + 1))
    rw [List.take_append_drop] at hp
    have h1 : getB us' = (visL nonneg (getB us, wk.drop (i + 1)) (refsAt h r.toNat)).1 := by
      have := congrArg Prod.fst hvb; rw [hp] at this; exact this
    have h2 : wk' = wk.take (i + 1) ++ (visL nonneg (getB us, wk.drop (i + 1)) (refsAt h r.toNat)).2 := by
      have := congrArg Prod.snd hvb; rw [hp] at this; exact this
    rw [← h1] at hst
    have h3 : wk'.drop (i + 1) = (visL nonneg (getB us, wk.drop (i + 1)) (refsAt h r.toNat)).2 := by
      rw [h2]; exact List.drop_left' (by rw [List.length_take]; omega)
    rw [h3]; exact hst
  · rw [hvb]
    exact hO.visL _ fun x hx h0 => by have := hlt x hx; have h3 : 0 ≤ x := (by simpa [nonneg] using h0); omega
theorem reach_final {h : HeapM} {fr : List Int} {us : List Bool} {wk : List Int} {i : Nat} (hu : us.length = h.cells.length) (hC : CloI (refsAt h) nonneg fr (getB us) (wk.drop i)) (hi : wk.length ≤ i) : us = rchL h.cells.length (refsAt h) nonneg fr := by
  rw [List.drop_eq_nil_of_le hi] at hC
  exact rchL_of hu (fun k => rfl) hC
set_option maxHeartbeats 4000000 in
theorem l7Reach_any (v : Value) (h : HeapM) (Ar : Option Addr) (fr : List Int) (cr : Nat) (w : World) (hv : RH w v h) (hva : validM h = true) (hr : RF fi w Ar fr) (hrl : fr.length ≤ 1048576) (hlt : ∀ r ∈ fr, r < h.cells.length) :
    Calls Try.prog 162 #[v, .slice Ar fr.length cr] w fun e w' => ∃ S c, e = .returned (.slice S h.cells.length c) ∧ OF 4 fb w' S c (rchL h.cells.length (refsAt h) nonneg fr) ∧ (∀ b ∈ blk S, w.heap.size ≤ b) ∧ Below w.heap.size w w' := by
  obtain ⟨A, c, A', c', rfl, hc, -, hl1, hl2⟩ := hv
  obtain ⟨v1, v2, v3⟩ := valid_small hva
  obtain ⟨lt1, -⟩ := validM_lt hva
  have HLT1 := Lib.hid lt1
  have HLT := Lib.hid hlt
  have HV3 := Lib.hid v3
  have HR := Lib.hid hr
  have HC := Lib.hid hc
  have hmk := mk_bools h.cells.length (by omega)
  clear lt1 hlt v3 v2 hva hr hc
  go_enter Try.func162, Try.ntmps162
  go_wp2_with fail
  have gb0 : w.heap.size + 1 < ((((w.alloc (.cells #[.slice A h.cells.length c, .slice A' h.roots.length c'] 32)).alloc (.cells (rowF fb (List.replicate h.cells.length false)) 4)).alloc (.cells #[] 3))).heap.size := by simp
  have hU0 : OF 4 fb ((((w.alloc (.cells #[.slice A h.cells.length c, .slice A' h.roots.length c'] 32)).alloc (.cells (rowF fb (List.replicate h.cells.length false)) 4)).alloc (.cells #[] 3))) (some ⟨w.heap.size + 1, 0, none⟩) h.cells.length (List.replicate h.cells.length false) := OF.of_blkn (by simp) (by rw [Below.heap_alloc _ _ _ (by first | omega | (simp; done) | (simp; omega))]; exact heap_alloc_at _ _ _ (by simp)) (by simp only [maxLen, List.length_replicate]; omega)
  have hK0 : OF 3 fi ((((w.alloc (.cells #[.slice A h.cells.length c, .slice A' h.roots.length c'] 32)).alloc (.cells (rowF fb (List.replicate h.cells.length false)) 4)).alloc (.cells #[] 3))) (some ⟨w.heap.size + 1 + 1, 0, none⟩) 0 ([] : List Int) := OF.new0 (heap_alloc_at _ _ _ (by simp))
  have hX0 : Below w.heap.size w ((((w.alloc (.cells #[.slice A h.cells.length c, .slice A' h.roots.length c'] 32)).alloc (.cells (rowF fb (List.replicate h.cells.length false)) 4)).alloc (.cells #[] 3))) := (by repeat (first | ((with_reducible refine Below.setc ?_ ?_ _); focus (first | omega | (simp; done) | (simp; omega))) | ((with_reducible refine Below.allocc ?_ ?_ _); focus (first | omega | (simp; done) | (simp; omega))) | (with_reducible refine Below.drew ?_) | (with_reducible refine Below.drewn ?_) | (with_reducible assumption) | (with_reducible exact Below.refl _ _) | ((with_reducible refine Below.stepp (by with_reducible assumption) ?_ ?_); focus (first | omega | (simp; done) | (simp; omega)))))
  have kb0 : ((((w.alloc (.cells #[.slice A h.cells.length c, .slice A' h.roots.length c'] 32)).alloc (.cells (rowF fb (List.replicate h.cells.length false)) 4)).alloc (.cells #[] 3))).cell? ⟨w.heap.size, 0, none⟩ = some (.slice A h.cells.length c) := by simp [go_sem]
  have hz0 : ((((w.alloc (.cells #[.slice A h.cells.length c, .slice A' h.roots.length c'] 32)).alloc (.cells (rowF fb (List.replicate h.cells.length false)) 4)).alloc (.cells #[] 3))).heap.size = w.heap.size + 3 := by simp
  generalize ((((w.alloc (.cells #[.slice A h.cells.length c, .slice A' h.roots.length c'] 32)).alloc (.cells (rowF fb (List.replicate h.cells.length false)) 4)).alloc (.cells #[] 3))) = W0 at *
  have HU0 := Lib.hid hU0
  have HK0 := Lib.hid hK0
  clear hU0 hK0 gb0
  go_loopw [6, 7] (fun s6 i wr => ∃ (j : Nat) (us : List Bool) (S : Option Addr) (cS : Nat) (wk : List Int), j ≤ fr.length ∧ i = .int .i64 j ∧ s6 = .slice S wk.length cS ∧ Hid ((us, wk) = visBL (List.replicate h.cells.length false, []) (fr.take j)) ∧ Hid (OF 4 fb wr (some ⟨w.heap.size + 1, 0, none⟩) h.cells.length us) ∧ Hid (OF 3 fi wr S cS wk) ∧ Hid (∀ b ∈ blk S, w.heap.size + 2 ≤ b) ∧ wr.cell? ⟨w.heap.size, 0, none⟩ = some (.slice A h.cells.length c) ∧ w.heap.size + 2 ≤ wr.heap.size ∧ Below w.heap.size w wr) (fun _ i _ => fr.length - (intOf i).toNat)
  case atStart => exact ⟨0, List.replicate h.cells.length false, _, _, [], by omega, rfl, rfl, rfl, HU0, HK0, fun b hb => (by have := mem_blk_some hb; omega), kb0, by omega, hX0⟩
  case round =>
    obtain ⟨j, us, S, cS, wk, hj, rfl, rfl, HQ, HU, HK, HSL, kb, hzr, hBr⟩ := hrel
    have hul : us.length = h.cells.length := by have := visBL_len (fr.take j) (List.replicate h.cells.length false, []); rw [← HQ.out] at this; simpa using this
    have hwl : wk.length ≤ 1048576 := by have := visBL_len2 (fr.take j) (List.replicate h.cells.length false, []); rw [← HQ.out, List.length_take] at this; simp only [List.length_nil] at this; omega
    have HGB : Hid (w.heap.size + 1 ∉ blk S) := fun hc => by have := HSL.out _ hc; omega
    have HBS : Hid (w.heap.size ∉ blk S) := fun hc => by have := HSL.out _ hc; omega
    by_cases hlt : j < fr.length
    · obtain ⟨b, o, r, rfl, gr, c1, hb⟩ := HR.out.at_ hlt
      have c1' : wr.cell? ⟨b, o + j, none⟩ = some (.int .i64 r) := cell_below c1 hBr
      have hbn : b ≠ w.heap.size + 1 := by omega
      have hbn2 : w.heap.size + 1 ≠ b := by omega
      have hrn := HLT.out r (List.mem_of_getElem? gr)
      have HS := Lib.hid (visBL_snoc (st := (List.replicate h.cells.length false, [])) gr)
      clear gr c1
      rcases Classical.em (r < 0) with h0 | h0
      · have HN : Hid ((us, wk) = visBL (List.replicate h.cells.length false, []) (fr.take (j + 1))) := by unfold Hid; rw [HS.out, ← HQ.out, visB_neg h0]
        go_wp2
        go_roundw
        case rel => exact ⟨j + 1, us, S, cS, wk, by omega, by go_num, rfl, HN, HU, HK, HSL, kb, hzr, hBr⟩
        case measure => simp [intOf]; omega
      have hr0 : 0 ≤ r := by omega
      have hrl2 : r.toNat < us.length := by omega
      have hu := List.getElem?_eq_getElem hrl2
      obtain ⟨x, hx⟩ : ∃ x, x = us[r.toNat] := ⟨_, rfl⟩
      rw [← hx] at hu
      have m2 : wr.cell? ⟨w.heap.size + 1, r.toNat, none⟩ = some (.bool x) := HU.out.cell hu
      have f2 := HU.out.frozen r.toNat
      clear hx h0
      rcases bool_ft x with rfl | rfl
      · have HN : Hid ((us.set r.toNat true, wk ++ [r]) = visBL (List.replicate h.cells.length false, []) (fr.take (j + 1))) := by unfold Hid; rw [HS.out, ← HQ.out, visB_new hr0 hu]
        have HU2 : Hid (OF 4 fb (wr.setCell ⟨w.heap.size + 1, r.toNat, none⟩ (.bool true)) (some ⟨w.heap.size + 1, 0, none⟩) h.cells.length (us.set r.toNat true)) := HU.out.set_ r.toNat true; have HK2 : Hid (OF 3 fi (wr.setCell ⟨w.heap.size + 1, r.toNat, none⟩ (.bool true)) S cS wk) := HK.out.ne_ HGB.out; have kbs : (wr.setCell ⟨w.heap.size + 1, r.toNat, none⟩ (.bool true)).cell? ⟨w.heap.size, 0, none⟩ = some (.slice A h.cells.length c) := (by simp [go_sem, kb])
        clear hu
        go_wp2_with (at_builtin; (refine wpList_appi rfl (.tmp 43) (.tmp 48) rfl wk rfl rfl (HK2.out.below (by repeat (first | ((with_reducible refine Below.setc ?_ ?_ _); focus (first | omega | (simp; done) | (simp; omega))) | ((with_reducible refine Below.allocc ?_ ?_ _); focus (first | omega | (simp; done) | (simp; omega))) | (with_reducible refine Below.drew ?_) | (with_reducible refine Below.drewn ?_) | (with_reducible assumption) | (with_reducible exact Below.refl _ _) | ((with_reducible refine Below.stepp (by with_reducible assumption) ?_ ?_); focus (first | omega | (simp; done) | (simp; omega)))))) (RF.singR (x := r) (by simp [go_sem, fi])) (by simp; omega) ?_); intro S2 c2 w3 hO3 hOn3 hg3; have kb3 := hOn3.cell (cell_below kbs (by repeat (first | ((with_reducible refine Below.setc ?_ ?_ _); focus (first | omega | (simp; done) | (simp; omega))) | ((with_reducible refine Below.allocc ?_ ?_ _); focus (first | omega | (simp; done) | (simp; omega))) | (with_reducible refine Below.drew ?_) | (with_reducible refine Below.drewn ?_) | (with_reducible assumption) | (with_reducible exact Below.refl _ _) | ((with_reducible refine Below.stepp (by with_reducible assumption) ?_ ?_); focus (first | omega | (simp; done) | (simp; omega)))))) HBS.out; have hU3 : Hid (OF 4 fb w3 (some ⟨w.heap.size + 1, 0, none⟩) h.cells.length (us.set r.toNat true)) := OF.only (OF.below HU2.out (by repeat (first | ((with_reducible refine Below.setc ?_ ?_ _); focus (first | omega | (simp; done) | (simp; omega))) | ((with_reducible refine Below.allocc ?_ ?_ _); focus (first | omega | (simp; done) | (simp; omega))) | (with_reducible refine Below.drew ?_) | (with_reducible refine Below.drewn ?_) | (with_reducible assumption) | (with_reducible exact Below.refl _ _) | ((with_reducible refine Below.stepp (by with_reducible assumption) ?_ ?_); focus (first | omega | (simp; done) | (simp; omega)))))) hOn3 (fun b9 hb9 hc9 => HGB.out (by rw [mem_blk_some hb9] at hc9; exact hc9)); have hB3 : Below w.heap.size w w3 := Below.trans (by repeat (first | ((with_reducible refine Below.setc ?_ ?_ _); focus (first | omega | (simp; done) | (simp; omega))) | ((with_reducible refine Below.allocc ?_ ?_ _); focus (first | omega | (simp; done) | (simp; omega))) | (with_reducible refine Below.drew ?_) | (with_reducible refine Below.drewn ?_) | (with_reducible assumption) | (with_reducible exact Below.refl _ _) | ((with_reducible refine Below.stepp (by with_reducible assumption) ?_ ?_); focus (first | omega | (simp; done) | (simp; omega))))) (hOn3.below (by simp; omega) (fun b9 hb9 => Nat.le_trans (by omega) (HSL.out b9 hb9))); have HSL3 : Hid (∀ b9 ∈ blk S2, w.heap.size + 2 ≤ b9) := (fun b9 hb9 => by rcases hg3 b9 hb9 with h9 | h9; exact HSL.out b9 h9; simp at h9; omega); have HK3 := Lib.hid hO3; have hOn3s : w.heap.size + 2 ≤ w3.heap.size := Nat.le_trans (by simp; omega) hOn3.size; clear hO3 hOn3 hg3)
        go_roundw
        case rel => exact ⟨j + 1, _, S2, c2, wk ++ [r], by omega, by go_num, by simp, HN, hU3, HK3, HSL3, kb3, by have := hOn3s; omega, hB3⟩
        case measure => simp [intOf]; omega
      · have HN : Hid ((us, wk) = visBL (List.replicate h.cells.length false, []) (fr.take (j + 1))) := by unfold Hid; rw [HS.out, ← HQ.out, visB_met hu]
        clear hu
        go_wp2
        go_roundw
        case rel => exact ⟨j + 1, us, S, cS, wk, by omega, by go_num, rfl, HN, HU, HK, HSL, kb, hzr, hBr⟩
        case measure => simp [intOf]; omega
    · have hje : j = fr.length := by omega
      have hst := reach_start (us := us) (wk := wk) HLT.out (by have := HQ.out; rw [hje, List.take_length] at this; exact this)
      have HCL := Lib.hid hst.1
      have HOR := Lib.hid hst.2
      have HUL := Lib.hid hul
      clear hst hul hje HQ
      go_wp2
      go_loopw [6, 8] (fun s6 i wr => ∃ (j : Nat) (us : List Bool) (S : Option Addr) (cS : Nat) (wk : List Int), j ≤ wk.length ∧ i = .int .i64 j ∧ s6 = .slice S wk.length cS ∧ Hid (CloI (refsAt h) nonneg fr (getB us) (wk.drop j)) ∧ Hid (OrdI nonneg h.cells.length (getB us, wk)) ∧ Hid (us.length = h.cells.length) ∧ Hid (OF 4 fb wr (some ⟨w.heap.size + 1, 0, none⟩) h.cells.length us) ∧ Hid (OF 3 fi wr S cS wk) ∧ Hid (∀ b ∈ blk S, w.heap.size + 2 ≤ b) ∧ wr.cell? ⟨w.heap.size, 0, none⟩ = some (.slice A h.cells.length c) ∧ w.heap.size + 2 ≤ wr.heap.size ∧ Below w.heap.size w wr) (fun _ i _ => 40 - (intOf i).toNat)
      case atStart => exact ⟨0, us, S, cS, wk, by omega, rfl, rfl, HCL, HOR, HUL, HU, HK, HSL, kb, hzr, hBr⟩
      case round =>
        clear HCL HOR HUL HU HK HSL kb hzr hBr HGB HBS hwl hlt
        obtain ⟨j0, us0, S0, cS0, wk0, hj, rfl, rfl, HCL, HOR, HUL, HU, HK, HSL, kb, hzr, hBr⟩ := hrel
        have hwl : wk0.length ≤ 40 := by have := HOR.out.le; simp only at this; omega
        by_cases hlt : j0 < wk0.length
        · have hwj := List.getElem?_eq_getElem hlt
          obtain ⟨r, hr⟩ : ∃ r, r = wk0[j0] := ⟨_, rfl⟩
          rw [← hr] at hwj
          clear hr
          have hmet := HOR.out.met r (List.mem_of_getElem? hwj)
          have hr0 : 0 ≤ r := by simpa [nonneg] using hmet.1
          obtain ⟨k, rfl⟩ := Int.eq_ofNat_of_zero_le hr0
          have hkn : k < h.cells.length := by
            have h3 : getB us0 k = true := by simpa using hmet.2
            rcases Nat.lt_or_ge k us0.length with h4 | h4
            · rw [← HUL.out]; exact h4
            · unfold getB at h3; rw [getD_len h4] at h3; cases h3
          obtain ⟨q, rfl, hq⟩ := HK.out.some_ hlt
          have mq : wr.cell? ⟨q, j0, none⟩ = some (.int .i64 (k : Int)) := HK.out.cell hwj
          obtain ⟨b, o, cc, Ac, cr2, rfl, gc, -, -, d2, hrr, hrl2, hb⟩ := HC.out.at_ hkn
          have d2' := cell_below d2 hBr
          have HRR := Lib.hid hrr
          have HCR := Lib.hid (refsAt_of gc)
          have hrl3 := HV3.out cc (List.mem_of_getElem? gc)
          have HLT3 := Lib.hid (HLT1.out cc (List.mem_of_getElem? gc))
          have HWJ := Lib.hid hwj
          clear hmet hwj gc hrr hr0 d2
          go_wp2
          go_quiet (fail)
          go_wp2
          go_loopw [6, 10] (fun s6 i wr => ∃ (j : Nat) (us : List Bool) (S : Option Addr) (cS : Nat) (wk : List Int), j ≤ cc.refs.length ∧ i = .int .i64 j ∧ s6 = .slice S wk.length cS ∧ Hid ((us, wk) = visBL (us0, wk0) (cc.refs.take j)) ∧ Hid (OF 4 fb wr (some ⟨w.heap.size + 1, 0, none⟩) h.cells.length us) ∧ Hid (OF 3 fi wr S cS wk) ∧ Hid (∀ b ∈ blk S, w.heap.size + 2 ≤ b) ∧ wr.cell? ⟨w.heap.size, 0, none⟩ = some (.slice (some ⟨b, o, none⟩) h.cells.length c) ∧ w.heap.size + 2 ≤ wr.heap.size ∧ Below w.heap.size w wr) (fun _ i _ => cc.refs.length - (intOf i).toNat)
          case atStart => exact ⟨0, us0, _, _, wk0, by omega, rfl, rfl, rfl, HU.out.below (Below.drewn (Below.refl _ _)), HK.out.below (Below.drewn (Below.refl _ _)), HSL, cell_below kb (Below.drewn (Below.refl _ _)), hzr, Below.drewn hBr⟩
          case round =>
            clear HU HK HSL kb hzr hBr mq d2'
            obtain ⟨j, us, S, cS, wk, hj2, rfl, rfl, HQ, HU, HK, HSL, kb, hzr, hBr⟩ := hrel
            have hul : us.length = h.cells.length := by have := visBL_len (cc.refs.take j) (us0, wk0); rw [← HQ.out] at this; exact this.trans HUL.out
            have hwl2 : wk.length ≤ 1048576 := by have := visBL_len2 (cc.refs.take j) (us0, wk0); rw [← HQ.out, List.length_take] at this; simp only at this; omega
            have HGB : Hid (w.heap.size + 1 ∉ blk S) := fun hc => by have := HSL.out _ hc; omega
            have HBS : Hid (w.heap.size ∉ blk S) := fun hc => by have := HSL.out _ hc; omega
            by_cases hlt2 : j < cc.refs.length
            · obtain ⟨b2, o2, r, rfl, gr, c1, hb2⟩ := HRR.out.at_ hlt2
              have c1' : wr.cell? ⟨b2, o2 + j, none⟩ = some (.int .i64 r) := cell_below c1 hBr
              have hbn : b2 ≠ w.heap.size + 1 := by omega
              have hbn2 : w.heap.size + 1 ≠ b2 := by omega
              have hrn := HLT3.out r (List.mem_of_getElem? gr)
              have HS := Lib.hid (visBL_snoc (st := (us0, wk0)) gr)
              clear gr c1
              rcases Classical.em (r < 0) with h0 | h0
              · have HN : Hid ((us, wk) = visBL (us0, wk0) (cc.refs.take (j + 1))) := by unfold Hid; rw [HS.out, ← HQ.out, visB_neg h0]
                go_wp2
                go_roundw
                case rel => exact ⟨j + 1, us, S, cS, wk, by omega, by go_num, rfl, HN, HU, HK, HSL, kb, hzr, hBr⟩
                case measure => simp [intOf]; omega
              have hr0 : 0 ≤ r := by omega
              have hrl4 : r.toNat < us.length := by omega
              have hu := List.getElem?_eq_getElem hrl4
              obtain ⟨x, hx⟩ : ∃ x, x = us[r.toNat] := ⟨_, rfl⟩
              rw [← hx] at hu
              have m2 : wr.cell? ⟨w.heap.size + 1, r.toNat, none⟩ = some (.bool x) := HU.out.cell hu
              have f2 := HU.out.frozen r.toNat
              clear hx h0
              rcases bool_ft x with rfl | rfl
              · have HN : Hid ((us.set r.toNat true, wk ++ [r]) = visBL (us0, wk0) (cc.refs.take (j + 1))) := by unfold Hid; rw [HS.out, ← HQ.out, visB_new hr0 hu]
                have HU2 : Hid (OF 4 fb (wr.setCell ⟨w.heap.size + 1, r.toNat, none⟩ (.bool true)) (some ⟨w.heap.size + 1, 0, none⟩) h.cells.length (us.set r.toNat true)) := HU.out.set_ r.toNat true; have HK2 : Hid (OF 3 fi (wr.setCell ⟨w.heap.size + 1, r.toNat, none⟩ (.bool true)) S cS wk) := HK.out.ne_ HGB.out; have kbs : (wr.setCell ⟨w.heap.size + 1, r.toNat, none⟩ (.bool true)).cell? ⟨w.heap.size, 0, none⟩ = some (.slice (some ⟨b, o, none⟩) h.cells.length c) := (by simp [go_sem, kb])
                clear hu
                go_wp2_with (at_builtin; (refine wpList_appi rfl (.tmp 92) (.tmp 97) rfl wk rfl rfl (HK2.out.below (by repeat (first | ((with_reducible refine Below.setc ?_ ?_ _); focus (first | omega | (simp; done) | (simp; omega))) | ((with_reducible refine Below.allocc ?_ ?_ _); focus (first | omega | (simp; done) | (simp; omega))) | (with_reducible refine Below.drew ?_) | (with_reducible refine Below.drewn ?_) | (with_reducible assumption) | (with_reducible exact Below.refl _ _) | ((with_reducible refine Below.stepp (by with_reducible assumption) ?_ ?_); focus (first | omega | (simp; done) | (simp; omega)))))) (RF.singR (x := r) (by simp [go_sem, fi])) (by simp; omega) ?_); intro S2 c2 w3 hO3 hOn3 hg3; have kb3 := hOn3.cell (cell_below kbs (by repeat (first | ((with_reducible refine Below.setc ?_ ?_ _); focus (first | omega | (simp; done) | (simp; omega))) | ((with_reducible refine Below.allocc ?_ ?_ _); focus (first | omega | (simp; done) | (simp; omega))) | (with_reducible refine Below.drew ?_) | (with_reducible refine Below.drewn ?_) | (with_reducible assumption) | (with_reducible exact Below.refl _ _) | ((with_reducible refine Below.stepp (by with_reducible assumption) ?_ ?_); focus (first | omega | (simp; done) | (simp; omega)))))) HBS.out; have hU3 : Hid (OF 4 fb w3 (some ⟨w.heap.size + 1, 0, none⟩) h.cells.length (us.set r.toNat true)) := OF.only (OF.below HU2.out (by repeat (first | ((with_reducible refine Below.setc ?_ ?_ _); focus (first | omega | (simp; done) | (simp; omega))) | ((with_reducible refine Below.allocc ?_ ?_ _); focus (first | omega | (simp; done) | (simp; omega))) | (with_reducible refine Below.drew ?_) | (with_reducible refine Below.drewn ?_) | (with_reducible assumption) | (with_reducible exact Below.refl _ _) | ((with_reducible refine Below.stepp (by with_reducible assumption) ?_ ?_); focus (first | omega | (simp; done) | (simp; omega)))))) hOn3 (fun b9 hb9 hc9 => HGB.out (by rw [mem_blk_some hb9] at hc9; exact hc9)); have hB3 : Below w.heap.size w w3 := Below.trans (by repeat (first | ((with_reducible refine Below.setc ?_ ?_ _); focus (first | omega | (simp; done) | (simp; omega))) | ((with_reducible refine Below.allocc ?_ ?_ _); focus (first | omega | (simp; done) | (simp; omega))) | (with_reducible refine Below.drew ?_) | (with_reducible refine Below.drewn ?_) | (with_reducible assumption) | (with_reducible exact Below.refl _ _) | ((with_reducible refine Below.stepp (by with_reducible assumption) ?_ ?_); focus (first | omega | (simp; done) | (simp; omega))))) (hOn3.below (by simp; omega) (fun b9 hb9 => Nat.le_trans (by omega) (HSL.out b9 hb9))); have HSL3 : Hid (∀ b9 ∈ blk S2, w.heap.size + 2 ≤ b9) := (fun b9 hb9 => by rcases hg3 b9 hb9 with h9 | h9; exact HSL.out b9 h9; simp at h9; omega); have HK3 := Lib.hid hO3; have hOn3s : w.heap.size + 2 ≤ w3.heap.size := Nat.le_trans (by simp; omega) hOn3.size; clear hO3 hOn3 hg3)
                go_roundw
                case rel => exact ⟨j + 1, _, S2, c2, wk ++ [r], by omega, by go_num, by simp, HN, hU3, HK3, HSL3, kb3, by have := hOn3s; omega, hB3⟩
                case measure => simp [intOf]; omega
              · have HN : Hid ((us, wk) = visBL (us0, wk0) (cc.refs.take (j + 1))) := by unfold Hid; rw [HS.out, ← HQ.out, visB_met hu]
                clear hu
                go_wp2
                go_roundw
                case rel => exact ⟨j + 1, us, S, cS, wk, by omega, by go_num, rfl, HN, HU, HK, HSL, kb, hzr, hBr⟩
                case measure => simp [intOf]; omega
            · have hje : j = cc.refs.length := by omega
              have hst := reach_round HLT1.out HUL.out HCL.out HOR.out HWJ.out (us' := us) (wk' := wk) (by have := HQ.out; rw [hje, List.take_length] at this; rw [Int.toNat_natCast, HCR.out]; exact this)
              have HC2 := Lib.hid hst.1
              have HO2 := Lib.hid hst.2
              have hge : wk0.length ≤ wk.length := by have := visBL_ge (cc.refs.take j) (us0, wk0); rw [← HQ.out] at this; exact this
              have HUL2 := Lib.hid hul
              clear hst hje hul HQ HCL HOR HUL
              go_wp2
              go_roundw
              case rel => exact ⟨j0 + 1, us, S, cS, wk, by omega, by go_num, rfl, HC2, HO2, HUL2, HU, HK, HSL, kb, hzr, hBr⟩
              case measure => simp [intOf]; omega
        · have hje : wk0.length ≤ j0 := by omega
          have HF := Lib.hid (reach_final HUL.out HCL.out hje)
          clear hje
          go_wp2
          go_ret
          exact ⟨_, _, rfl, by rw [← HF.out]; exact HU.out, fun b9 hb9 => by have := mem_blk_some hb9; omega, hBr⟩
set_option maxHeartbeats 4000000 in
theorem specReachable_any (v : Value) (h : HeapM) (w : World) (hv : RH w v h) :
    Calls Try.prog 127 #[v] w fun e w' => ∃ S c, e = .returned (.slice S (reachableM h).length c) ∧ OF 4 fb w' S c (reachableM h) ∧ (∀ b ∈ blk S, w.heap.size ≤ b) ∧ Below w.heap.size w w' := by
  have hv0 := hv
  obtain ⟨A, c, A', c', rfl, -, hr, -, -⟩ := hv
  have h0 : ((w.alloc (.cells #[.slice A h.cells.length c, .slice A' h.roots.length c'] 32))).cell? ⟨w.heap.size, 0, none⟩ = some (.slice A h.cells.length c) := by simp [go_sem]
  have h1 : ((w.alloc (.cells #[.slice A h.cells.length c, .slice A' h.roots.length c'] 32))).cell? ⟨w.heap.size, 1, none⟩ = some (.slice A' h.roots.length c') := by simp [go_sem]
  have HW : Hid (Below w.heap.size w ((w.alloc (.cells #[.slice A h.cells.length c, .slice A' h.roots.length c'] 32)))) := by unfold Hid; exact (by repeat (first | ((with_reducible refine Below.setc ?_ ?_ _); focus (first | omega | (simp; done) | (simp; omega))) | ((with_reducible refine Below.allocc ?_ ?_ _); focus (first | omega | (simp; done) | (simp; omega))) | (with_reducible refine Below.drew ?_) | (with_reducible refine Below.drewn ?_) | (with_reducible assumption) | (with_reducible exact Below.refl _ _) | ((with_reducible refine Below.stepp (by with_reducible assumption) ?_ ?_); focus (first | omega | (simp; done) | (simp; omega)))))
  cases hva : validM h
  · have HV := Lib.hid hva
    have HE : Hid (reachableM h = []) := by unfold Hid reachableM; rw [hva]; rfl
    clear hva
    go_enter Try.func127, Try.ntmps127
    go_wp2_with fail
    (with_reducible refine (specHeapValid_any _ h _ (hv0.below (by repeat (first | ((with_reducible refine Below.setc ?_ ?_ _); focus (first | omega | (simp; done) | (simp; omega))) | ((with_reducible refine Below.allocc ?_ ?_ _); focus (first | omega | (simp; done) | (simp; omega))) | (with_reducible refine Below.drew ?_) | (with_reducible refine Below.drewn ?_) | (with_reducible assumption) | (with_reducible exact Below.refl _ _) | ((with_reducible refine Below.stepp (by with_reducible assumption) ?_ ?_); focus (first | omega | (simp; done) | (simp; omega))))))).mono ?_); rw [HV.out]; rintro e w1 ⟨rfl, hB1⟩
    have Y1 : Below ((w.alloc (.cells #[.slice A h.cells.length c, .slice A' h.roots.length c'] 32))).heap.size ((w.alloc (.cells #[.slice A h.cells.length c, .slice A' h.roots.length c'] 32))) w1 := (by repeat (first | ((with_reducible refine Below.setc ?_ ?_ _); focus (first | omega | (simp; done) | (simp; omega))) | ((with_reducible refine Below.allocc ?_ ?_ _); focus (first | omega | (simp; done) | (simp; omega))) | (with_reducible refine Below.drew ?_) | (with_reducible refine Below.drewn ?_) | (with_reducible assumption) | (with_reducible exact Below.refl _ _) | ((with_reducible refine Below.stepp (by with_reducible assumption) ?_ ?_); focus (first | omega | (simp; done) | (simp; omega)))))
    have X1 : Below w.heap.size w w1 := HW.out.trans (Y1.mono HW.out.size)
    have hX := X1.size
    clear hB1
    go_wp2
    go_ret
    refine ⟨some ⟨w1.heap.size, 0, none⟩, 0, by rw [HE.out]; rfl, ?_, fun b hb => by have := mem_blk_some hb; omega, X1.alloc hX _⟩
    rw [HE.out]
    exact OF.new0 (heap_alloc_at _ _ _ (by simp))
  · have HV := Lib.hid hva
    have HE : Hid (reachableM h = rchL h.cells.length (refsAt h) nonneg h.roots) := by unfold Hid reachableM; rw [hva]; rfl
    obtain ⟨v1, v2, -⟩ := valid_small hva
    have v2' : h.roots.length ≤ 1048576 := by omega
    have HLT := Lib.hid (validM_lt hva).2
    clear hva v2
    go_enter Try.func127, Try.ntmps127
    go_wp2_with fail
    (with_reducible refine (specHeapValid_any _ h _ (hv0.below (by repeat (first | ((with_reducible refine Below.setc ?_ ?_ _); focus (first | omega | (simp; done) | (simp; omega))) | ((with_reducible refine Below.allocc ?_ ?_ _); focus (first | omega | (simp; done) | (simp; omega))) | (with_reducible refine Below.drew ?_) | (with_reducible refine Below.drewn ?_) | (with_reducible assumption) | (with_reducible exact Below.refl _ _) | ((with_reducible refine Below.stepp (by with_reducible assumption) ?_ ?_); focus (first | omega | (simp; done) | (simp; omega))))))).mono ?_); rw [HV.out]; rintro e w1 ⟨rfl, hB1⟩
    have Y1 : Below ((w.alloc (.cells #[.slice A h.cells.length c, .slice A' h.roots.length c'] 32))).heap.size ((w.alloc (.cells #[.slice A h.cells.length c, .slice A' h.roots.length c'] 32))) w1 := (by repeat (first | ((with_reducible refine Below.setc ?_ ?_ _); focus (first | omega | (simp; done) | (simp; omega))) | ((with_reducible refine Below.allocc ?_ ?_ _); focus (first | omega | (simp; done) | (simp; omega))) | (with_reducible refine Below.drew ?_) | (with_reducible refine Below.drewn ?_) | (with_reducible assumption) | (with_reducible exact Below.refl _ _) | ((with_reducible refine Below.stepp (by with_reducible assumption) ?_ ?_); focus (first | omega | (simp; done) | (simp; omega)))))
    have X1 : Below w.heap.size w w1 := HW.out.trans (Y1.mono HW.out.size)
    have hX := X1.size
    have a0 := cell_below h0 Y1
    have a1 := cell_below h1 Y1
    clear hB1
    go_wp2_with fail
    (with_reducible refine (l7Reach_any _ h A' h.roots c' _ (hv0.below (by repeat (first | ((with_reducible refine Below.setc ?_ ?_ _); focus (first | omega | (simp; done) | (simp; omega))) | ((with_reducible refine Below.allocc ?_ ?_ _); focus (first | omega | (simp; done) | (simp; omega))) | (with_reducible refine Below.drew ?_) | (with_reducible refine Below.drewn ?_) | (with_reducible assumption) | (with_reducible exact Below.refl _ _) | ((with_reducible refine Below.stepp (by with_reducible assumption) ?_ ?_); focus (first | omega | (simp; done) | (simp; omega)))))) HV.out (hr.below (by repeat (first | ((with_reducible refine Below.setc ?_ ?_ _); focus (first | omega | (simp; done) | (simp; omega))) | ((with_reducible refine Below.allocc ?_ ?_ _); focus (first | omega | (simp; done) | (simp; omega))) | (with_reducible refine Below.drew ?_) | (with_reducible refine Below.drewn ?_) | (with_reducible assumption) | (with_reducible exact Below.refl _ _) | ((with_reducible refine Below.stepp (by with_reducible assumption) ?_ ?_); focus (first | omega | (simp; done) | (simp; omega)))))) v2' HLT.out).mono ?_)
    rintro e w2 ⟨S, cS, rfl, hO, hlo, hB2⟩
    have X2 : Below w.heap.size w w2 := (by repeat (first | ((with_reducible refine Below.setc ?_ ?_ _); focus (first | omega | (simp; done) | (simp; omega))) | ((with_reducible refine Below.allocc ?_ ?_ _); focus (first | omega | (simp; done) | (simp; omega))) | (with_reducible refine Below.drew ?_) | (with_reducible refine Below.drewn ?_) | (with_reducible assumption) | (with_reducible exact Below.refl _ _) | ((with_reducible refine Below.stepp (by with_reducible assumption) ?_ ?_); focus (first | omega | (simp; done) | (simp; omega)))))
    have HO := Lib.hid hO
    clear hB2 hO
    go_wp2
    go_ret
    refine ⟨S, cS, by rw [HE.out, rchL_len]; rfl, by rw [HE.out]; exact HO.out, fun b hb => Nat.le_trans hX (hlo b hb), X2⟩
end Go.Proofs.Ytkmfhadanbfadaa
