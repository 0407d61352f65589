/- A region that draws its order, with one operation (a pure one) for which the end does not wait. -/
import Derived.RegionTactic
import Derived.Test.YteilaalababfpaaGrCtx
namespace Go.Proofs.Yteilaalababfpaa
open Go
def relChkq (q : Nat) (ops : Array Oper) (L0 L1 : Array Bool) (rs : List Nat) (D : List (Nat × List Nat)) (sl : List (Nat × Nat)) : Bool :=
  L0.size == ops.size && L1.size == ops.size &&
  (List.range ops.size).all fun i =>
    match ops[i]? with
    | none => false
    | some o =>
      let nd := direct o
      nd.all (fun e => Nat.blt e i) &&
      (!bit L0 i || bit L1 i) &&
      (!(bit L1 i && !bit L0 i) || rs.contains i) &&
      (((D.lookup i).getD []).all fun d => nd.contains d || nd.any fun e => ((D.lookup e).getD []).contains d) &&
      (!bit L0 i || ((D.lookup i).getD []).isEmpty) &&
      (((D.lookup i).getD []).all fun d => !bit L0 d) &&
      (bit L1 i || (List.range ops.size).all fun j => !bit L1 j || bit L0 j || j == q || ((D.lookup i).getD []).contains j) &&
      (bit L0 i || !bit L1 i || (match o.dst with | some d => (sl.lookup d == some i) && sl.all (fun p => (p.2 != i) || (p.1 == d)) | none => sl.all (fun p => p.2 != i)))
section
variable {P : Program} {ops : Array Oper} {Q : Exit → Act → World → Prop}
theorem wpAny_relq (q : Nat) {sl : List (Nat × Nat)} {a : Act} {I : Nat → World → Prop} {V : Nat → Value → World → Prop} {G : World → World → Prop} {D : List (Nat × List Nat)} {L0 L1 : Array Bool} {rs : List Nat}
    (hchk : relChkq q ops L0 L1 rs D sl = true) {o0 : Oper} (ho0 : ops[q]? = some o0) (hQ : ∀ (v : Value) c a w, Q (.panic c) (a.put o0.dst v) w → Q (.panic c) a w)
    (hq : bit L1 q = true → bit L0 q = false → ∀ x W, (∀ d ∈ (D.lookup q).getD [], V d (x d) W) → ∃ oq v, ops[q]? = some oq ∧ Yields P ops oq v (frOf a sl x) ∧ V q v W)
    (hfr : bit L1 q = true → bit L0 q = false → (Region.noSelect ops && Region.free .any ops (L1.setIfInBounds q false) q && (Region.ready .any ops (L1.setIfInBounds q false)).contains q) = true)
    (hI1 : ∀ f W, I (f + 1) W → I f W)
    (hmono : ∀ i v W W', G W W' → V i v W → V i v W')
    (hstep : ∀ i ∈ rs, RStep P ops Q (frOf a sl) I V G D i)
    (hend : ∀ x W, I (unl L1.toList) W → (∀ i, bit L1 i = true → bit L0 i = false → V i (x i) W) → wpAny P .any ops Q (unl L1.toList) L1 (frOf a sl x) W) :
    ∀ (f : Nat) (listed : Array Bool) (x : Nat → Value) (W : World), listed.size = ops.size → unl listed.toList = f → (∀ j, bit L0 j = true → bit listed j = true) → (∀ j, bit listed j = true → bit L1 j = true) →
      (∀ j, bit listed j = true → ∀ d ∈ (D.lookup j).getD [], bit listed d = true) → I f W → (∀ j, bit listed j = true → bit L0 j = false → V j (x j) W) →
      wpAny P .any ops Q f listed (frOf a sl x) W := by
  unfold relChkq at hchk
  simp only [Bool.and_eq_true] at hchk
  obtain ⟨⟨hz0, hz1⟩, hall⟩ := hchk
  have hz0 : L0.size = ops.size := by simpa using hz0
  have hz1 : L1.size = ops.size := by simpa using hz1
  have hop : ∀ i o, ops[i]? = some o → _ := fun i o ho => range_all hall (i := i) (by
    apply Nat.lt_of_not_le; intro hge; rw [Array.getElem?_eq_none hge] at ho; cases ho)
  intro f
  induction f with
  | zero =>
    intro listed x W hs hu h0 h1 hc hI hV
    have hfull : ∀ j, j < ops.size → bit listed j = true := by
      intro j hj
      cases hb : bit listed j with
      | true => rfl
      | false =>
        exfalso
        have := unl_pos listed.toList j (by
          unfold bit at hb
          rw [Array.getElem?_toList, Array.getElem?_eq_getElem (by omega)]
          rw [Array.getD_eq_getD_getElem?, Array.getElem?_eq_getElem (by omega)] at hb
          simpa using hb)
        omega
    have hL : listed = L1 := by
      apply Array.ext (by omega)
      intro j hj1 hj2
      have e1 := hfull j (by omega)
      have e2 := h1 j e1
      unfold bit at e1 e2
      rw [Array.getD_eq_getD_getElem?, Array.getElem?_eq_getElem hj1] at e1
      rw [Array.getD_eq_getD_getElem?, Array.getElem?_eq_getElem hj2] at e2
      simp at e1 e2
      rw [e1, e2]
    subst hL
    have h9 := hend x W (by rw [hu]; exact hI) hV
    rw [hu] at h9
    exact h9
  | succ f ih =>
    intro listed x W hs hu h0 h1 hc hI hV
    by_cases hdone : ∀ j, bit L1 j = true → bit listed j = true
    · have hL : listed = L1 := by
        apply Array.ext (by omega)
        intro j hj1 hj2
        have e1 := h1 j
        have e2 := hdone j
        unfold bit at e1 e2
        simp only [Array.getD_eq_getD_getElem?, Array.getElem?_eq_getElem hj1, Array.getElem?_eq_getElem hj2, Option.getD_some] at e1 e2
        rw [Bool.eq_iff_iff]
        exact ⟨e1, e2⟩
      subst hL
      have h9 := hend x W (by rw [hu]; exact hI) hV
      rw [hu] at h9
      exact h9
    by_cases hcore : ∀ j, bit L1 j = true → j ≠ q → bit listed j = true
    · have hql : bit listed q = false := by
        cases hb : bit listed q with
        | false => rfl
        | true =>
          exfalso
          apply hdone
          intro j hj
          by_cases he : j = q
          · subst he; exact hb
          · exact hcore j hj he
      have hq1 : bit L1 q = true := by
        cases hb : bit L1 q with
        | true => rfl
        | false =>
          exfalso
          apply hdone
          intro j hj
          by_cases he : j = q
          · subst he; rw [hj] at hb; cases hb
          · exact hcore j hj he
      have hq0 : bit L0 q = false := by
        cases hb : bit L0 q with
        | false => rfl
        | true => have := h0 q hb; rw [hql] at this; cases this
      have hqlt : q < ops.size := by have := bit_lt hq1; omega
      have hLq : listed = L1.setIfInBounds q false := by
        apply Array.ext (by simp; omega)
        intro j hj1 hj2
        have e1 := h1 j
        have e2 := hcore j
        have e3 := hql
        unfold bit at e1 e2 e3
        have hj3 : j < L1.size := by simpa using hj2
        rw [Array.getElem_setIfInBounds hj3]
        simp only [Array.getD_eq_getD_getElem?, Array.getElem?_eq_getElem hj1, Array.getElem?_eq_getElem hj3, Option.getD_some] at e1 e2
        split
        · rename_i he
          subst he
          simpa [Array.getD_eq_getD_getElem?, Array.getElem?_eq_getElem hj1] using e3
        · rename_i he
          rw [Bool.eq_iff_iff]
          exact ⟨e1, fun h9 => e2 h9 (fun h8 => he h8.symm)⟩
      have hf9 := hfr hq1 hq0
      rw [← hLq] at hf9
      simp only [Bool.and_eq_true] at hf9
      obtain ⟨⟨hns, hfree⟩, hrd⟩ := hf9
      have hrd' : q ∈ Region.ready .any ops listed := by simpa using hrd
      obtain ⟨o9, ho9, -, hdir9⟩ := (ready_iff hs).1 hrd'
      have hDq : ∀ d ∈ (D.lookup q).getD [], bit listed d = true := by
        intro d hd
        have hqq := hop q o9 ho9
        simp only [ho9, Bool.and_eq_true] at hqq
        obtain ⟨⟨⟨⟨⟨⟨⟨_, _⟩, _⟩, hqq⟩, _⟩, _⟩, _⟩, _⟩ := hqq
        rw [List.all_eq_true] at hqq
        have h9 := hqq d hd
        simp only [Bool.or_eq_true, List.any_eq_true] at h9
        rcases h9 with h9 | ⟨e, he, h9⟩
        · exact hdir9 d (by simpa using h9)
        · exact hc e (hdir9 e he) d (by simpa using h9)
      have hqq := hop q o9 ho9
      simp only [ho9, Bool.and_eq_true] at hqq
      obtain ⟨⟨⟨_, hqD0⟩, _⟩, hqsl⟩ := hqq
      rw [List.all_eq_true] at hqD0
      obtain ⟨oq, v, hoq, hY, hVq⟩ := hq hq1 hq0 x W (fun d hd => hV d (hDq d hd) (by have := hqD0 d hd; simpa using this))
      rw [ho9] at hoq
      injection hoq with hoq
      subst hoq
      refine wpAny_take (i := q) (v := v) ho9 hns hfree hrd (fun c a w h9 => by rw [ho9] at ho0; injection ho0 with ho0; subst ho0; exact hQ _ c a w h9) hY ?_
      rw [frOf_put (i := q) ?_ ?_]
      · refine ih (listed.setIfInBounds q true) (upd x q v) W (by simpa using hs) ?_ ?_ ?_ ?_ (hI1 f W hI) ?_
        · have h9 := unl_set listed.toList q (by
            have hbi := hql
            unfold bit at hbi
            rw [Array.getElem?_toList, Array.getElem?_eq_getElem (by omega)]
            rw [Array.getD_eq_getD_getElem?, Array.getElem?_eq_getElem (by omega)] at hbi
            simpa using hbi)
          rw [Array.toList_setIfInBounds]
          omega
        · intro j hj
          rw [bit_set (by omega)]
          split
          · rfl
          · exact h0 j hj
        · intro j hj
          rw [bit_set (by omega)] at hj
          split at hj
          · rename_i he; subst he; exact hq1
          · exact h1 j hj
        · intro j hj d hd
          rw [bit_set (by omega)] at hj ⊢
          split
          · rfl
          · split at hj
            · rename_i he; subst he; exact hDq d hd
            · exact hc j hj d hd
        · intro j hj hj0
          rw [bit_set (by omega)] at hj
          by_cases he : q = j
          · subst he; rw [upd_self]; exact hVq
          · rw [if_neg he] at hj
            rw [upd_ne (fun e => he e.symm)]
            exact hV j hj hj0
      · intro d hd
        rw [hd, hq0, hq1] at hqsl
        simp at hqsl
        exact hqsl.1
      · intro p hp hpi
        rw [hq0, hq1] at hqsl
        cases hd : o9.dst with
        | none =>
          rw [hd] at hqsl
          simp at hqsl
          exact absurd hpi (hqsl p.1 p.2 hp)
        | some d =>
          rw [hd] at hqsl
          simp at hqsl
          have := (hqsl.2 p.1 p.2 hp).resolve_left (fun h => h hpi)
          rw [this]
    · have hex : ∃ j, bit L1 j = true ∧ j ≠ q ∧ bit listed j = false := by
        apply Classical.byContradiction
        intro hno
        apply hcore
        intro j hj hjq
        cases hb : bit listed j with
        | true => rfl
        | false => exact absurd ⟨j, hj, hjq, hb⟩ hno
      obtain ⟨j1, hj1, hj1q, hj1f⟩ := hex
      have hj1lt : j1 < ops.size := by have := bit_lt hj1; omega
      have htailno : ∀ i o, ops[i]? = some o → (∀ d ∈ (D.lookup i).getD [], bit listed d = true) → bit L1 i = true := by
        intro i o ho hD
        have hq := hop i o ho
        simp only [ho, Bool.and_eq_true] at hq
        obtain ⟨⟨_, hq⟩, _⟩ := hq
        cases hb : bit L1 i with
        | true => rfl
        | false =>
          exfalso
          rw [hb, Bool.false_or] at hq
          have h9 := range_all hq hj1lt
          rw [hj1] at h9
          simp only [Bool.not_true, Bool.false_or, Bool.or_eq_true] at h9
          rcases h9 with (h9 | h9) | h9
          · have := h0 j1 h9; rw [hj1f] at this; cases this
          · exact hj1q (by simpa using h9)
          · have := hD j1 (by simpa using h9); rw [hj1f] at this; cases this
      have hDready : ∀ i o, ops[i]? = some o → (∀ e ∈ direct o, bit listed e = true) → ∀ d ∈ (D.lookup i).getD [], bit listed d = true := by
        intro i o ho hdir d hd
        have hq := hop i o ho
        simp only [ho, Bool.and_eq_true] at hq
        obtain ⟨⟨⟨⟨⟨⟨⟨_, _⟩, _⟩, hq⟩, _⟩, _⟩, _⟩, _⟩ := hq
        rw [List.all_eq_true] at hq
        have h9 := hq d hd
        simp only [Bool.or_eq_true, List.any_eq_true] at h9
        rcases h9 with h9 | ⟨e, he, h9⟩
        · exact hdir d (by simpa using h9)
        · exact hc e (hdir e he) d (by simpa using h9)
      have hrne : Region.ready .any ops listed ≠ [] := by
        have hleast : ∀ k, k ≤ ops.size → (∀ j, j < k → bit listed j = true) ∨ ∃ j, j < k ∧ j ∈ Region.ready .any ops listed := by
          intro k
          induction k with
          | zero => intro _; exact .inl (fun j hj => by omega)
          | succ k ihk =>
            intro hk
            rcases ihk (by omega) with h9 | ⟨j, hj, h9⟩
            · cases hb : bit listed k with
              | true => exact .inl (fun j hj => by
                  by_cases h8 : j = k
                  · subst h8; exact hb
                  · exact h9 j (by omega))
              | false =>
                refine .inr ⟨k, by omega, (ready_iff hs).2 ⟨ops[k], Array.getElem?_eq_getElem (by omega), hb, ?_⟩⟩
                have hq := hop k ops[k] (Array.getElem?_eq_getElem (by omega))
                simp only [Array.getElem?_eq_getElem (show k < ops.size by omega), Bool.and_eq_true] at hq
                obtain ⟨⟨⟨⟨⟨⟨⟨hq, _⟩, _⟩, _⟩, _⟩, _⟩, _⟩, _⟩ := hq
                rw [List.all_eq_true] at hq
                intro e he
                have h8 := hq e he
                exact h9 e (by simpa using h8)
            · exact .inr ⟨j, by omega, h9⟩
        rcases hleast ops.size (Nat.le_refl _) with h9 | ⟨j, _, h9⟩
        · have := h9 j1 hj1lt; rw [hj1f] at this; cases this
        · intro e; rw [e] at h9; cases h9
      refine ⟨fun e => absurd e hrne, fun i hi => ?_⟩
      obtain ⟨o, ho, hbi, hdir⟩ := (ready_iff hs).1 hi
      have hilt : i < ops.size := by
        apply Nat.lt_of_not_le; intro hge; rw [Array.getElem?_eq_none hge] at ho; cases ho
      have hDl := hDready i o ho hdir
      have hi1 := htailno i o ho hDl
      have hi0 : bit L0 i = false := by
        cases hb : bit L0 i with
        | false => rfl
        | true => have := h0 i hb; rw [hbi] at this; cases this
      have hq := hop i o ho
      simp only [ho, Bool.and_eq_true] at hq
      obtain ⟨⟨⟨⟨⟨⟨⟨_, _⟩, hqrs⟩, _⟩, _⟩, hqD0⟩, _⟩, hqsl⟩ := hq
      have hirs : i ∈ rs := by
        rw [hi1, hi0] at hqrs
        simpa using hqrs
      rw [List.all_eq_true] at hqD0
      refine wpOp_mono ?_ (hstep i hirs x W f hI (fun d hd => hV d (hDl d hd) (by have := hqD0 d hd; simpa using this)))
      rintro a' W' ⟨v, o', ho', rfl, hG, hI', hVi⟩
      rw [ho] at ho'
      injection ho' with ho'
      subst ho'
      rw [frOf_put (i := i) ?_ ?_]
      · refine ih (listed.setIfInBounds i true) (upd x i v) W' (by simpa using hs) ?_ ?_ ?_ ?_ hI' ?_
        · have h9 := unl_set listed.toList i (by
            unfold bit at hbi
            rw [Array.getElem?_toList, Array.getElem?_eq_getElem (by omega)]
            rw [Array.getD_eq_getD_getElem?, Array.getElem?_eq_getElem (by omega)] at hbi
            simpa using hbi)
          rw [Array.toList_setIfInBounds]
          omega
        · intro j hj
          rw [bit_set (by omega)]
          split
          · rfl
          · exact h0 j hj
        · intro j hj
          rw [bit_set (by omega)] at hj
          split at hj
          · rename_i he; subst he; exact hi1
          · exact h1 j hj
        · intro j hj d hd
          rw [bit_set (by omega)] at hj ⊢
          split
          · rfl
          · split at hj
            · rename_i he; subst he; exact hDl d hd
            · exact hc j hj d hd
        · intro j hj hj0
          rw [bit_set (by omega)] at hj
          by_cases he : i = j
          · subst he; rw [upd_self]; exact hVi
          · rw [if_neg he] at hj
            rw [upd_ne (fun e => he e.symm)]
            exact hmono j _ W W' hG (hV j hj hj0)
      · intro d hd
        rw [hd, hi0, hi1] at hqsl
        simp at hqsl
        exact hqsl.1
      · intro p hp hpi
        rw [hi0, hi1] at hqsl
        cases hd : o.dst with
        | none =>
          rw [hd] at hqsl
          simp at hqsl
          exact absurd hpi (hqsl p.1 p.2 hp)
        | some d =>
          rw [hd] at hqsl
          simp at hqsl
          have := (hqsl.2 p.1 p.2 hp).resolve_left (fun h => h hpi)
          rw [this]
theorem rel_atq (q : Nat) {R : Nat → Array Bool → Act → World → Prop} (hR : R = wpAny P .any ops Q) {f0 : Nat} {L0 : Array Bool} {a : Act} {W0 : World}
    (I : Nat → World → Prop) (VL : List (Value → World → Prop)) (G : World → World → Prop) (D : List (Nat × List Nat)) (sl : List (Nat × Nat)) (rs : List Nat) (L1 : Array Bool) (n0 k1 : Nat)
    {fr : (Nat → Value) → Act} (hchk : (relChkq q ops L0 L1 rs D sl && (rs.all fun i => bit L1 i && !bit L0 i) && (sl.all fun p => sl.all fun q => p.2 != q.2 || p.1 == q.1) && (unl L1.toList == k1) && (unl L0.toList == n0)) = true) (hn0 : f0 = n0)
    {o0 : Oper} (ho0 : ops[q]? = some o0) (hQ : ∀ (v : Value) c a w, Q (.panic c) (a.put o0.dst v) w → Q (.panic c) a w) (hfq : (bit L1 q && !bit L0 q && Region.noSelect ops && Region.free .any ops (L1.setIfInBounds q false) q && (Region.ready .any ops (L1.setIfInBounds q false)).contains q) = true)
    (hI1 : ∀ f W, I (f + 1) W → I f W) (hfr : ∀ x, frOf a sl x = fr x) (h0 : I n0 W0) (hmono : ∀ p ∈ VL, ∀ v W W', G W W' → p v W → p v W')
    (hq : ∀ x W, (∀ d ∈ (D.lookup q).getD [], VV VL d (x d) W) → ∃ oq v, ops[q]? = some oq ∧ Yields P ops oq v (fr x) ∧ VV VL q v W)
    (hsteps : ∀ i ∈ rs, RStep P ops Q fr I (VV VL) G D i)
    (hend : ∀ x W, I k1 W → (∀ i ∈ rs, VV VL i (x i) W) → R k1 L1 (fr x) W) : R f0 L0 a W0 := by
  subst hR
  subst hn0
  simp only [Bool.and_eq_true] at hchk
  obtain ⟨⟨⟨⟨hchk, hrs⟩, hsl⟩, hk⟩, hk0⟩ := hchk
  have hk : unl L1.toList = k1 := by simpa using hk
  have hk0 : unl L0.toList = f0 := by simpa using hk0
  have hfe : frOf a sl = fr := funext hfr
  subst hfe
  obtain ⟨x0, hx0⟩ := frOf_self a sl hsl
  have hmono' : ∀ i v W W', G W W' → VV VL i v W → VV VL i v W' := by
    intro i v W W' hG h
    unfold VV at h ⊢
    cases hp : VL[i]? with
    | none => trivial
    | some p => rw [hp] at h; exact hmono p (List.mem_of_getElem? hp) v W W' hG h
  have hL : ∀ j, bit L0 j = true → ((D.lookup j).getD []) = [] ∧ bit L1 j = true := by
    intro j hj
    have hc := hchk
    unfold relChkq at hc
    simp only [Bool.and_eq_true] at hc
    obtain ⟨⟨hz0, hz1⟩, hall⟩ := hc
    have hz0 : L0.size = ops.size := by simpa using hz0
    have hjl : j < ops.size := by have := bit_lt hj; omega
    have hq := range_all hall hjl
    simp only [Array.getElem?_eq_getElem hjl, Bool.and_eq_true] at hq
    obtain ⟨⟨⟨⟨⟨⟨⟨_, h1⟩, _⟩, _⟩, h2⟩, _⟩, _⟩, _⟩ := hq
    rw [hj] at h1 h2
    exact ⟨by simpa using h2, by simpa using h1⟩
  have hz0 : L0.size = ops.size := by
    have hc := hchk
    unfold relChkq at hc
    simp only [Bool.and_eq_true] at hc
    simpa using hc.1.1
  have h9 := wpAny_relq q (P := P) (Q := Q) (a := a) (I := I) (L0 := L0) (L1 := L1) hchk ho0 hQ (fun _ _ => hq) (fun _ _ => by simp only [Bool.and_eq_true] at hfq ⊢; exact ⟨⟨hfq.1.1.2, hfq.1.2⟩, hfq.2⟩) hI1 hmono' hsteps
    (fun x W hI hV => by
      rw [hk] at hI ⊢
      refine hend x W hI (fun i hi => ?_)
      rw [List.all_eq_true] at hrs
      have := hrs i hi
      simp only [Bool.and_eq_true, Bool.not_eq_true'] at this
      exact hV i this.1 this.2)
    f0 L0 x0 W0 hz0 hk0 (fun j hj => hj) (fun j hj => (hL j hj).2) (fun j hj d hd => by rw [(hL j hj).1] at hd; cases hd) h0 (fun j hj hj0 => by rw [hj0] at hj; cases hj)
  rw [hx0] at h9
  exact h9
end
end Go.Proofs.Yteilaalababfpaa