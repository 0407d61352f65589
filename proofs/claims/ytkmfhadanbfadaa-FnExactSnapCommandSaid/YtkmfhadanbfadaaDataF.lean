/- Marking and snapshots brought to their ends, and freeing, as plain functions; that steps keep painted heaps and snapshots valid. -/
import Derived.Test.YtkmfhadanbfadaaDataS
namespace Go.Proofs.Ytkmfhadanbfadaa
set_option linter.unusedVariables false
/-! ### Colours -/
theorem whiteM_iff {cols : List Int} {r : Int} : whiteM cols r = true ↔ 0 ≤ r ∧ cols[r.toNat]? = some 0 := by
  unfold whiteM
  cases cols[r.toNat]? with
  | none => simp
  | some c => simp
theorem anyWhite_false {cols : List Int} {rs : List Int} : anyWhite cols rs = false ↔ ∀ r ∈ rs, 0 ≤ r → cols[r.toNat]? ≠ some 0 := by
  unfold anyWhite
  rw [← Bool.not_eq_true, List.any_eq_true]
  simp only [whiteM_iff]
  grind
theorem grey1_at {cols : List Int} {r : Int} {k : Nat} {c : Int} (h : cols[k]? = some c) : (grey1 cols r)[k]? = some (if c = 0 ∧ r = (k : Int) then 1 else c) := by
  unfold grey1
  have hk := (List.getElem?_eq_some_iff.1 h).1
  split
  · rename_i hw
    obtain ⟨h0, h1⟩ := whiteM_iff.1 hw
    rw [List.getElem?_set]
    by_cases e : r.toNat = k
    · subst e
      rw [h] at h1
      injection h1 with h1
      rw [if_pos rfl, if_pos hk, if_pos ⟨h1, by omega⟩]
    · rw [if_neg e, h, if_neg (by rintro ⟨_, rfl⟩; omega)]
  · rename_i hw
    rw [h, if_neg]
    rintro ⟨rfl, rfl⟩
    exact hw (whiteM_iff.2 ⟨by omega, by simpa using h⟩)
theorem greyL_at (rs : List Int) : ∀ {cols : List Int} {k : Nat} {c : Int}, cols[k]? = some c → (greyL cols rs)[k]? = some (if c = 0 ∧ (k : Int) ∈ rs then 1 else c) := by
  induction rs with
  | nil => intro cols k c h; simpa [greyL] using h
  | cons r rs ih =>
    intro cols k c h
    have h1 := ih (grey1_at (r := r) h)
    show (greyL (grey1 cols r) rs)[k]? = _
    rw [h1]
    congr 1
    by_cases hc : c = 0 <;> by_cases hr : r = (k : Int) <;> by_cases hm : (k : Int) ∈ rs <;> grind
def wt (c : Int) : Nat := if c = 0 then 2 else if c = 1 then 1 else 0
def muP (cols : List Int) : Nat := (cols.map wt).sum
theorem muP_set {cols : List Int} : ∀ {k : Nat} {x y : Int}, cols[k]? = some y → muP (cols.set k x) + wt y = muP cols + wt x := by
  induction cols with
  | nil => intro k x y h; simp at h
  | cons a l ih =>
    intro k x y h
    cases k with
    | zero => simp at h; subst h; simp [muP]; omega
    | succ k =>
      have := ih (k := k) (x := x) (by simpa using h)
      simp only [muP, List.set_cons_succ, List.map_cons, List.sum_cons] at this ⊢
      omega
theorem grey1_mu (cols : List Int) (r : Int) : muP (grey1 cols r) ≤ muP cols := by
  unfold grey1
  split
  · rename_i hw
    have := muP_set (x := 1) (whiteM_iff.1 hw).2
    have h1 : wt 0 = 2 := rfl
    have h2 : wt 1 = 1 := rfl
    omega
  · omega
theorem greyL_mu (rs : List Int) : ∀ cols : List Int, muP (greyL cols rs) ≤ muP cols := by
  induction rs with
  | nil => intro cols; exact Nat.le_refl _
  | cons r rs ih => intro cols; exact Nat.le_trans (ih (grey1 cols r)) (grey1_mu cols r)
theorem stepP_mu {p : PaintM} (h : (stepP p).2 = true) : muP (stepP p).1.colours < muP p.colours := by
  unfold stepP at h ⊢
  split at h
  · cases h
  · rename_i k hk
    obtain ⟨x, hx, hp, _⟩ := firstB_at hk
    have hx1 : x = 1 := by simpa [isGrey] using hp
    subst hx1
    have h1 := greyL_at (refsAt p.store k) hx
    rw [if_neg (by simp)] at h1
    have h2 := muP_set (x := 2) h1
    have h3 := greyL_mu (refsAt p.store k) p.colours
    have w1 : wt 1 = 1 := rfl
    have w2 : wt 2 = 0 := rfl
    show muP ((greyL p.colours (refsAt p.store k)).set k 2) < muP p.colours
    omega
/-- Steps, until there is no grey cell. -/
def endP (p : PaintM) : PaintM := if h : (stepP p).2 = true then endP (stepP p).1 else p
  termination_by muP p.colours
  decreasing_by exact stepP_mu h
theorem endP_step {p : PaintM} (h : (stepP p).2 = true) : endP p = endP (stepP p).1 := by rw [endP, dif_pos h]
theorem endP_done {p : PaintM} (h : (stepP p).2 = false) : endP p = p := by rw [endP, dif_neg (by simp [h])]
theorem endP_ind {P : PaintM → Prop} (hs : ∀ p, P p → P (stepP p).1) : ∀ (n : Nat) (p : PaintM), muP p.colours ≤ n → P p → P (endP p) := by
  intro n
  induction n with
  | zero =>
    intro p hn hp
    cases h : (stepP p).2
    · rw [endP_done h]; exact hp
    · have := stepP_mu h; omega
  | succ n ih =>
    intro p hn hp
    cases h : (stepP p).2
    · rw [endP_done h]; exact hp
    · rw [endP_step h]; exact ih _ (by have := stepP_mu h; omega) (hs p hp)
theorem endP_keeps {P : PaintM → Prop} (hs : ∀ p, P p → P (stepP p).1) {p : PaintM} (hp : P p) : P (endP p) := endP_ind hs _ p (Nat.le_refl _) hp
theorem endP_final (p : PaintM) : (stepP (endP p)).2 = false := by
  have key : ∀ (n : Nat) (p : PaintM), muP p.colours ≤ n → (stepP (endP p)).2 = false := by
    intro n
    induction n with
    | zero =>
      intro p hn
      cases h : (stepP p).2
      · rw [endP_done h]; exact h
      · have := stepP_mu h; omega
    | succ n ih =>
      intro p hn
      cases h : (stepP p).2
      · rw [endP_done h]; exact h
      · rw [endP_step h]; exact ih _ (by have := stepP_mu h; omega)
  exact key _ p (Nat.le_refl _)
theorem paintM_iff {p : PaintM} : paintM p = true ↔ validM p.store = true ∧ p.colours.length = p.store.cells.length ∧
    (∀ (k : Nat) (col : Int) (c : CellM), p.colours[k]? = some col → p.store.cells[k]? = some c → (0 ≤ col ∧ col ≤ 2) ∧ (col ≠ 0 → c.used = true ∧ p.active = true) ∧ (col = 2 → ∀ r ∈ c.refs, 0 ≤ r → p.colours[r.toNat]? ≠ some 0)) ∧
    (p.active = true → ∀ r ∈ p.store.roots, 0 ≤ r → p.colours[r.toNat]? ≠ some 0) := by
  have hz : (p.colours.zip p.store.cells).all (cellPaint p.colours p.active) = true ↔ ∀ (k : Nat) (col : Int) (c : CellM), p.colours[k]? = some col → p.store.cells[k]? = some c → cellPaint p.colours p.active (col, c) = true := by
    rw [List.all_eq_true]
    constructor
    · intro h k col c h1 h2
      exact h (col, c) (List.mem_of_getElem? (i := k) (by rw [List.getElem?_zip_eq_some]; exact ⟨h1, h2⟩))
    · rintro h ⟨col, c⟩ hm
      obtain ⟨k, hk⟩ := List.mem_iff_getElem?.1 hm
      rw [List.getElem?_zip_eq_some] at hk
      exact h k col c hk.1 hk.2
  have hc : ∀ (col : Int) (c : CellM), cellPaint p.colours p.active (col, c) = true ↔ (0 ≤ col ∧ col ≤ 2) ∧ (col ≠ 0 → c.used = true ∧ p.active = true) ∧ (col = 2 → ∀ r ∈ c.refs, 0 ≤ r → p.colours[r.toNat]? ≠ some 0) := by
    intro col c
    unfold cellPaint
    simp only [Bool.and_eq_true, inB_iff, Bool.or_eq_true, beq_iff_eq, Bool.not_eq_true', Bool.and_eq_false_iff, anyWhite_false]
    by_cases h0 : col = 0 <;> by_cases h2 : col = 2 <;> simp [h0, h2]
    all_goals (try omega)
  unfold paintM
  simp only [Bool.and_eq_true, decide_eq_true_eq, hz, hc, Bool.or_eq_true, Bool.not_eq_true', anyWhite_false]
  constructor
  · rintro ⟨⟨⟨h1, h2⟩, h3⟩, h4⟩
    exact ⟨h1, h2, h3, fun ha => h4.resolve_left (by simp [ha])⟩
  · rintro ⟨h1, h2, h3, h4⟩
    refine ⟨⟨⟨h1, h2⟩, h3⟩, ?_⟩
    cases ha : p.active
    · exact .inl rfl
    · exact .inr (h4 ha)
theorem valid_used {h : HeapM} {r : Int} (hr : leadsM h.cells r = true) (h0 : 0 ≤ r) : ∃ c, h.cells[r.toNat]? = some c ∧ c.used = true := by
  unfold leadsM usedAt at hr
  cases hc : h.cells[r.toNat]? with
  | none => simp [hc] at hr; omega
  | some c =>
    rw [hc] at hr
    simp at hr
    rcases hr with hr | hr
    · omega
    · exact ⟨c, rfl, hr.2⟩
/-- A step of marking keeps a painted heap valid. -/
theorem paintM_step {p : PaintM} (h : paintM p = true) : paintM (stepP p).1 = true := by
  unfold stepP
  split
  · exact h
  · rename_i k hk
    obtain ⟨x, hx, hp, _⟩ := firstB_at hk
    have hx1 : x = 1 := by simpa [isGrey] using hp
    subst hx1
    obtain ⟨h1, h2, h3, h4⟩ := paintM_iff.1 h
    have hkl := (List.getElem?_eq_some_iff.1 hx).1
    obtain ⟨c, hc⟩ : ∃ c, p.store.cells[k]? = some c := ⟨_, List.getElem?_eq_getElem (by omega)⟩
    obtain ⟨-, hua, -⟩ := h3 k 1 c hx hc
    obtain ⟨hcu, hact⟩ := hua (by decide)
    rw [refsAt_of hc]
    have hlead := (validM_leads h1).1 c (List.mem_of_getElem? hc)
    have key : ∀ i col, p.colours[i]? = some col → ((greyL p.colours c.refs).set k 2)[i]? = some (if i = k then 2 else if col = 0 ∧ (i : Int) ∈ c.refs then 1 else col) := by
      intro i col hi
      rw [List.getElem?_set]
      by_cases e : k = i
      · subst e
        rw [if_pos rfl, if_pos (by rw [greyL_len]; exact hkl), if_pos rfl]
      · rw [if_neg e, greyL_at _ hi, if_neg (show ¬ i = k from fun e' => e e'.symm)]
    have hlen : ((greyL p.colours c.refs).set k 2).length = p.colours.length := by simp [greyL_len]
    have old : ∀ {i : Nat} {col' : Int}, ((greyL p.colours c.refs).set k 2)[i]? = some col' → ∃ col, p.colours[i]? = some col ∧ col' = (if i = k then 2 else if col = 0 ∧ (i : Int) ∈ c.refs then 1 else col) := by
      intro i col' hi
      have hil : i < p.colours.length := by rw [← hlen]; exact (List.getElem?_eq_some_iff.1 hi).1
      refine ⟨_, List.getElem?_eq_getElem hil, ?_⟩
      rw [key i _ (List.getElem?_eq_getElem hil)] at hi
      injection hi with hi
      exact hi.symm
    have mono : ∀ {i : Nat}, ((greyL p.colours c.refs).set k 2)[i]? = some 0 → p.colours[i]? = some 0 ∧ i ≠ k ∧ (i : Int) ∉ c.refs := by
      intro i hi
      obtain ⟨col, h5, h6⟩ := old hi
      grind
    refine paintM_iff.2 ⟨h1, by show ((greyL p.colours c.refs).set k 2).length = _; rw [hlen, h2], ?_, ?_⟩
    · intro i col' d hi hd
      obtain ⟨col, h5, h6⟩ := old hi
      obtain ⟨g1, g2, g3⟩ := h3 i col d h5 hd
      refine ⟨by subst h6; split <;> (try split) <;> omega, ?_, ?_⟩
      · intro hne
        by_cases e : i = k
        · subst e
          rw [hc] at hd
          injection hd with hd
          subst hd
          exact ⟨hcu, hact⟩
        · by_cases e0 : col = 0
          · have him : (i : Int) ∈ c.refs := by grind
            obtain ⟨c2, hc2, hu2⟩ := valid_used (hlead _ him) (by omega)
            rw [show ((i : Int)).toNat = i by omega, hd] at hc2
            injection hc2 with hc2
            subst hc2
            exact ⟨hu2, hact⟩
          · exact ⟨(g2 e0).1, hact⟩
      · intro h2' r hr h0 hw
        obtain ⟨m1, m2, m3⟩ := mono hw
        rw [show ((r.toNat : Nat) : Int) = r by omega] at m3
        by_cases e : i = k
        · subst e
          rw [hc] at hd
          injection hd with hd
          subst hd
          exact m3 hr
        · have : col = 2 := by grind
          exact g3 this r hr h0 m1
    · intro _ r hr h0 hw
      exact h4 hact r hr h0 (mono hw).1
end Go.Proofs.Ytkmfhadanbfadaa
