/- Snapshots brought to their ends, and freeing, as plain functions. -/
import Derived.Test.YtkmfhadanbfadaaDataF
namespace Go.Proofs.Ytkmfhadanbfadaa
set_option linter.unusedVariables false
theorem sum_set {α : Type} (f : α → Nat) : ∀ {l : List α} {k : Nat} {x y : α}, l[k]? = some y → ((l.set k x).map f).sum + f y = (l.map f).sum + f x := by
  intro l
  induction l with
  | nil => intro k x y h; simp at h
  | cons a l ih =>
    intro k x y h
    cases k with
    | zero => simp at h; subst h; simp; omega
    | succ k =>
      have := ih (k := k) (x := x) (by simpa using h)
      simp only [List.set_cons_succ, List.map_cons, List.sum_cons] at this ⊢
      omega
def wx (b : Bool) : Nat := if b then 0 else 2
def wy (b : Bool) : Nat := if b then 1 else 0
def muS (xy : List Bool × List Bool) : Nat := (xy.1.map wx).sum + (xy.2.map wy).sum
theorem meet1_mu {xy : List Bool × List Bool} (hl : xy.2.length = xy.1.length) (r : Int) : muS (meet1 xy r) ≤ muS xy := by
  unfold meet1
  split
  · rename_i hw
    have h1 := sum_set wx (x := true) hw.2
    have hk := (List.getElem?_eq_some_iff.1 hw.2).1
    have h2 := sum_set wy (x := true) (List.getElem?_eq_getElem (l := xy.2) (i := r.toNat) (by omega))
    have e1 : wx false = 2 := rfl
    have e2 : wx true = 0 := rfl
    have e3 : wy true = 1 := rfl
    have e4 : wy (xy.2[r.toNat]'(by omega)) ≤ 1 := by unfold wy; split <;> omega
    unfold muS
    simp only
    omega
  · exact Nat.le_refl _
theorem meetL_mu (rs : List Int) : ∀ xy : List Bool × List Bool, xy.2.length = xy.1.length → muS (meetL xy rs) ≤ muS xy := by
  induction rs with
  | nil => intro xy _; exact Nat.le_refl _
  | cons r rs ih =>
    intro xy hl
    have h1 := meet1_len xy r
    exact Nat.le_trans (ih (meet1 xy r) (by omega)) (meet1_mu hl r)
theorem stepS_mu {p : TwoM} (hl : p.y.length = p.x.length) (h : (stepS p).2 = true) : muS ((stepS p).1.x, (stepS p).1.y) < muS (p.x, p.y) := by
  unfold stepS at h ⊢
  split at h
  · cases h
  · rename_i k hk
    obtain ⟨x, hx, hp, _⟩ := firstB_at hk
    have hx1 : x = true := hp
    subst hx1
    have h2 := sum_set wy (x := false) hx
    have h3 := meetL_mu (refsAt p.store k) (p.x, p.y.set k false) (by simpa using hl)
    have e3 : wy true = 1 := rfl
    have e4 : wy false = 0 := rfl
    show muS ((meetL (p.x, p.y.set k false) (refsAt p.store k)).1, (meetL (p.x, p.y.set k false) (refsAt p.store k)).2) < muS (p.x, p.y)
    have e5 : muS (p.x, p.y.set k false) < muS (p.x, p.y) := by unfold muS; simp only; omega
    exact Nat.lt_of_le_of_lt h3 e5
theorem stepS_lens {p : TwoM} (hl : p.y.length = p.x.length) : (stepS p).1.y.length = (stepS p).1.x.length := by
  unfold stepS
  split
  · exact hl
  · have := meetL_len (refsAt p.store ‹Nat›) (p.x, p.y.set ‹Nat› false)
    simp only [this.1, this.2, List.length_set, hl]
/-- Steps, until no cell waits. -/
def endS (p : TwoM) : TwoM := if h : p.y.length = p.x.length ∧ (stepS p).2 = true then endS (stepS p).1 else p
  termination_by muS (p.x, p.y)
  decreasing_by exact stepS_mu h.1 h.2
theorem endS_step {p : TwoM} (hl : p.y.length = p.x.length) (h : (stepS p).2 = true) : endS p = endS (stepS p).1 := by rw [endS, dif_pos ⟨hl, h⟩]
theorem endS_done {p : TwoM} (h : (stepS p).2 = false) : endS p = p := by rw [endS, dif_neg (by simp [h])]
theorem endS_ind {P : TwoM → Prop} (hs : ∀ p, P p → P (stepS p).1) : ∀ (n : Nat) (p : TwoM), p.y.length = p.x.length → muS (p.x, p.y) ≤ n → P p → P (endS p) ∧ (stepS (endS p)).2 = false := by
  intro n
  induction n with
  | zero =>
    intro p hl hn hp
    cases h : (stepS p).2
    · rw [endS_done h]; exact ⟨hp, h⟩
    · have := stepS_mu hl h; omega
  | succ n ih =>
    intro p hl hn hp
    cases h : (stepS p).2
    · rw [endS_done h]; exact ⟨hp, h⟩
    · rw [endS_step hl h]; exact ih _ (stepS_lens hl) (by have := stepS_mu hl h; omega) (hs p hp)
theorem endS_keeps {P : TwoM → Prop} (hs : ∀ p, P p → P (stepS p).1) {p : TwoM} (hl : p.y.length = p.x.length) (hp : P p) : P (endS p) := (endS_ind hs _ p hl (Nat.le_refl _) hp).1
theorem endS_final {p : TwoM} (hl : p.y.length = p.x.length) : (stepS (endS p)).2 = false := (endS_ind (P := fun _ => True) (fun _ _ => trivial) _ p hl (Nat.le_refl _) trivial).2
theorem meet1_at {xy : List Bool × List Bool} {r : Int} {k : Nat} {a b : Bool} (h1 : xy.1[k]? = some a) (h2 : xy.2[k]? = some b) :
    (meet1 xy r).1[k]? = some (a || decide (r = (k : Int))) ∧ (meet1 xy r).2[k]? = some (b || (!a && decide (r = (k : Int)))) := by
  have hk := (List.getElem?_eq_some_iff.1 h1).1
  have hk2 := (List.getElem?_eq_some_iff.1 h2).1
  unfold meet1
  split
  · rename_i hw
    by_cases e : r.toNat = k
    · subst e
      rw [h1] at hw
      have ha : a = false := by have := hw.2; injection this
      have hr : r = (r.toNat : Int) := by omega
      subst ha
      rw [List.getElem?_set, List.getElem?_set, if_pos rfl, if_pos rfl, if_pos hk, if_pos hk2]
      simp [← hr]
    · have hr : ¬ r = (k : Int) := by omega
      rw [List.getElem?_set, List.getElem?_set, if_neg e, if_neg e, h1, h2]
      simp [hr]
  · rename_i hw
    rw [h1, h2]
    by_cases hr : r = (k : Int)
    · subst hr
      have ha : a = true := by
        cases a
        · exact absurd ⟨by omega, by simpa using h1⟩ hw
        · rfl
      simp [ha]
    · simp [hr]
theorem meetL_at (rs : List Int) : ∀ {xy : List Bool × List Bool} {k : Nat} {a b : Bool}, xy.1[k]? = some a → xy.2[k]? = some b →
    (meetL xy rs).1[k]? = some (a || decide ((k : Int) ∈ rs)) ∧ (meetL xy rs).2[k]? = some (b || (!a && decide ((k : Int) ∈ rs))) := by
  induction rs with
  | nil => intro xy k a b h1 h2; simp [meetL, h1, h2]
  | cons r rs ih =>
    intro xy k a b h1 h2
    obtain ⟨g1, g2⟩ := meet1_at (r := r) h1 h2
    obtain ⟨i1, i2⟩ := ih g1 g2
    show (meetL (meet1 xy r) rs).1[k]? = _ ∧ (meetL (meet1 xy r) rs).2[k]? = _
    rw [i1, i2]
    have e : decide ((k : Int) ∈ r :: rs) = (decide (r = (k : Int)) || decide ((k : Int) ∈ rs)) := by
      by_cases hr : r = (k : Int) <;> simp [hr]
      intro h; exact absurd h.symm hr
    rw [e]
    cases a <;> cases b <;> cases decide (r = (k : Int)) <;> simp
theorem snapM_iff {p : TwoM} : snapM p = true ↔ validM p.store = true ∧ p.x.length = p.store.cells.length ∧ p.y.length = p.store.cells.length ∧
    ∀ (k : Nat) (c : CellM) (a b : Bool), p.store.cells[k]? = some c → p.x[k]? = some a → p.y[k]? = some b → (b = true → a = true) ∧ (a = true → c.used = true) := by
  unfold snapM
  simp only [Bool.and_eq_true, decide_eq_true_eq, all_range]
  constructor
  · rintro ⟨⟨⟨h1, h2⟩, h3⟩, h4⟩
    refine ⟨h1, h2, h3, fun k c a b hc ha hb => ?_⟩
    have := h4 k (List.getElem?_eq_some_iff.1 hc).1
    unfold snapOk at this
    rw [getD_of ha, getD_of hb, usedN_at hc] at this
    cases a <;> cases b <;> simp_all
  · rintro ⟨h1, h2, h3, h4⟩
    refine ⟨⟨⟨h1, h2⟩, h3⟩, fun k hk => ?_⟩
    have hc := List.getElem?_eq_getElem (l := p.store.cells) (i := k) hk
    have ha := List.getElem?_eq_getElem (l := p.x) (i := k) (by omega)
    have hb := List.getElem?_eq_getElem (l := p.y) (i := k) (by omega)
    have := h4 k _ _ _ hc ha hb
    unfold snapOk
    rw [getD_of ha, getD_of hb, usedN_at hc]
    revert this
    cases p.x[k]'(by omega) <;> cases p.y[k]'(by omega) <;> simp
/-- A step of marking keeps a snapshot valid. -/
theorem snapM_step {p : TwoM} (h : snapM p = true) : snapM (stepS p).1 = true := by
  unfold stepS
  split
  · exact h
  · rename_i k hk
    obtain ⟨x, hx, hp, _⟩ := firstB_at hk
    obtain ⟨h1, h2, h3, h4⟩ := snapM_iff.1 h
    have hkl := (List.getElem?_eq_some_iff.1 hx).1
    obtain ⟨c, hc⟩ : ∃ c, p.store.cells[k]? = some c := ⟨_, List.getElem?_eq_getElem (by omega)⟩
    rw [refsAt_of hc]
    have hlead := (validM_leads h1).1 c (List.mem_of_getElem? hc)
    have hlen := meetL_len c.refs (p.x, p.y.set k false)
    refine snapM_iff.2 ⟨h1, by rw [← h2]; exact hlen.1, by rw [← h3]; exact hlen.2.trans (by simp), fun i d a b hd ha hb => ?_⟩
    have hil : i < p.store.cells.length := (List.getElem?_eq_some_iff.1 hd).1
    have ga := List.getElem?_eq_getElem (l := p.x) (i := i) (by omega)
    have gb := List.getElem?_eq_getElem (l := p.y.set k false) (i := i) (by simp; omega)
    obtain ⟨m1, m2⟩ := meetL_at c.refs (xy := (p.x, p.y.set k false)) ga gb
    have gy := List.getElem?_eq_getElem (l := p.y) (i := i) (by omega)
    obtain ⟨o1, o2⟩ := h4 i d _ _ hd ga gy
    simp only at ha hb
    rw [m1] at ha
    rw [m2] at hb
    injection ha with ha
    injection hb with hb
    have hsub : (p.y.set k false)[i]'(by simp; omega) = true → p.y[i]'(by omega) = true := by
      rw [List.getElem_set]
      split
      · intro h; cases h
      · exact id
    refine ⟨fun hb1 => ?_, fun ha1 => ?_⟩
    · subst ha hb
      cases hxi : p.x[i]'(by omega) <;> cases hyi : (p.y.set k false)[i]'(by simp; omega) <;> simp_all
    · subst ha
      cases hxi : p.x[i]'(by omega)
      · rw [hxi] at ha1
        have him : (i : Int) ∈ c.refs := by simpa using ha1
        obtain ⟨c2, hc2, hu2⟩ := valid_used (hlead _ him) (by omega)
        rw [show ((i : Int)).toNat = i by omega, hd] at hc2
        injection hc2 with hc2
        subst hc2
        exact hu2
      · exact o2 hxi

/-! ### Freeing -/
def freeCell : CellM := ⟨false, 0, []⟩
/-- The cells without those that are dead. -/
def dropCs (cs : List CellM) (dead : List Bool) : List CellM := List.zipWith (fun c d => if d then freeCell else c) cs dead
def dropM (h : HeapM) (dead : List Bool) : HeapM := ⟨dropCs h.cells dead, h.roots⟩
def freedN (cs : List CellM) (dead : List Bool) : Nat := ((List.zipWith (fun (c : CellM) d => d && c.used) cs dead).filter id).length
theorem dropCs_len {cs : List CellM} {dead : List Bool} (h : dead.length = cs.length) : (dropCs cs dead).length = cs.length := by simp [dropCs, h]
/-- What PaintFinish leads to, and how many cells it frees. -/
def finishP (p : PaintM) : PaintM × Int :=
  if p.active then (⟨dropM (endP p).store ((endP p).colours.map fun c => c == 0), List.replicate (endP p).colours.length 0, false⟩, freedN (endP p).store.cells ((endP p).colours.map fun c => c == 0)) else (p, 0)
def paintFinishM (p : PaintM) : PaintM × Int := if paintM p then finishP p else (zeroP, -1)
theorem endP_store (p : PaintM) : (endP p).store = p.store ∧ (endP p).active = p.active ∧ (endP p).colours.length = p.colours.length := by
  refine endP_keeps (P := fun q => q.store = p.store ∧ q.active = p.active ∧ q.colours.length = p.colours.length) (fun q ⟨h1, h2, h3⟩ => ?_) ⟨rfl, rfl, rfl⟩
  unfold stepP
  split
  · exact ⟨h1, h2, h3⟩
  · exact ⟨h1, h2, by simp [greyL_len, h3]⟩
theorem endP_valid {p : PaintM} (h : paintM p = true) : paintM (endP p) = true := endP_keeps (P := fun q => paintM q = true) (fun _ hq => paintM_step hq) h
end Go.Proofs.Ytkmfhadanbfadaa
