/- Texts of one family, one behind the other: Iso, View, LawH, LawS, LawP, LawT. -/
import Derived.Test.YtngmkflmjjkjaaaGrData
/- Heaps of which a program sees the same: cells that belong together, and what instructions do to them. -/
namespace Go.Proofs.Ytngmkflmjjkjaaa
set_option linter.unusedVariables false
set_option linter.unusedSimpArgs false
/-- Two lists whose elements belong together. -/
inductive All2 {α β : Type} (R : α → β → Prop) : List α → List β → Prop
  | nil : All2 R [] []
  | cons {a : α} {b : β} {as : List α} {bs : List β} : R a b → All2 R as bs → All2 R (a :: as) (b :: bs)
theorem All2.len {α β : Type} {R : α → β → Prop} {as : List α} {bs : List β} (h : All2 R as bs) : as.length = bs.length := by
  induction h with
  | nil => rfl
  | cons _ _ ih => simp [ih]
theorem All2.at_ {α β : Type} {R : α → β → Prop} {as : List α} {bs : List β} (h : All2 R as bs) : ∀ {i : Nat} {a : α}, as[i]? = some a → ∃ b, bs[i]? = some b ∧ R a b := by
  induction h with
  | nil => intro i a h; simp at h
  | cons hr _ ih =>
    intro i a h
    cases i with
    | zero => simp at h; subst h; exact ⟨_, by simp, hr⟩
    | succ i => obtain ⟨b, hb, hr⟩ := ih (by simpa using h); exact ⟨b, by simpa using hb, hr⟩
theorem All2.of_at {α β : Type} {R : α → β → Prop} : ∀ {as : List α} {bs : List β}, as.length = bs.length → (∀ (i : Nat) (a : α) (b : β), as[i]? = some a → bs[i]? = some b → R a b) → All2 R as bs
  | [], [], _, _ => .nil
  | [], b :: bs, h, _ => by simp at h
  | a :: as, [], h, _ => by simp at h
  | a :: as, b :: bs, h, hr => .cons (hr 0 a b (by simp) (by simp)) (All2.of_at (by simpa using h) fun i x y hx hy => hr (i + 1) x y (by simpa using hx) (by simpa using hy))
theorem All2.imp {α β : Type} {R S : α → β → Prop} {as : List α} {bs : List β} (h : All2 R as bs) (hi : ∀ a b, R a b → S a b) : All2 S as bs := by
  induction h with
  | nil => exact .nil
  | cons hr _ ih => exact .cons (hi _ _ hr) ih
theorem All2.flip {α β : Type} {R : α → β → Prop} {as : List α} {bs : List β} (h : All2 R as bs) : All2 (fun b a => R a b) bs as := by
  induction h with
  | nil => exact .nil
  | cons hr _ ih => exact .cons hr ih
theorem All2.comp {α β γ : Type} {R : α → β → Prop} {S : β → γ → Prop} {as : List α} {bs : List β} (h : All2 R as bs) : ∀ {cs : List γ}, All2 S bs cs → All2 (fun a c => ∃ b, R a b ∧ S b c) as cs := by
  induction h with
  | nil => intro cs h; cases h; exact .nil
  | cons hr _ ih => intro cs h; cases h with | cons hs hl => exact .cons ⟨_, hr, hs⟩ (ih hl)
theorem All2.set {α β : Type} {R : α → β → Prop} {as : List α} {bs : List β} (h : All2 R as bs) {a : α} {b : β} (hr : R a b) : ∀ k, All2 R (as.set k a) (bs.set k b) := by
  induction h with
  | nil => intro k; exact .nil
  | cons hr2 hl ih =>
    intro k
    cases k with
    | zero => exact .cons hr hl
    | succ k => exact .cons hr2 (ih k)
theorem All2.append {α β : Type} {R : α → β → Prop} {as : List α} {bs : List β} (h : All2 R as bs) {cs : List α} {ds : List β} (h2 : All2 R cs ds) : All2 R (as ++ cs) (bs ++ ds) := by
  induction h with
  | nil => exact h2
  | cons hr _ ih => exact .cons hr ih
theorem All2.map_eq {α β γ : Type} {R : α → β → Prop} {f : α → γ} {g : β → γ} {as : List α} {bs : List β} (h : All2 R as bs) (hf : ∀ a b, R a b → f a = g b) : as.map f = bs.map g := by
  induction h with
  | nil => rfl
  | cons hr _ ih => simp [hf _ _ hr, ih]
theorem All2.self {α : Type} {R : α → α → Prop} {as : List α} (h : ∀ a ∈ as, R a a) : All2 R as as := All2.of_at rfl fun i a b ha hb => by
  rw [ha] at hb; injection hb with hb; subst hb; exact h a (List.mem_of_getElem? ha)
theorem All2.mapR {α β : Type} {R : α → β → Prop} {f : α → β} {as : List α} (h : ∀ a ∈ as, R a (f a)) : All2 R as (as.map f) := All2.of_at (by simp) fun i a b ha hb => by
  rw [List.getElem?_map, ha] at hb; injection hb with hb; subst hb; exact h a (List.mem_of_getElem? ha)

/-- Two references that belong together: none, or cells that belong together. -/
def relR (R : Nat → Nat → Prop) (r r' : Int) : Prop := (r = -1 ∧ r' = -1) ∨ (0 ≤ r ∧ 0 ≤ r' ∧ R r.toNat r'.toNat)
/-- Cells of two heaps belong together, one to one, and so do their references. -/
structure Sim (R : Nat → Nat → Prop) (h h' : HeapM) : Prop where
  fn : ∀ {a b b' : Nat}, R a b → R a b' → b = b'
  inj : ∀ {a a' b : Nat}, R a b → R a' b → a = a'
  cell : ∀ {k k' : Nat}, R k k' → ∃ d rs rs', h.cells[k]? = some ⟨true, d, rs⟩ ∧ h'.cells[k']? = some ⟨true, d, rs'⟩ ∧ All2 (relR R) rs rs'
  roots : All2 (relR R) h.roots h'.roots
/-- A program sees the same of both heaps. -/
def Iso (h h' : HeapM) : Prop := ∃ R, Sim R h h'
theorem relR_flip {R : Nat → Nat → Prop} {r r' : Int} (h : relR R r r') : relR (fun a b => R b a) r' r := by
  rcases h with ⟨h1, h2⟩ | ⟨h1, h2, h3⟩
  · exact .inl ⟨h2, h1⟩
  · exact .inr ⟨h2, h1, h3⟩
theorem relR_comp {R S : Nat → Nat → Prop} {r s t : Int} (h : relR R r s) (h2 : relR S s t) : relR (fun a c => ∃ b, R a b ∧ S b c) r t := by
  rcases h with ⟨h1, h3⟩ | ⟨h1, h3, h4⟩ <;> rcases h2 with ⟨g1, g3⟩ | ⟨g1, g3, g4⟩
  · exact .inl ⟨h1, g3⟩
  · omega
  · omega
  · exact .inr ⟨h1, g3, _, h4, g4⟩
theorem Sim.symm {R : Nat → Nat → Prop} {h h' : HeapM} (s : Sim R h h') : Sim (fun a b => R b a) h' h :=
  ⟨fun a b => s.inj a b, fun a b => s.fn a b, fun r => by
    obtain ⟨d, rs, rs', h1, h2, h3⟩ := s.cell r
    exact ⟨d, rs', rs, h2, h1, h3.flip.imp fun _ _ => relR_flip⟩, s.roots.flip.imp fun _ _ => relR_flip⟩
theorem Iso.symm {h h' : HeapM} (s : Iso h h') : Iso h' h := by obtain ⟨R, s⟩ := s; exact ⟨_, s.symm⟩
theorem Sim.trans {R S : Nat → Nat → Prop} {a b c : HeapM} (s : Sim R a b) (t : Sim S b c) : Sim (fun x z => ∃ y, R x y ∧ S y z) a c := by
  refine ⟨?_, ?_, ?_, ?_⟩
  · rintro x z z' ⟨y, h1, h2⟩ ⟨y', h3, h4⟩
    obtain rfl := s.fn h1 h3
    exact t.fn h2 h4
  · rintro x x' z ⟨y, h1, h2⟩ ⟨y', h3, h4⟩
    obtain rfl := t.inj h2 h4
    exact s.inj h1 h3
  · rintro x z ⟨y, h1, h2⟩
    obtain ⟨d, rs, rs', g1, g2, g3⟩ := s.cell h1
    obtain ⟨d2, qs, qs', f1, f2, f3⟩ := t.cell h2
    rw [g2] at f1
    simp only [Option.some.injEq, CellM.mk.injEq, true_and] at f1
    obtain ⟨rfl, rfl⟩ := f1
    exact ⟨d, rs, qs', g1, f2, (g3.comp f3).imp fun _ _ ⟨_, h, h'⟩ => relR_comp h h'⟩
  · exact (s.roots.comp t.roots).imp fun _ _ ⟨_, h, h'⟩ => relR_comp h h'
theorem Iso.trans {a b c : HeapM} (s : Iso a b) (t : Iso b c) : Iso a c := by
  obtain ⟨R, s⟩ := s; obtain ⟨S, t⟩ := t; exact ⟨_, s.trans t⟩
/-- Heaps whose cells that can be reached are the same. -/
theorem iso_same {h h' : HeapM} (hv : validM h = true) (hr : h'.roots = h.roots) (hc : ∀ (k : Nat) (c : CellM), Rch (refsAt h) nonneg h.roots k → h.cells[k]? = some c → h'.cells[k]? = some c) : Iso h h' := by
  refine ⟨fun a b => a = b ∧ Rch (refsAt h) nonneg h.roots a, ?_, ?_, ?_, ?_⟩
  · rintro a b b' ⟨rfl, -⟩ ⟨rfl, -⟩; rfl
  · rintro a b b' ⟨rfl, -⟩ ⟨rfl, -⟩; rfl
  · rintro k k' ⟨rfl, hk⟩
    obtain ⟨⟨u, d, rs⟩, hc1, hu⟩ := reach_leads hv hk
    have hu' : u = true := hu
    subst hu'
    refine ⟨d, rs, rs, hc1, hc k _ hk hc1, All2.self fun r hm => ?_⟩
    have hm2 : r ∈ refsAt h k := by rw [refsAt_of hc1]; exact hm
    rcases leadsM_iff.1 (refsAt_leads hv k r hm2) with h1 | ⟨h0, -⟩
    · exact .inl ⟨h1, h1⟩
    · exact .inr ⟨h0, h0, rfl, .next hk hm2 (by simp [nonneg, h0])⟩
  · rw [hr]
    refine All2.self fun r hm => ?_
    rcases leadsM_iff.1 ((validM_leads hv).2 r hm) with h1 | ⟨h0, -⟩
    · exact .inl ⟨h1, h1⟩
    · exact .inr ⟨h0, h0, rfl, .start hm (by simp [nonneg, h0])⟩
theorem Iso.refl {h : HeapM} (hv : validM h = true) : Iso h h := iso_same hv rfl fun _ _ _ hc => hc
/-! ### Instructions -/
theorem Sim.root {R : Nat → Nat → Prop} {h h' : HeapM} (s : Sim R h h') (a : Int) : relR R (rootAt h a) (rootAt h' a) := by
  unfold rootAt
  cases e : h.roots[a.toNat]? with
  | none =>
    have : h'.roots[a.toNat]? = none := by rw [List.getElem?_eq_none_iff] at e ⊢; rw [← s.roots.len]; exact e
    rw [this]; exact .inl ⟨rfl, rfl⟩
  | some x =>
    obtain ⟨y, hy, hr⟩ := s.roots.at_ e
    rw [hy]; exact hr
theorem Sim.refs {R : Nat → Nat → Prop} {h h' : HeapM} (s : Sim R h h') {k k' : Nat} (hr : R k k') : All2 (relR R) (refsAt h k) (refsAt h' k') := by
  obtain ⟨d, rs, rs', h1, h2, h3⟩ := s.cell hr
  rw [refsAt_of h1, refsAt_of h2]; exact h3
theorem Sim.place {R : Nat → Nat → Prop} {h h' : HeapM} (s : Sim R h h') (a c : Int) : placeOk h a c = placeOk h' a c := by
  unfold placeOk
  rcases s.root a with ⟨h1, h2⟩ | ⟨h1, h2, h3⟩
  · rw [h1, h2]; simp
  · have := (s.refs h3).len
    simp [h1, h2, this]
theorem Sim.refOf {R : Nat → Nat → Prop} {h h' : HeapM} (s : Sim R h h') {a c : Int} (hp : placeOk h a c = true) : relR R (refOf h a c) (refOf h' a c) := by
  unfold placeOk at hp
  simp only [Bool.and_eq_true, decide_eq_true_eq] at hp
  unfold Proofs.Ytngmkflmjjkjaaa.refOf
  rcases s.root a with ⟨h1, h2⟩ | ⟨h1, h2, h3⟩
  · omega
  · cases e : (refsAt h (rootAt h a).toNat)[c.toNat]? with
    | none =>
      have : (refsAt h' (rootAt h' a).toNat)[c.toNat]? = none := by rw [List.getElem?_eq_none_iff] at e ⊢; rw [← (s.refs h3).len]; exact e
      rw [this]; exact .inl ⟨rfl, rfl⟩
    | some x =>
      obtain ⟨y, hy, hr⟩ := (s.refs h3).at_ e
      rw [hy]; exact hr
theorem put_old {cs : List CellM} {p k : Nat} {x c : CellM} (hc : cs[k]? = some c) (hk : k ≠ p) : (putCell cs p x)[k]? = some c := by
  have hlt := (List.getElem?_eq_some_iff.1 hc).1
  unfold putCell
  split
  · rw [List.getElem?_append_left hlt]; exact hc
  · rw [List.getElem?_set_ne (by omega)]; exact hc
theorem put_new {cs : List CellM} {p : Nat} {x : CellM} (hp : p ≤ cs.length) : (putCell cs p x)[p]? = some x := by
  unfold putCell
  split
  · next e => subst e; simp
  · rw [List.getElem?_set_self (by omega)]
theorem setRef_at {cs : List CellM} {k j : Nat} {r : Int} {i : Nat} {c : CellM} (hc : cs[i]? = some c) : (setRef cs k j r)[i]? = some (if i = k then ⟨c.used, c.data, c.refs.set j r⟩ else c) := by
  have hlt := (List.getElem?_eq_some_iff.1 hc).1
  unfold setRef
  by_cases e : i = k
  · subst e
    rw [hc, if_pos rfl]
    simp only
    rw [List.getElem?_set_self hlt]
  · rw [if_neg e]
    split
    · rw [List.getElem?_set_ne (by omega)]; exact hc
    · exact hc
theorem setData_at {cs : List CellM} {k : Nat} {d : Int} {i : Nat} {c : CellM} (hc : cs[i]? = some c) : (setData cs k d)[i]? = some (if i = k then ⟨c.used, d, c.refs⟩ else c) := by
  have hlt := (List.getElem?_eq_some_iff.1 hc).1
  unfold setData
  by_cases e : i = k
  · subst e
    rw [hc, if_pos rfl]
    simp only
    rw [List.getElem?_set_self hlt]
  · rw [if_neg e]
    split
    · rw [List.getElem?_set_ne (by omega)]; exact hc
    · exact hc
end Go.Proofs.Ytngmkflmjjkjaaa

/- What a program sees of a heap, as a plain function: the same exactly of heaps whose cells belong together. -/
namespace Go.Proofs.Ytngmkflmjjkjaaa
set_option linter.unusedVariables false
set_option linter.unusedSimpArgs false
/-- What is met: sound, listed, and worked off below i. -/
structure OrdC (rf : Nat → List Int) (ok : Int → Bool) (fr : List Int) (i : Nat) (st : (Nat → Bool) × List Int) : Prop where
  sound : ∀ k, st.1 k = true → Rch rf ok fr k
  list : ∀ k, st.1 k = true → ∃ r ∈ st.2, r.toNat = k
  met : ∀ r ∈ st.2, ok r = true ∧ st.1 r.toNat = true
  start : ∀ r ∈ fr, ok r = true → st.1 r.toNat = true
  off : ∀ (j : Nat) (r : Int), j < i → st.2[j]? = some r → ∀ x ∈ rf r.toNat, ok x = true → st.1 x.toNat = true
theorem ordC {rf : Nat → List Int} {ok : Int → Bool} {fr : List Int} : ∀ i, OrdC rf ok fr i (ordIt rf ok fr i)
  | 0 => by
    obtain ⟨ns, h1, h2, h3⟩ := visL_work (ok := ok) fr (fun _ => false, [])
    show OrdC rf ok fr 0 (visL ok (fun _ => false, []) fr)
    refine ⟨fun k hk => ?_, fun k hk => ?_, fun r hr => ?_, fun r hr ho => visL_has fr _ r hr ho, fun j r hj => by omega⟩
    · rcases visL_only fr _ hk with h | ⟨r, hr, ho, rfl⟩
      · cases h
      · exact .start hr ho
    · rcases h3 k hk with h | ⟨r, hr, rfl⟩
      · cases h
      · exact ⟨r, by rw [h1]; simpa using hr, rfl⟩
    · rw [h1] at hr
      have hn : r ∈ ns := by simpa using hr
      exact ⟨(h2 r hn).1, visL_has fr _ r (h2 r hn).2.1 (h2 r hn).1⟩
  | i + 1 => by
    have ih := ordC (rf := rf) (ok := ok) (fr := fr) i
    show OrdC rf ok fr (i + 1) (ordStep rf ok i (ordIt rf ok fr i))
    generalize ordIt rf ok fr i = st at ih
    unfold ordStep
    cases e : st.2[i]? with
    | none =>
      refine ⟨ih.sound, ih.list, ih.met, ih.start, fun j r hj hr => ?_⟩
      have := List.getElem?_eq_none_iff.1 e
      have hr2 : st.2[j]? = some r := hr
      have := (List.getElem?_eq_some_iff.1 hr2).1
      exact ih.off j r (by omega) hr2
    | some x =>
      obtain ⟨ns, h1, h2, h3⟩ := visL_work (ok := ok) (rf x.toNat) st
      have hx := ih.met x (List.mem_of_getElem? e)
      simp only
      refine ⟨fun k hk => ?_, fun k hk => ?_, fun r hr => ?_, fun r hr ho => visL_mono _ _ (ih.start r hr ho), fun j r hj hr y hy ho => ?_⟩
      · rcases visL_only _ _ hk with h | ⟨r, hr, ho, rfl⟩
        · exact ih.sound k h
        · exact .next (ih.sound _ hx.2) hr ho
      · rcases h3 k hk with h | ⟨r, hr, rfl⟩
        · obtain ⟨r, hr, rfl⟩ := ih.list k h
          exact ⟨r, by rw [h1]; simp [hr], rfl⟩
        · exact ⟨r, by rw [h1]; simp [hr], rfl⟩
      · rw [h1] at hr
        rcases List.mem_append.1 hr with hr | hr
        · exact ⟨(ih.met r hr).1, visL_mono _ _ (ih.met r hr).2⟩
        · exact ⟨(h2 r hr).1, visL_has _ _ r (h2 r hr).2.1 (h2 r hr).1⟩
      · rw [h1] at hr
        have hil := (List.getElem?_eq_some_iff.1 e).1
        rw [List.getElem?_append_left (by omega)] at hr
        by_cases hj2 : j = i
        · subst hj2
          rw [e] at hr; injection hr with hr; subst hr
          exact visL_has _ _ y hy ho
        · exact visL_mono _ _ (ih.off j r (by omega) hr y hy ho)
/-- The order lists exactly what can be reached. -/
theorem ord_mem {h : HeapM} (hv : validM h = true) {r : Int} : r ∈ orderM h ↔ 0 ≤ r ∧ Rch (refsAt h) nonneg h.roots r.toNat := by
  have hc := ordC (rf := refsAt h) (ok := nonneg) (fr := h.roots) h.cells.length
  have hlen := (ord_ok hv h.cells.length).le
  unfold orderM
  have key : ∀ k, (ordIt (refsAt h) nonneg h.roots h.cells.length).1 k = true ↔ Rch (refsAt h) nonneg h.roots k := by
    intro k
    refine ⟨hc.sound k, fun hr => ?_⟩
    induction hr with
    | start hr ho => exact hc.start _ hr ho
    | next _ hr ho ih =>
      obtain ⟨x, hx, hxe⟩ := hc.list _ ih
      obtain ⟨j, hj⟩ := List.getElem?_of_mem hx
      have hjl := (List.getElem?_eq_some_iff.1 hj).1
      exact hc.off j x (by omega) hj _ (by rw [hxe]; exact hr) ho
  constructor
  · intro hr
    have := hc.met r hr
    exact ⟨by simpa [nonneg] using this.1, (key _).1 this.2⟩
  · rintro ⟨h0, hr⟩
    obtain ⟨x, hx, hxe⟩ := hc.list _ ((key _).2 hr)
    have h1 : 0 ≤ x := by simpa [nonneg] using (hc.met x hx).1
    obtain rfl : x = r := by omega
    exact hx
/-! ### Names -/
theorem nameM_nat (order : List Int) (r : Int) : (nameM order r = -1 ∧ r ∉ order) ∨ ∃ k : Nat, nameM order r = (k : Int) ∧ order[k]? = some r := by
  unfold nameM
  cases e : firstB (isR r) order with
  | none =>
    refine .inl ⟨rfl, fun hm => ?_⟩
    have := firstB_none_all e r hm
    simp [isR] at this
  | some k =>
    obtain ⟨x, hx, hp, -⟩ := firstB_at e
    have : x = r := by simpa [isR] using hp
    subst this
    exact .inr ⟨k, rfl, hx⟩
theorem nameM_of {order : List Int} (hnd : order.Pairwise fun a b => a ≠ b) {k : Nat} {r : Int} (hk : order[k]? = some r) : nameM order r = (k : Int) := by
  have hp := List.pairwise_iff_getElem.1 hnd
  refine nameM_some (fun i hi y hy => ?_) hk
  obtain ⟨hkl, rfl⟩ := List.getElem?_eq_some_iff.1 hk
  obtain ⟨hil, rfl⟩ := List.getElem?_eq_some_iff.1 hy
  have := hp i k hil hkl hi
  unfold isR; simpa using this
/-! ### Views -/
/-! Both orders in step -/
structure Lock (R : Nat → Nat → Prop) (st st' : (Nat → Bool) × List Int) : Prop where
  lst : All2 (fun r r' => 0 ≤ r ∧ 0 ≤ r' ∧ R r.toNat r'.toNat) st.2 st'.2
  met : ∀ k k', R k k' → st.1 k = st'.1 k'
theorem Lock.vis1 {R : Nat → Nat → Prop} {h h' : HeapM} (s : Sim R h h') {st st' : (Nat → Bool) × List Int} (l : Lock R st st') {r r' : Int} (hr : relR R r r') : Lock R (vis1 nonneg st r) (vis1 nonneg st' r') := by
  rcases hr with ⟨rfl, rfl⟩ | ⟨h1, h2, h3⟩
  · rw [vis1_no (.inl (by decide)), vis1_no (.inl (by decide))]; exact l
  · have hm := l.met _ _ h3
    rcases bool_ft (st.1 r.toNat) with hb | hb
    · rw [vis1_yes (by simp [nonneg, h1]) hb, vis1_yes (by simp [nonneg, h2]) (by rw [← hm]; exact hb)]
      refine ⟨l.lst.append (.cons ⟨h1, h2, h3⟩ .nil), fun k k' hk => ?_⟩
      simp only
      by_cases e : k = r.toNat
      · have e' : k' = r'.toNat := by rw [e] at hk; exact s.fn hk h3
        rw [if_pos e, if_pos e']
      · have e' : k' ≠ r'.toNat := fun e' => e (s.inj hk (e' ▸ h3))
        rw [if_neg e, if_neg e']; exact l.met _ _ hk
    · rw [vis1_no (.inr hb), vis1_no (.inr (by rw [← hm]; exact hb))]; exact l
theorem Lock.visL {R : Nat → Nat → Prop} {h h' : HeapM} (s : Sim R h h') {rs rs' : List Int} (hr : All2 (relR R) rs rs') : ∀ {st st' : (Nat → Bool) × List Int}, Lock R st st' → Lock R (visL nonneg st rs) (visL nonneg st' rs') := by
  induction hr with
  | nil => intro st st' l; exact l
  | cons hr _ ih => intro st st' l; exact ih (l.vis1 s hr)
theorem Lock.it {R : Nat → Nat → Prop} {h h' : HeapM} (s : Sim R h h') : ∀ i, Lock R (ordIt (refsAt h) nonneg h.roots i) (ordIt (refsAt h') nonneg h'.roots i)
  | 0 => Lock.visL s s.roots ⟨.nil, fun _ _ _ => rfl⟩
  | i + 1 => by
    have l := Lock.it s i
    show Lock R (ordStep (refsAt h) nonneg i _) (ordStep (refsAt h') nonneg i _)
    unfold ordStep
    cases e : (ordIt (refsAt h) nonneg h.roots i).2[i]? with
    | none =>
      have : (ordIt (refsAt h') nonneg h'.roots i).2[i]? = none := by rw [List.getElem?_eq_none_iff] at e ⊢; rw [← l.lst.len]; exact e
      rw [this]; exact l
    | some x =>
      obtain ⟨y, hy, -, -, hr⟩ := l.lst.at_ e
      rw [hy]; exact Lock.visL s (s.refs hr) l
theorem ord_far {h : HeapM} (hv : validM h = true) {n : Nat} (hn : h.cells.length ≤ n) : (ordIt (refsAt h) nonneg h.roots n).2 = orderM h := by
  have hlen := (ord_ok hv h.cells.length).le
  have := ordIt_stay (rf := refsAt h) (ok := nonneg) (fr := h.roots) (i := h.cells.length) (by omega) (n - h.cells.length)
  rw [show h.cells.length + (n - h.cells.length) = n by omega] at this
  rw [this]; rfl
theorem Sim.order {R : Nat → Nat → Prop} {h h' : HeapM} (s : Sim R h h') (hv : validM h = true) (hv' : validM h' = true) : All2 (fun r r' => 0 ≤ r ∧ 0 ≤ r' ∧ R r.toNat r'.toNat) (orderM h) (orderM h') := by
  have l := (Lock.it s 40).lst
  rwa [ord_far hv (validM_len hv).1, ord_far hv' (validM_len hv').1] at l
theorem Sim.name {R : Nat → Nat → Prop} {h h' : HeapM} (s : Sim R h h') {os os' : List Int} (ho : All2 (fun r r' => 0 ≤ r ∧ 0 ≤ r' ∧ R r.toNat r'.toNat) os os') {r r' : Int} (hr : relR R r r') : nameM os r = nameM os' r' := by
  have : firstB (isR r) os = firstB (isR r') os' := by
    induction ho with
    | nil => rfl
    | @cons a b _ _ hab _ ih =>
      have e : isR r a = isR r' b := by
        unfold isR
        obtain ⟨h1, h2, h3⟩ := hab
        rcases hr with ⟨rfl, rfl⟩ | ⟨g1, g2, g3⟩
        · rw [Bool.eq_iff_iff]; simp only [beq_iff_eq]; omega
        · rw [Bool.eq_iff_iff]; simp only [beq_iff_eq]
          constructor
          · rintro rfl; have := s.fn h3 g3; omega
          · rintro rfl; have := s.inj h3 g3; omega
      simp only [firstB, e, ih]
  unfold nameM; rw [this]
/-- As many cells can be reached. -/
theorem Iso.live {h h' : HeapM} (s : Iso h h') (hv : validM h = true) (hv' : validM h' = true) : (orderM h).length = (orderM h').length := by
  obtain ⟨R, s⟩ := s; exact (s.order hv hv').len
/-! ### Cells gathered in an order -/
theorem iso_gath {h : HeapM} (hv : validM h = true) {order : List Int} (ho : OrdOk h order) (hr : ∀ k, Rch (refsAt h) nonneg h.roots k → (k : Int) ∈ order) : Iso h (gathM h order) := by
  have hrel : ∀ r : Int, (r = -1 ∨ (0 ≤ r ∧ Rch (refsAt h) nonneg h.roots r.toNat)) → relR (fun k i => order[i]? = some (k : Int) ∧ Rch (refsAt h) nonneg h.roots k) r (nameM order r) := by
    rintro r (rfl | ⟨h0, hk⟩)
    · exact .inl ⟨rfl, nameM_out fun hm => by have := (ho.lt _ hm).1; omega⟩
    · have hm := hr _ hk
      rw [Int.toNat_of_nonneg h0] at hm
      obtain ⟨i, hi⟩ := List.getElem?_of_mem hm
      rw [nameM_of ho.nd hi]
      exact .inr ⟨h0, by omega, by simpa [Int.toNat_of_nonneg h0] using hi, hk⟩
  refine ⟨fun k i => order[i]? = some (k : Int) ∧ Rch (refsAt h) nonneg h.roots k, ?_, ?_, ?_, ?_⟩
  · rintro a b b' ⟨h1, -⟩ ⟨h2, -⟩
    have := (nameM_of ho.nd h1).symm.trans (nameM_of ho.nd h2); omega
  · rintro a a' b ⟨h1, -⟩ ⟨h2, -⟩
    rw [h1] at h2; injection h2 with h2; omega
  · rintro k i ⟨h1, hk⟩
    obtain ⟨⟨u, d, rs⟩, hc, hu⟩ := reach_leads hv hk
    have hu2 : u = true := hu
    subst hu2
    refine ⟨d, rs, rs.map (nameM order), hc, ?_, All2.mapR fun r hm => hrel r ?_⟩
    · show (order.map (movedC h order))[i]? = _
      rw [List.getElem?_map, h1]
      simp only [Option.map_some]
      rw [movedC_of (c := ⟨true, d, rs⟩) (by rw [Int.toNat_natCast]; exact hc)]
    · have hm2 : r ∈ refsAt h k := by rw [refsAt_of hc]; exact hm
      rcases leadsM_iff.1 (refsAt_leads hv k r hm2) with h3 | ⟨h0, -⟩
      · exact .inl h3
      · exact .inr ⟨h0, .next hk hm2 (by simp [nonneg, h0])⟩
  · refine All2.mapR fun r hm => hrel r ?_
    rcases leadsM_iff.1 ((validM_leads hv).2 r hm) with h3 | ⟨h0, -⟩
    · exact .inl h3
    · exact .inr ⟨h0, .start hm (by simp [nonneg, h0])⟩
theorem slide_mem {h : HeapM} (hv : validM h = true) {k : Nat} (hk : Rch (refsAt h) nonneg h.roots k) : (k : Int) ∈ slideM h := by
  obtain ⟨c, hc, -⟩ := reach_leads hv hk
  unfold slideM slideN
  simp only [List.mem_map, List.mem_filter, List.mem_range]
  exact ⟨k, ⟨(List.getElem?_eq_some_iff.1 hc).1, (reach_iff hv k).2 hk⟩, rfl⟩
theorem iso_slide {h : HeapM} (hv : validM h = true) : Iso h (slideHeapM h) := by
  unfold slideHeapM; rw [if_pos hv]
  exact iso_gath hv (slide_ok h) fun k hk => slide_mem hv hk
end Go.Proofs.Ytngmkflmjjkjaaa

/- Plain laws: programs on heaps, freeing, moving; what a program sees stays. -/
namespace Go.Proofs.Ytngmkflmjjkjaaa
set_option linter.unusedVariables false
set_option linter.unusedSimpArgs false
theorem stepM_poss {h : HeapM} {o : CmdM} (hv : validM h = true) (ho : cmdOk o = true) (hp : possO h o = true) (hl : o.op = 1 → h.cells.length < 40) : stepM h o = (execM h o h.cells.length, true) := by
  unfold stepM
  rw [hv, ho, hp]
  have : (decide (o.op = 1) && decide (h.cells.length = 40)) = false := by
    by_cases e : o.op = 1
    · have := hl e; simp [e]; omega
    · simp [e]
  rw [this]; rfl
theorem stepM_not {h : HeapM} {o : CmdM} (hv : validM h = true) (ho : cmdOk o = true) (hp : possO h o = false) : stepM h o = (h, false) := by
  unfold stepM; rw [hv, ho, hp]; rfl
theorem stepM_full {h : HeapM} {o : CmdM} (hv : validM h = true) (ho : cmdOk o = true) (h1 : o.op = 1) (hl : h.cells.length = 40) : stepM h o = (h, false) := by
  unfold stepM; rw [hv, ho, poss_new h1]; simp [h1, hl]
theorem stepM_inv {h : HeapM} {o : CmdM} (hb : (validM h && cmdOk o) = false) : stepM h o = (zeroH, false) := by
  unfold stepM; rw [hb]; rfl
/-! ### FnRunHeap -/
/-! ### How many cells can be reached -/
def liveN (h : HeapM) : Nat := (orderM h).length
theorem nodup_len {a b : List Int} (ha : a.Pairwise fun x y => x ≠ y) (hs : ∀ x ∈ a, x ∈ b) : a.length ≤ b.length := by
  induction a generalizing b with
  | nil => simp
  | cons x a ih =>
    rw [List.pairwise_cons] at ha
    have hx := hs x (by simp)
    have := ih (b := b.erase x) ha.2 fun y hy => (List.mem_erase_of_ne fun e => ha.1 y hy e.symm).2 (hs y (by simp [hy]))
    rw [List.length_erase_of_mem hx] at this
    have := List.length_pos_of_mem hx
    simp only [List.length_cons]; omega
theorem slide_sub {h : HeapM} (hv : validM h = true) {r : Int} (hr : r ∈ slideM h) : 0 ≤ r ∧ Rch (refsAt h) nonneg h.roots r.toNat := by
  unfold slideM slideN at hr
  simp only [List.mem_map, List.mem_filter, List.mem_range] at hr
  obtain ⟨k, ⟨hk, h1⟩, rfl⟩ := hr
  exact ⟨by omega, by rw [Int.toNat_natCast]; exact (reach_iff hv k).1 h1⟩
theorem slide_live {h : HeapM} (hv : validM h = true) : (slideM h).length = liveN h := by
  apply Nat.le_antisymm
  · exact nodup_len (slide_ok h).nd fun r hr => (ord_mem hv).2 (slide_sub hv hr)
  · refine nodup_len (order_ok hv).nd fun r hr => ?_
    have h1 := (ord_mem hv).1 hr
    have := slide_mem hv h1.2
    rwa [Int.toNat_of_nonneg h1.1] at this
theorem slideH_len {h : HeapM} (hv : validM h = true) : (slideHeapM h).cells.length = liveN h := by
  unfold slideHeapM; rw [if_pos hv]; simp [gathM, slide_live hv]
theorem gath_valid {h : HeapM} (hv : validM h = true) {order : List Int} (ho : OrdOk h order) (hu : ∀ r ∈ order, ∃ c, h.cells[r.toNat]? = some c ∧ c.used = true) : validM (gathM h order) = true := by
  have hl : ∀ r : Int, leadsM (gathM h order).cells (nameM order r) = true := fun r => by
    rcases nameM_nat order r with ⟨h1, -⟩ | ⟨k, h1, h2⟩
    · rw [h1]; exact leadsM_neg1 _
    · rw [h1]
      refine leadsM_iff.2 (.inr ⟨by omega, ?_⟩)
      have hr := List.mem_of_getElem? h2
      obtain ⟨c, hc, -⟩ := hu r hr
      refine ⟨⟨true, c.data, c.refs.map (nameM order)⟩, ?_, rfl⟩
      show (order.map (movedC h order))[((k : Nat) : Int).toNat]? = _
      rw [Int.toNat_natCast, List.getElem?_map, h2]
      exact congrArg some (movedC_of hc)
  refine validM_iff.2 ⟨fun c hc => ?_, ?_, ?_, fun r hr => ?_⟩
  · have hc2 : c ∈ order.map (movedC h order) := hc
    obtain ⟨r, hr, rfl⟩ := List.mem_map.1 hc2
    obtain ⟨c, hcc, hcu⟩ := hu r hr
    rw [movedC_of hcc]
    have hok := (validM_iff.1 hv).1 c (List.mem_of_getElem? hcc)
    rcases cellOk_iff.1 hok with ⟨-, -, h2, h3, h4⟩ | ⟨h1, -⟩
    · exact cellOk_iff.2 (.inl ⟨rfl, fun x hx => by obtain ⟨y, -, rfl⟩ := List.mem_map.1 hx; exact hl y, h2, h3, by simpa using h4⟩)
    · rw [h1] at hcu; cases hcu
  · have := (validM_len hv).1
    have := ho.len
    show (order.map _).length ≤ 40
    rw [List.length_map]; omega
  · show (h.roots.map _).length = 4
    rw [List.length_map]; exact (validM_len hv).2
  · have hr2 : r ∈ h.roots.map (nameM order) := hr
    obtain ⟨y, -, rfl⟩ := List.mem_map.1 hr2
    exact hl y
theorem slide_valid {h : HeapM} (hv : validM h = true) : validM (slideHeapM h) = true := by
  unfold slideHeapM; rw [if_pos hv]
  exact gath_valid hv (slide_ok h) fun r hr => reach_leads hv (slide_sub hv hr).2
/-! ### Programs that move: RunCopy, RunSlide -/
theorem Iso.liveN {h g : HeapM} (s : Iso h g) (hv : validM h = true) (hg : validM g = true) : liveN h = liveN g := s.live hv hg
/-! ### FnCopySlide: both runs in step -/
end Go.Proofs.Ytngmkflmjjkjaaa

/- Plain laws: sweeping, limits, copies of what is swept or slid. -/
namespace Go.Proofs.Ytngmkflmjjkjaaa
set_option linter.unusedVariables false
set_option linter.unusedSimpArgs false
abbrev rch (h : HeapM) (k : Nat) : Prop := Rch (refsAt h) nonneg h.roots k
theorem swept {h : HeapM} (hv : validM h = true) : (collectSweepM h).1 = dropM h (nots (reachM h)) := by rw [collectSweep_ok hv]
theorem swept_len {h : HeapM} (hv : validM h = true) : (collectSweepM h).1.cells.length = h.cells.length := by
  rw [swept hv]; exact dropCs_len (by rw [nots_len, reachM_len])
theorem swept_at {h : HeapM} (hv : validM h = true) {k : Nat} {c : CellM} (hc : h.cells[k]? = some c) : (rch h k ∧ (collectSweepM h).1.cells[k]? = some c) ∨ (¬ rch h k ∧ (collectSweepM h).1.cells[k]? = some freeCell) := by
  have hk := (List.getElem?_eq_some_iff.1 hc).1
  have hr := List.getElem?_eq_getElem (l := reachM h) (i := k) (by rw [reachM_len]; exact hk)
  have hd := drop_at hc (nots_at hr)
  have hi := reach_iff hv k
  rw [getD_of hr] at hi
  rw [swept hv]
  show (rch h k ∧ (dropCs h.cells (nots (reachM h)))[k]? = _) ∨ _
  rw [hd]
  by_cases hb : rch h k
  · exact .inl ⟨hb, by rw [hi.2 hb]; rfl⟩
  · refine .inr ⟨hb, ?_⟩
    show (dropCs h.cells (nots (reachM h)))[k]? = _
    rw [hd]
    rcases bool_ft ((reachM h)[k]'(by rw [reachM_len]; exact hk)) with e | e
    · rw [e]; rfl
    · exact absurd (hi.1 e) hb
theorem swept_iso {h : HeapM} (hv : validM h = true) : Iso h (collectSweepM h).1 := by
  refine iso_same hv (by rw [swept hv]; rfl) fun k c hk hc => ?_
  rcases swept_at hv hc with ⟨-, h1⟩ | ⟨h1, -⟩
  · exact h1
  · exact absurd hk h1
/-! ### Copies -/
theorem Sim.copied {R : Nat → Nat → Prop} {h h' : HeapM} (s : Sim R h h') (hv : validM h = true) (hv' : validM h' = true) : copyHeapM h = copyHeapM h' := by
  have ho := s.order hv hv'
  unfold copyHeapM
  rw [if_pos hv, if_pos hv']
  unfold gathM
  have hn : ∀ r r', relR R r r' → nameM (orderM h) r = nameM (orderM h') r' := fun r r' hr => s.name ho hr
  generalize orderM h = os at *
  generalize orderM h' = os' at *
  rw [s.roots.map_eq hn]
  congr 1
  refine ho.map_eq fun a b hab => ?_
  obtain ⟨h1, h2, h3⟩ := hab
  obtain ⟨d, rs, rs', g1, g2, g3⟩ := s.cell h3
  rw [movedC_of g1, movedC_of g2, g3.map_eq hn]
theorem Iso.copied {h h' : HeapM} (s : Iso h h') (hv : validM h = true) (hv' : validM h' = true) : copyHeapM h = copyHeapM h' := by obtain ⟨R, s⟩ := s; exact s.copied hv hv'
/-- FnSweepCopy. -/
theorem law_SweepCopy {h : HeapM} (hv : validM h = true) : copyHeapM (collectSweepM h).1 = copyHeapM h ∧ copyHeapM (slideHeapM h) = copyHeapM h :=
  ⟨(swept_iso hv).symm.copied (collectSweep_valid hv) hv, (iso_slide hv).symm.copied (slide_valid hv) hv⟩
/-! ### Slid heaps -/
/-! How many cells are used -/
def usedC (h : HeapM) : Nat := (h.cells.filter (·.used)).length
/-- What UsedCells returns. -/
noncomputable def usedCellsM (h : HeapM) : Int × Int := if validM h then ((usedC h : Int), (((reachM h).filter id).length : Int)) else (-1, -1)
theorem reach_count {h : HeapM} (hv : validM h = true) : ((reachM h).filter id).length = liveN h := by
  rw [← slide_live hv]
  unfold slideM slideN
  rw [List.length_map]
  have : reachM h = (List.range h.cells.length).map fun k => (reachM h).getD k false := by
    apply List.ext_getElem?
    intro k
    by_cases hk : k < h.cells.length
    · have := List.getElem?_eq_getElem (l := reachM h) (i := k) (by rw [reachM_len]; exact hk)
      rw [List.getElem?_map, List.getElem?_range hk]
      show _ = some ((reachM h).getD k false)
      rw [getD_of this, this]
    · rw [List.getElem?_eq_none (by rw [reachM_len]; omega), List.getElem?_eq_none (by simp; omega)]
  conv => lhs; rw [this]
  rw [List.filter_map, List.length_map]
  rfl
/-! ### Slid heaps are swept heaps without gaps -/
theorem swept_reach {h : HeapM} (hv : validM h = true) : reachM (collectSweepM h).1 = reachM h := by rw [swept hv]; exact reach_drop hv
theorem swept_slide {h : HeapM} (hv : validM h = true) : slideM (collectSweepM h).1 = slideM h := by
  unfold slideM slideN; rw [swept_len hv, swept_reach hv]
theorem swept_used {h : HeapM} (hv : validM h = true) {k : Nat} {c : CellM} (hc : (collectSweepM h).1.cells[k]? = some c) : c.used = (reachM h).getD k false := by
  have hk := (List.getElem?_eq_some_iff.1 hc).1
  rw [swept_len hv] at hk
  have hi := reach_iff hv k
  rcases swept_at hv (List.getElem?_eq_getElem (l := h.cells) (i := k) hk) with ⟨h1, h2⟩ | ⟨h1, h2⟩
  · rw [h2] at hc; injection hc with hc
    obtain ⟨c2, hc2, hu⟩ := reach_leads hv h1
    rw [List.getElem?_eq_getElem hk] at hc2; injection hc2 with hc2
    rw [hi.2 h1, ← hc, hc2, hu]
  · rw [h2] at hc; injection hc with hc
    rw [← hc]
    rcases bool_ft ((reachM h).getD k false) with e | e
    · rw [e]; rfl
    · exact absurd (hi.1 e) h1
theorem swept_usedC {h : HeapM} (hv : validM h = true) : usedC (collectSweepM h).1 = liveN h := by
  have e : (collectSweepM h).1.cells.map (·.used) = reachM h := by
    apply List.ext_getElem?
    intro k
    by_cases hk : k < h.cells.length
    · have hc := List.getElem?_eq_getElem (l := (collectSweepM h).1.cells) (i := k) (by rw [swept_len hv]; exact hk)
      have hr := List.getElem?_eq_getElem (l := reachM h) (i := k) (by rw [reachM_len]; exact hk)
      rw [List.getElem?_map, hc, hr]
      have := swept_used hv hc
      rw [getD_of hr] at this
      exact congrArg some this
    · rw [List.getElem?_eq_none (by rw [List.length_map, swept_len hv]; omega), List.getElem?_eq_none (by rw [reachM_len]; omega)]
  rw [← reach_count hv, ← e, List.filter_map, List.length_map]
  rfl
/-- FnSlideSweep. -/
theorem law_SlideSweep {h : HeapM} (hv : validM h = true) : slideHeapM (collectSweepM h).1 = slideHeapM h ∧ (usedCellsM (collectSweepM h).1).1 = ((slideHeapM h).cells.length : Int) := by
  have hv2 := collectSweep_valid hv
  constructor
  · show (if validM (collectSweepM h).1 then gathM (collectSweepM h).1 (slideM (collectSweepM h).1) else zeroH) = (if validM h then gathM h (slideM h) else zeroH)
    rw [if_pos hv2, if_pos hv, swept_slide hv]
    unfold gathM
    rw [show (collectSweepM h).1.roots = h.roots by rw [swept hv]; rfl]
    congr 1
    refine List.map_congr_left fun r hr => ?_
    have h1 := slide_sub hv hr
    obtain ⟨c, hc, -⟩ := reach_leads hv h1.2
    rcases swept_at hv hc with ⟨-, h2⟩ | ⟨h2, -⟩
    · rw [movedC_of h2, movedC_of hc]
    · exact absurd h1.2 h2
  · unfold usedCellsM
    rw [if_pos hv2, swept_usedC hv, slideH_len hv]
end Go.Proofs.Ytngmkflmjjkjaaa

/- Plain laws: painted heaps. -/
namespace Go.Proofs.Ytngmkflmjjkjaaa
set_option linter.unusedVariables false
set_option linter.unusedSimpArgs false
/-! ### How many are freed, how many have leaked -/
/-! ### FnPaintValid -/
/-! ### FnPaintStart, FnPaintStep -/
/-! ### FnPaintCommand -/
theorem stepM_done {h : HeapM} {o : CmdM} (hr : (stepM h o).2 = true) : validM h = true ∧ cmdOk o = true ∧ possO h o = true ∧ stepM h o = (execM h o h.cells.length, true) := by
  rcases bool_ft (validM h && cmdOk o) with hb | hb
  · rw [stepM_inv hb] at hr; cases hr
  · have hb2 := Bool.and_eq_true_iff.1 hb
    rcases bool_ft (possO h o) with hp | hp
    · rw [stepM_not hb2.1 hb2.2 hp] at hr; cases hr
    · refine ⟨hb2.1, hb2.2, hp, stepM_poss hb2.1 hb2.2 hp fun e1 => ?_⟩
      rcases Nat.lt_or_ge h.cells.length 40 with h9 | h9
      · exact h9
      · rw [stepM_full hb2.1 hb2.2 e1 (by have := (validM_len hb2.1).1; omega)] at hr; cases hr
/-! ### FnPaintFinish -/
/-! ### FnPaintEarly, FnPaintSweep -/
/-! ### FnRunPaint -/
end Go.Proofs.Ytngmkflmjjkjaaa

/- Plain laws: steps of heaps. -/
namespace Go.Proofs.Ytngmkflmjjkjaaa
set_option linter.unusedVariables false
set_option linter.unusedSimpArgs false
/-- FnStepHeap. -/
theorem step_root {h : HeapM} {o : CmdM} (hr : (stepM h o).2 = true) {k : Nat} {a b : Int} (ha : (stepM h o).1.roots[k]? = some a) (hb : h.roots[k]? = some b) : a = b ∨ ((k : Int) = o.a ∧ o.op ≠ 3 ∧ o.op ≠ 6) := by
  obtain ⟨hv, ho, hp, e⟩ := stepM_done hr
  obtain ⟨o1, o2, a1, a2, -⟩ := cmdOk_parts ho
  rw [e] at ha
  have key : ∀ x : Int, (h.roots.set o.a.toNat x)[k]? = some a → a = b ∨ (k : Int) = o.a := fun x hx => by
    by_cases ek : o.a.toNat = k
    · exact .inr (by omega)
    · rw [List.getElem?_set_ne ek, hb] at hx
      injection hx with hx; exact .inl hx.symm
  unfold execM at ha
  simp only at ha
  split at ha
  · next h1 => exact (key _ ha).imp_right fun h9 => ⟨h9, by omega, by omega⟩
  · split at ha
    · next h1 => exact (key _ ha).imp_right fun h9 => ⟨h9, by omega, by omega⟩
    · split at ha
      · have ha2 : h.roots[k]? = some a := ha
        rw [hb] at ha2; injection ha2 with ha2; exact .inl ha2.symm
      · split at ha
        · next h1 => exact (key _ ha).imp_right fun h9 => ⟨h9, by omega, by omega⟩
        · split at ha
          · next h1 => exact (key _ ha).imp_right fun h9 => ⟨h9, by omega, by omega⟩
          · have ha2 : h.roots[k]? = some a := ha
            rw [hb] at ha2; injection ha2 with ha2; exact .inl ha2.symm
theorem step_cell {h : HeapM} {o : CmdM} (hr : (stepM h o).2 = true) {k : Nat} {c : CellM} (hc : h.cells[k]? = some c) : ∃ c', (stepM h o).1.cells[k]? = some c' ∧ c'.used = c.used ∧ ((c'.data = c.data ∧ c'.refs = c.refs) ∨ (k : Int) = rootAt h o.a) := by
  obtain ⟨hv, ho, hp, e⟩ := stepM_done hr
  have hk := (List.getElem?_eq_some_iff.1 hc).1
  obtain ⟨o1, o2, a1, a2, -⟩ := cmdOk_parts ho
  rw [e]
  unfold execM
  simp only
  split
  · exact ⟨c, put_old hc (by omega), rfl, .inl ⟨rfl, rfl⟩⟩
  · split
    · exact ⟨c, hc, rfl, .inl ⟨rfl, rfl⟩⟩
    · split
      · next h3 =>
        refine ⟨_, setRef_at hc, by split <;> rfl, ?_⟩
        by_cases ek : k = (rootAt h o.a).toNat
        · have hpl : placeOk h o.a o.c = true := by unfold possO at hp; simpa [h3] using hp
          unfold placeOk at hpl
          simp only [Bool.and_eq_true, decide_eq_true_eq] at hpl
          exact .inr (by omega)
        · rw [if_neg ek]; exact .inl ⟨rfl, rfl⟩
      · split
        · exact ⟨c, hc, rfl, .inl ⟨rfl, rfl⟩⟩
        · split
          · exact ⟨c, hc, rfl, .inl ⟨rfl, rfl⟩⟩
          · next h5 =>
            refine ⟨_, setData_at hc, by split <;> rfl, ?_⟩
            by_cases ek : k = (rootAt h o.a).toNat
            · have h6 : o.op = 6 := by omega
              have hpl : 0 ≤ rootAt h o.a := by unfold possO at hp; simpa [h6] using hp
              exact .inr (by omega)
            · rw [if_neg ek]; exact .inl ⟨rfl, rfl⟩
theorem step_done {h : HeapM} {o : CmdM} (hr : (stepM h o).2 = true) : validM (stepM h o).1 = true ∧ (stepM h o).1.cells.length = (if o.op = 1 then h.cells.length + 1 else h.cells.length) ∧ (stepM h o).1.roots.length = 4 ∧ h.roots.length = 4 := by
  obtain ⟨hv, ho, hp, e⟩ := stepM_done hr
  have hv2 := valid_step hv ho
  refine ⟨hv2, ?_, (validM_len hv2).2, (validM_len hv).2⟩
  rw [e]; simp [exec_len]
theorem step_not (h : HeapM) (o : CmdM) (hr : (stepM h o).2 = false) : (stepM h o).1.roots.length = 0 ∨ (stepM h o).1 = h := by
  unfold stepM at hr ⊢
  split
  · next hb =>
    rw [if_pos hb] at hr
    split
    · next hb2 => rw [if_pos hb2] at hr; cases hr
    · exact .inr rfl
  · exact .inl rfl
/-- FnCommandPossible. -/
theorem law_CommandPossible (h : HeapM) (o : CmdM) : (stepM h o).2 = (possM h o && (!decide (o.op = 1) || decide (h.cells.length < 40))) := by
  unfold possM
  rcases bool_ft (validM h && cmdOk o) with hb | hb
  · rw [stepM_inv hb, hb]; rfl
  · rw [hb, Bool.true_and]
    have hb2 := Bool.and_eq_true_iff.1 hb
    rcases bool_ft (possO h o) with hp | hp
    · rw [stepM_not hb2.1 hb2.2 hp, hp]; rfl
    · rw [hp, Bool.true_and]
      by_cases e : o.op = 1
      · have hl := (validM_len hb2.1).1
        by_cases h4 : h.cells.length < 40
        · rw [stepM_poss hb2.1 hb2.2 hp (fun _ => h4)]; simp [e, h4]
        · rw [stepM_full hb2.1 hb2.2 e (by omega)]; simp [e, h4]
      · rw [stepM_poss hb2.1 hb2.2 hp (fun h9 => absurd h9 e)]; simp [e]
/-- FnNewLives. -/
theorem law_NewLives {h : HeapM} {o : CmdM} (hr : (stepM h o).2 = true) (h1 : o.op = 1) : rootAt (stepM h o).1 o.a = (h.cells.length : Int) ∧ (reachM (stepM h o).1).getD h.cells.length false = true ∧ (stepM h o).1.cells[h.cells.length]? = some (newCell o) ∧ (reachM (stepM h o).1).length = h.cells.length + 1 := by
  obtain ⟨hv, ho, hp, e⟩ := stepM_done hr
  obtain ⟨o1, o2, a1, a2, -⟩ := cmdOk_parts ho
  obtain ⟨d1, d2, d3, d4⟩ := step_done hr
  have hroots : (stepM h o).1.roots = h.roots.set o.a.toNat (h.cells.length : Int) := by rw [e]; unfold execM; rw [if_pos h1]
  have hat : (stepM h o).1.roots[o.a.toNat]? = some (h.cells.length : Int) := by rw [hroots, List.getElem?_set_self (by omega)]
  refine ⟨by unfold rootAt; rw [hat], ?_, ?_, by rw [reachM_len, d2, if_pos h1]⟩
  · rw [reach_iff d1]
    have := Rch.start (rf := refsAt (stepM h o).1) (ok := nonneg) (List.mem_of_getElem? hat) (by simp [nonneg])
    simpa using this
  · rw [e]; unfold execM; rw [if_pos h1]
    exact put_new (Nat.le_refl _)
/-- FnDropLess. -/
theorem law_DropLess {h : HeapM} {o : CmdM} (hr : (stepM h o).2 = true) (h1 : o.op ≠ 1) : (reachM (stepM h o).1).length = (reachM h).length ∧ ∀ k, (reachM (stepM h o).1).getD k false = true → (reachM h).getD k false = true := by
  obtain ⟨hv, ho, hp, e⟩ := stepM_done hr
  obtain ⟨d1, d2, d3, d4⟩ := step_done hr
  refine ⟨by rw [reachM_len, reachM_len, d2, if_neg h1], fun k hk => ?_⟩
  rw [reach_iff d1] at hk
  rw [reach_iff hv]
  have rootR : ∀ a : Int, 0 ≤ rootAt h a → rch h (rootAt h a).toNat := fun a h0 => by
    unfold rootAt at h0 ⊢
    cases e9 : h.roots[a.toNat]? with
    | none => rw [e9] at h0; exact absurd (show (0 : Int) ≤ -1 from h0) (by decide)
    | some x => rw [e9] at h0; exact .start (List.mem_of_getElem? e9) (by simpa [nonneg] using h0)
  have refR : placeOk h o.b o.c = true → 0 ≤ refOf h o.b o.c → rch h (refOf h o.b o.c).toNat := fun hpl h0 => by
    unfold placeOk at hpl
    simp only [Bool.and_eq_true, decide_eq_true_eq] at hpl
    unfold refOf at h0 ⊢
    cases e9 : (refsAt h (rootAt h o.b).toNat)[o.c.toNat]? with
    | none => rw [e9] at h0; exact absurd (show (0 : Int) ≤ -1 from h0) (by decide)
    | some x => rw [e9] at h0; exact .next (rootR _ hpl.1) (List.mem_of_getElem? e9) (by simpa [nonneg] using h0)
  rw [e] at hk
  induction hk with
  | @start r hm hn =>
    have h0 : 0 ≤ r := by simpa [nonneg] using hn
    have old : r ∈ h.roots → rch h r.toNat := fun h9 => .start h9 hn
    unfold execM at hm
    rw [if_neg h1] at hm
    split at hm
    · next h2 =>
      have hm2 : r ∈ h.roots.set o.a.toNat (refOf h o.b o.c) := hm
      rcases List.mem_or_eq_of_mem_set hm2 with h3 | rfl
      · exact old h3
      · exact refR (by unfold possO at hp; simpa [h2] using hp) h0
    · split at hm
      · exact old hm
      · split at hm
        · have hm2 : r ∈ h.roots.set o.a.toNat (rootAt h o.b) := hm
          rcases List.mem_or_eq_of_mem_set hm2 with h3 | rfl
          · exact old h3
          · exact rootR _ h0
        · split at hm
          · have hm2 : r ∈ h.roots.set o.a.toNat (-1) := hm
            rcases List.mem_or_eq_of_mem_set hm2 with h3 | rfl
            · exact old h3
            · omega
          · exact old hm
  | @next j r hj hm hn ih =>
    have h0 : 0 ≤ r := by simpa [nonneg] using hn
    unfold refsAt at hm
    cases e9 : (execM h o h.cells.length).cells[j]? with
    | none => rw [e9] at hm; simp at hm
    | some c' =>
      rw [e9] at hm
      rcases exec_cells (Nat.le_refl _) e9 with ⟨h9, -⟩ | ⟨c, hc, -, -, h2⟩
      · exact absurd h9 h1
      · rcases h2 r hm with h3 | ⟨-, rfl⟩
        · exact .next ih (by rw [refsAt_of hc]; exact h3) hn
        · exact rootR _ h0
end Go.Proofs.Ytngmkflmjjkjaaa
