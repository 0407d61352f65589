/- Texts of one family, one behind the other: Iso, View, LawH, LawS, LawG, LawN. -/
import Derived.Test.YteilaalababfpaaGrData
/- Heaps of which a program sees the same: cells that belong together, and what instructions do to them. -/
namespace Go.Proofs.Yteilaalababfpaa
set_option linter.unusedVariables false
set_option linter.unusedSimpArgs false
inductive All2 {α β : Type} (R : α → β → Prop) : List α → List β → Prop
  | nil : All2 R [] []
  | cons {a : α} {b : β} {as : List α} {bs : List β} : R a b → All2 R as bs → All2 R (a :: as) (b :: bs)
theorem All2.len {α β : Type} {R : α → β → Prop} {as : List α} {bs : List β} (h : All2 R as bs) : as.length = bs.length := by
  induction h with
  | nil => rfl
  | cons _ _ ih => simp [ih]
theorem All2.at_ {α β : Type} {R : α → β → Prop} {as : List α} {bs : List β} (h : All2 R as bs) : ∀ {i : Nat} {a : α}, as[i]? = some a → ∃ b, bs[i]? = some b ∧ R a b := by
  induction h with
  | nil => intro i a h; simp at h
  | cons hr _ ih =>
    intro i a h
    cases i with
    | zero => simp at h; subst h; exact ⟨_, by simp, hr⟩
    | succ i => obtain ⟨b, hb, hr⟩ := ih (by simpa using h); exact ⟨b, by simpa using hb, hr⟩
theorem All2.of_at {α β : Type} {R : α → β → Prop} : ∀ {as : List α} {bs : List β}, as.length = bs.length → (∀ (i : Nat) (a : α) (b : β), as[i]? = some a → bs[i]? = some b → R a b) → All2 R as bs
  | [], [], _, _ => .nil
  | [], b :: bs, h, _ => by simp at h
  | a :: as, [], h, _ => by simp at h
  | a :: as, b :: bs, h, hr => .cons (hr 0 a b (by simp) (by simp)) (All2.of_at (by simpa using h) fun i x y hx hy => hr (i + 1) x y (by simpa using hx) (by simpa using hy))
theorem All2.imp {α β : Type} {R S : α → β → Prop} {as : List α} {bs : List β} (h : All2 R as bs) (hi : ∀ a b, R a b → S a b) : All2 S as bs := by
  induction h with
  | nil => exact .nil
  | cons hr _ ih => exact .cons (hi _ _ hr) ih
theorem All2.imp_mem {α β : Type} {R S : α → β → Prop} {as : List α} {bs : List β} (h : All2 R as bs) : (∀ a ∈ as, ∀ b ∈ bs, R a b → S a b) → All2 S as bs := by
  induction h with
  | nil => intro _; exact .nil
  | cons hr _ ih => intro hi; exact .cons (hi _ (by simp) _ (by simp) hr) (ih fun a ha b hb => hi a (by simp [ha]) b (by simp [hb]))
theorem All2.flip {α β : Type} {R : α → β → Prop} {as : List α} {bs : List β} (h : All2 R as bs) : All2 (fun b a => R a b) bs as := by
  induction h with
  | nil => exact .nil
  | cons hr _ ih => exact .cons hr ih
theorem All2.comp {α β γ : Type} {R : α → β → Prop} {S : β → γ → Prop} {as : List α} {bs : List β} (h : All2 R as bs) : ∀ {cs : List γ}, All2 S bs cs → All2 (fun a c => ∃ b, R a b ∧ S b c) as cs := by
  induction h with
  | nil => intro cs h; cases h; exact .nil
  | cons hr _ ih => intro cs h; cases h with | cons hs hl => exact .cons ⟨_, hr, hs⟩ (ih hl)
theorem All2.set {α β : Type} {R : α → β → Prop} {as : List α} {bs : List β} (h : All2 R as bs) {a : α} {b : β} (hr : R a b) : ∀ k, All2 R (as.set k a) (bs.set k b) := by
  induction h with
  | nil => intro k; exact .nil
  | cons hr2 hl ih =>
    intro k
    cases k with
    | zero => exact .cons hr hl
    | succ k => exact .cons hr2 (ih k)
theorem All2.append {α β : Type} {R : α → β → Prop} {as : List α} {bs : List β} (h : All2 R as bs) {cs : List α} {ds : List β} (h2 : All2 R cs ds) : All2 R (as ++ cs) (bs ++ ds) := by
  induction h with
  | nil => exact h2
  | cons hr _ ih => exact .cons hr ih
theorem All2.map_eq {α β γ : Type} {R : α → β → Prop} {f : α → γ} {g : β → γ} {as : List α} {bs : List β} (h : All2 R as bs) (hf : ∀ a b, R a b → f a = g b) : as.map f = bs.map g := by
  induction h with
  | nil => rfl
  | cons hr _ ih => simp [hf _ _ hr, ih]
theorem All2.of_map {α β γ : Type} {f : α → γ} {g : β → γ} : ∀ {as : List α} {bs : List β}, as.map f = bs.map g → All2 (fun a b => f a = g b) as bs
  | [], [], _ => .nil
  | [], b :: bs, h => by simp at h
  | a :: as, [], h => by simp at h
  | a :: as, b :: bs, h => by
    simp only [List.map_cons, List.cons.injEq] at h
    exact .cons h.1 (All2.of_map h.2)
theorem All2.self {α : Type} {R : α → α → Prop} {as : List α} (h : ∀ a ∈ as, R a a) : All2 R as as := All2.of_at rfl fun i a b ha hb => by
  rw [ha] at hb; injection hb with hb; subst hb; exact h a (List.mem_of_getElem? ha)
def relR (R : Nat → Nat → Prop) (r r' : Int) : Prop := (r = -1 ∧ r' = -1) ∨ (0 ≤ r ∧ 0 ≤ r' ∧ R r.toNat r'.toNat)
structure Sim (R : Nat → Nat → Prop) (h h' : HeapM) : Prop where
  fn : ∀ {a b b' : Nat}, R a b → R a b' → b = b'
  inj : ∀ {a a' b : Nat}, R a b → R a' b → a = a'
  cell : ∀ {k k' : Nat}, R k k' → ∃ d rs rs', h.cells[k]? = some ⟨true, d, rs⟩ ∧ h'.cells[k']? = some ⟨true, d, rs'⟩ ∧ All2 (relR R) rs rs'
  roots : All2 (relR R) h.roots h'.roots
def Iso (h h' : HeapM) : Prop := ∃ R, Sim R h h'
theorem relR_flip {R : Nat → Nat → Prop} {r r' : Int} (h : relR R r r') : relR (fun a b => R b a) r' r := by
  rcases h with ⟨h1, h2⟩ | ⟨h1, h2, h3⟩
  · exact .inl ⟨h2, h1⟩
  · exact .inr ⟨h2, h1, h3⟩
theorem relR_comp {R S : Nat → Nat → Prop} {r s t : Int} (h : relR R r s) (h2 : relR S s t) : relR (fun a c => ∃ b, R a b ∧ S b c) r t := by
  rcases h with ⟨h1, h3⟩ | ⟨h1, h3, h4⟩ <;> rcases h2 with ⟨g1, g3⟩ | ⟨g1, g3, g4⟩
  · exact .inl ⟨h1, g3⟩
  · omega
  · omega
  · exact .inr ⟨h1, g3, _, h4, g4⟩
theorem Sim.symm {R : Nat → Nat → Prop} {h h' : HeapM} (s : Sim R h h') : Sim (fun a b => R b a) h' h :=
  ⟨fun a b => s.inj a b, fun a b => s.fn a b, fun r => by
    obtain ⟨d, rs, rs', h1, h2, h3⟩ := s.cell r
    exact ⟨d, rs', rs, h2, h1, h3.flip.imp fun _ _ => relR_flip⟩, s.roots.flip.imp fun _ _ => relR_flip⟩
theorem Iso.symm {h h' : HeapM} (s : Iso h h') : Iso h' h := by obtain ⟨R, s⟩ := s; exact ⟨_, s.symm⟩
theorem Sim.trans {R S : Nat → Nat → Prop} {a b c : HeapM} (s : Sim R a b) (t : Sim S b c) : Sim (fun x z => ∃ y, R x y ∧ S y z) a c := by
  refine ⟨?_, ?_, ?_, ?_⟩
  · rintro x z z' ⟨y, h1, h2⟩ ⟨y', h3, h4⟩
    obtain rfl := s.fn h1 h3
    exact t.fn h2 h4
  · rintro x x' z ⟨y, h1, h2⟩ ⟨y', h3, h4⟩
    obtain rfl := t.inj h2 h4
    exact s.inj h1 h3
  · rintro x z ⟨y, h1, h2⟩
    obtain ⟨d, rs, rs', g1, g2, g3⟩ := s.cell h1
    obtain ⟨d2, qs, qs', f1, f2, f3⟩ := t.cell h2
    rw [g2] at f1
    simp only [Option.some.injEq, CellM.mk.injEq, true_and] at f1
    obtain ⟨rfl, rfl⟩ := f1
    exact ⟨d, rs, qs', g1, f2, (g3.comp f3).imp fun _ _ ⟨_, h, h'⟩ => relR_comp h h'⟩
  · exact (s.roots.comp t.roots).imp fun _ _ ⟨_, h, h'⟩ => relR_comp h h'
theorem Iso.trans {a b c : HeapM} (s : Iso a b) (t : Iso b c) : Iso a c := by
  obtain ⟨R, s⟩ := s; obtain ⟨S, t⟩ := t; exact ⟨_, s.trans t⟩
theorem iso_same {h h' : HeapM} (hv : validM h = true) (hr : h'.roots = h.roots) (hc : ∀ (k : Nat) (c : CellM), Rch (refsAt h) nonneg h.roots k → h.cells[k]? = some c → h'.cells[k]? = some c) : Iso h h' := by
  refine ⟨fun a b => a = b ∧ Rch (refsAt h) nonneg h.roots a, ?_, ?_, ?_, ?_⟩
  · rintro a b b' ⟨rfl, -⟩ ⟨rfl, -⟩; rfl
  · rintro a b b' ⟨rfl, -⟩ ⟨rfl, -⟩; rfl
  · rintro k k' ⟨rfl, hk⟩
    obtain ⟨⟨u, d, rs⟩, hc1, hu⟩ := reach_leads hv hk
    have hu' : u = true := hu
    subst hu'
    refine ⟨d, rs, rs, hc1, hc k _ hk hc1, All2.self fun r hm => ?_⟩
    have hm2 : r ∈ refsAt h k := by rw [refsAt_of hc1]; exact hm
    rcases leadsM_iff.1 (refsAt_leads hv k r hm2) with h1 | ⟨h0, -⟩
    · exact .inl ⟨h1, h1⟩
    · exact .inr ⟨h0, h0, rfl, .next hk hm2 (by simp [nonneg, h0])⟩
  · rw [hr]
    refine All2.self fun r hm => ?_
    rcases leadsM_iff.1 ((validM_leads hv).2 r hm) with h1 | ⟨h0, -⟩
    · exact .inl ⟨h1, h1⟩
    · exact .inr ⟨h0, h0, rfl, .start hm (by simp [nonneg, h0])⟩
theorem Iso.refl {h : HeapM} (hv : validM h = true) : Iso h h := iso_same hv rfl fun _ _ _ hc => hc
theorem iso_drop {h : HeapM} (hv : validM h = true) {dead : List Bool} (hd : ∀ k, Rch (refsAt h) nonneg h.roots k → dead.getD k false = false) (hl : dead.length = h.cells.length) : Iso h (dropM h dead) := by
  refine iso_same hv rfl fun k c hk hc => ?_
  have hkl := (List.getElem?_eq_some_iff.1 hc).1
  have e := drop_at hc (List.getElem?_eq_getElem (l := dead) (i := k) (by omega))
  have e2 := hd k hk
  rw [getD_of (List.getElem?_eq_getElem (l := dead) (i := k) (by omega))] at e2
  rw [e2] at e
  exact e
theorem Sim.root {R : Nat → Nat → Prop} {h h' : HeapM} (s : Sim R h h') (a : Int) : relR R (rootAt h a) (rootAt h' a) := by
  unfold rootAt
  cases e : h.roots[a.toNat]? with
  | none =>
    have : h'.roots[a.toNat]? = none := by rw [List.getElem?_eq_none_iff] at e ⊢; rw [← s.roots.len]; exact e
    rw [this]; exact .inl ⟨rfl, rfl⟩
  | some x =>
    obtain ⟨y, hy, hr⟩ := s.roots.at_ e
    rw [hy]; exact hr
theorem Sim.refs {R : Nat → Nat → Prop} {h h' : HeapM} (s : Sim R h h') {k k' : Nat} (hr : R k k') : All2 (relR R) (refsAt h k) (refsAt h' k') := by
  obtain ⟨d, rs, rs', h1, h2, h3⟩ := s.cell hr
  rw [refsAt_of h1, refsAt_of h2]; exact h3
theorem Sim.place {R : Nat → Nat → Prop} {h h' : HeapM} (s : Sim R h h') (a c : Int) : placeOk h a c = placeOk h' a c := by
  unfold placeOk
  rcases s.root a with ⟨h1, h2⟩ | ⟨h1, h2, h3⟩
  · rw [h1, h2]; simp
  · have := (s.refs h3).len
    simp [h1, h2, this]
theorem Sim.refOf {R : Nat → Nat → Prop} {h h' : HeapM} (s : Sim R h h') {a c : Int} (hp : placeOk h a c = true) : relR R (refOf h a c) (refOf h' a c) := by
  unfold placeOk at hp
  simp only [Bool.and_eq_true, decide_eq_true_eq] at hp
  unfold Proofs.Yteilaalababfpaa.refOf
  rcases s.root a with ⟨h1, h2⟩ | ⟨h1, h2, h3⟩
  · omega
  · cases e : (refsAt h (rootAt h a).toNat)[c.toNat]? with
    | none =>
      have : (refsAt h' (rootAt h' a).toNat)[c.toNat]? = none := by rw [List.getElem?_eq_none_iff] at e ⊢; rw [← (s.refs h3).len]; exact e
      rw [this]; exact .inl ⟨rfl, rfl⟩
    | some x =>
      obtain ⟨y, hy, hr⟩ := (s.refs h3).at_ e
      rw [hy]; exact hr
theorem put_old {cs : List CellM} {p k : Nat} {x c : CellM} (hc : cs[k]? = some c) (hk : k ≠ p) : (putCell cs p x)[k]? = some c := by
  have hlt := (List.getElem?_eq_some_iff.1 hc).1
  unfold putCell
  split
  · rw [List.getElem?_append_left hlt]; exact hc
  · rw [List.getElem?_set_ne (by omega)]; exact hc
theorem put_new {cs : List CellM} {p : Nat} {x : CellM} (hp : p ≤ cs.length) : (putCell cs p x)[p]? = some x := by
  unfold putCell
  split
  · next e => subst e; simp
  · rw [List.getElem?_set_self (by omega)]
def freeTo (h : HeapM) (p : Nat) : Prop := p ≤ h.cells.length ∧ ∀ c, h.cells[p]? = some c → c.used = false
theorem freeTo_len (h : HeapM) : freeTo h h.cells.length := ⟨Nat.le_refl _, fun c hc => by simp at hc⟩
theorem setRef_at {cs : List CellM} {k j : Nat} {r : Int} {i : Nat} {c : CellM} (hc : cs[i]? = some c) : (setRef cs k j r)[i]? = some (if i = k then ⟨c.used, c.data, c.refs.set j r⟩ else c) := by
  have hlt := (List.getElem?_eq_some_iff.1 hc).1
  unfold setRef
  by_cases e : i = k
  · subst e
    rw [hc, if_pos rfl]
    simp only
    rw [List.getElem?_set_self hlt]
  · rw [if_neg e]
    split
    · rw [List.getElem?_set_ne (by omega)]; exact hc
    · exact hc
theorem setData_at {cs : List CellM} {k : Nat} {d : Int} {i : Nat} {c : CellM} (hc : cs[i]? = some c) : (setData cs k d)[i]? = some (if i = k then ⟨c.used, d, c.refs⟩ else c) := by
  have hlt := (List.getElem?_eq_some_iff.1 hc).1
  unfold setData
  by_cases e : i = k
  · subst e
    rw [hc, if_pos rfl]
    simp only
    rw [List.getElem?_set_self hlt]
  · rw [if_neg e]
    split
    · rw [List.getElem?_set_ne (by omega)]; exact hc
    · exact hc
end Go.Proofs.Yteilaalababfpaa
/- What a program sees of a heap, as a plain function: the same exactly of heaps whose cells belong together. -/
namespace Go.Proofs.Yteilaalababfpaa
set_option linter.unusedVariables false
set_option linter.unusedSimpArgs false
structure OrdC (rf : Nat → List Int) (ok : Int → Bool) (fr : List Int) (i : Nat) (st : (Nat → Bool) × List Int) : Prop where
  sound : ∀ k, st.1 k = true → Rch rf ok fr k
  list : ∀ k, st.1 k = true → ∃ r ∈ st.2, r.toNat = k
  met : ∀ r ∈ st.2, ok r = true ∧ st.1 r.toNat = true
  start : ∀ r ∈ fr, ok r = true → st.1 r.toNat = true
  off : ∀ (j : Nat) (r : Int), j < i → st.2[j]? = some r → ∀ x ∈ rf r.toNat, ok x = true → st.1 x.toNat = true
theorem ordC {rf : Nat → List Int} {ok : Int → Bool} {fr : List Int} : ∀ i, OrdC rf ok fr i (ordIt rf ok fr i)
  | 0 => by
    obtain ⟨ns, h1, h2, h3⟩ := visL_work (ok := ok) fr (fun _ => false, [])
    show OrdC rf ok fr 0 (visL ok (fun _ => false, []) fr)
    refine ⟨fun k hk => ?_, fun k hk => ?_, fun r hr => ?_, fun r hr ho => visL_has fr _ r hr ho, fun j r hj => by omega⟩
    · rcases visL_only fr _ hk with h | ⟨r, hr, ho, rfl⟩
      · cases h
      · exact .start hr ho
    · rcases h3 k hk with h | ⟨r, hr, rfl⟩
      · cases h
      · exact ⟨r, by rw [h1]; simpa using hr, rfl⟩
    · rw [h1] at hr
      have hn : r ∈ ns := by simpa using hr
      exact ⟨(h2 r hn).1, visL_has fr _ r (h2 r hn).2.1 (h2 r hn).1⟩
  | i + 1 => by
    have ih := ordC (rf := rf) (ok := ok) (fr := fr) i
    show OrdC rf ok fr (i + 1) (ordStep rf ok i (ordIt rf ok fr i))
    generalize ordIt rf ok fr i = st at ih
    unfold ordStep
    cases e : st.2[i]? with
    | none =>
      refine ⟨ih.sound, ih.list, ih.met, ih.start, fun j r hj hr => ?_⟩
      have := List.getElem?_eq_none_iff.1 e
      have hr2 : st.2[j]? = some r := hr
      have := (List.getElem?_eq_some_iff.1 hr2).1
      exact ih.off j r (by omega) hr2
    | some x =>
      obtain ⟨ns, h1, h2, h3⟩ := visL_work (ok := ok) (rf x.toNat) st
      have hx := ih.met x (List.mem_of_getElem? e)
      simp only
      refine ⟨fun k hk => ?_, fun k hk => ?_, fun r hr => ?_, fun r hr ho => visL_mono _ _ (ih.start r hr ho), fun j r hj hr y hy ho => ?_⟩
      · rcases visL_only _ _ hk with h | ⟨r, hr, ho, rfl⟩
        · exact ih.sound k h
        · exact .next (ih.sound _ hx.2) hr ho
      · rcases h3 k hk with h | ⟨r, hr, rfl⟩
        · obtain ⟨r, hr, rfl⟩ := ih.list k h
          exact ⟨r, by rw [h1]; simp [hr], rfl⟩
        · exact ⟨r, by rw [h1]; simp [hr], rfl⟩
      · rw [h1] at hr
        rcases List.mem_append.1 hr with hr | hr
        · exact ⟨(ih.met r hr).1, visL_mono _ _ (ih.met r hr).2⟩
        · exact ⟨(h2 r hr).1, visL_has _ _ r (h2 r hr).2.1 (h2 r hr).1⟩
      · rw [h1] at hr
        have hil := (List.getElem?_eq_some_iff.1 e).1
        rw [List.getElem?_append_left (by omega)] at hr
        by_cases hj2 : j = i
        · subst hj2
          rw [e] at hr; injection hr with hr; subst hr
          exact visL_has _ _ y hy ho
        · exact visL_mono _ _ (ih.off j r (by omega) hr y hy ho)
theorem ord_mem {h : HeapM} (hv : validM h = true) {r : Int} : r ∈ orderM h ↔ 0 ≤ r ∧ Rch (refsAt h) nonneg h.roots r.toNat := by
  have hc := ordC (rf := refsAt h) (ok := nonneg) (fr := h.roots) h.cells.length
  have hlen := (ord_ok hv h.cells.length).le
  unfold orderM
  have key : ∀ k, (ordIt (refsAt h) nonneg h.roots h.cells.length).1 k = true ↔ Rch (refsAt h) nonneg h.roots k := by
    intro k
    refine ⟨hc.sound k, fun hr => ?_⟩
    induction hr with
    | start hr ho => exact hc.start _ hr ho
    | next _ hr ho ih =>
      obtain ⟨x, hx, hxe⟩ := hc.list _ ih
      obtain ⟨j, hj⟩ := List.getElem?_of_mem hx
      have hjl := (List.getElem?_eq_some_iff.1 hj).1
      exact hc.off j x (by omega) hj _ (by rw [hxe]; exact hr) ho
  constructor
  · intro hr
    have := hc.met r hr
    exact ⟨by simpa [nonneg] using this.1, (key _).1 this.2⟩
  · rintro ⟨h0, hr⟩
    obtain ⟨x, hx, hxe⟩ := hc.list _ ((key _).2 hr)
    have h1 : 0 ≤ x := by simpa [nonneg] using (hc.met x hx).1
    obtain rfl : x = r := by omega
    exact hx
theorem ord_root {h : HeapM} (hv : validM h = true) {r : Int} (hr : r ∈ h.roots) : r = -1 ∨ r ∈ orderM h := by
  rcases leadsM_iff.1 ((validM_leads hv).2 r hr) with h1 | ⟨h0, -⟩
  · exact .inl h1
  · exact .inr ((ord_mem hv).2 ⟨h0, .start hr (by simp [nonneg, h0])⟩)
theorem ord_ref {h : HeapM} (hv : validM h = true) {k : Int} (hk : k ∈ orderM h) {r : Int} (hr : r ∈ refsAt h k.toNat) : r = -1 ∨ r ∈ orderM h := by
  rcases leadsM_iff.1 (refsAt_leads hv _ r hr) with h1 | ⟨h0, -⟩
  · exact .inl h1
  · exact .inr ((ord_mem hv).2 ⟨h0, .next ((ord_mem hv).1 hk).2 hr (by simp [nonneg, h0])⟩)
theorem nameM_nat (order : List Int) (r : Int) : (nameM order r = -1 ∧ r ∉ order) ∨ ∃ k : Nat, nameM order r = (k : Int) ∧ order[k]? = some r := by
  unfold nameM
  cases e : firstB (isR r) order with
  | none =>
    refine .inl ⟨rfl, fun hm => ?_⟩
    have := firstB_none_all e r hm
    simp [isR] at this
  | some k =>
    obtain ⟨x, hx, hp, -⟩ := firstB_at e
    have : x = r := by simpa [isR] using hp
    subst this
    exact .inr ⟨k, rfl, hx⟩
theorem nameM_of {order : List Int} (hnd : order.Pairwise fun a b => a ≠ b) {k : Nat} {r : Int} (hk : order[k]? = some r) : nameM order r = (k : Int) := by
  have hp := List.pairwise_iff_getElem.1 hnd
  refine nameM_some (fun i hi y hy => ?_) hk
  obtain ⟨hkl, rfl⟩ := List.getElem?_eq_some_iff.1 hk
  obtain ⟨hil, rfl⟩ := List.getElem?_eq_some_iff.1 hy
  have := hp i k hil hkl hi
  unfold isR; simpa using this
def recM (h : HeapM) (order : List Int) (r : Int) : List Int := match h.cells[r.toNat]? with | some c => c.data :: (c.refs.length : Int) :: c.refs.map (nameM order) | none => []
theorem recM_of {h : HeapM} {order : List Int} {r : Int} {c : CellM} (hc : h.cells[r.toNat]? = some c) : recM h order r = c.data :: (c.refs.length : Int) :: c.refs.map (nameM order) := by unfold recM; rw [hc]
def viewFrom (h : HeapM) (order : List Int) : List Int := h.roots.map (nameM order) ++ order.flatMap (recM h order)
def viewM (h : HeapM) : List Int := if validM h then viewFrom h (orderM h) else []
theorem viewM_ok {h : HeapM} (hv : validM h = true) : viewM h = viewFrom h (orderM h) := by unfold viewM; rw [if_pos hv]
def sameViewM (a b : HeapM) : Bool := validM a && (validM b && decide (viewM a = viewM b))
structure Lock (R : Nat → Nat → Prop) (st st' : (Nat → Bool) × List Int) : Prop where
  lst : All2 (fun r r' => 0 ≤ r ∧ 0 ≤ r' ∧ R r.toNat r'.toNat) st.2 st'.2
  met : ∀ k k', R k k' → st.1 k = st'.1 k'
theorem Lock.vis1 {R : Nat → Nat → Prop} {h h' : HeapM} (s : Sim R h h') {st st' : (Nat → Bool) × List Int} (l : Lock R st st') {r r' : Int} (hr : relR R r r') : Lock R (vis1 nonneg st r) (vis1 nonneg st' r') := by
  rcases hr with ⟨rfl, rfl⟩ | ⟨h1, h2, h3⟩
  · rw [vis1_no (.inl (by decide)), vis1_no (.inl (by decide))]; exact l
  · have hm := l.met _ _ h3
    rcases bool_ft (st.1 r.toNat) with hb | hb
    · rw [vis1_yes (by simp [nonneg, h1]) hb, vis1_yes (by simp [nonneg, h2]) (by rw [← hm]; exact hb)]
      refine ⟨l.lst.append (.cons ⟨h1, h2, h3⟩ .nil), fun k k' hk => ?_⟩
      simp only
      by_cases e : k = r.toNat
      · have e' : k' = r'.toNat := by rw [e] at hk; exact s.fn hk h3
        rw [if_pos e, if_pos e']
      · have e' : k' ≠ r'.toNat := fun e' => e (s.inj hk (e' ▸ h3))
        rw [if_neg e, if_neg e']; exact l.met _ _ hk
    · rw [vis1_no (.inr hb), vis1_no (.inr (by rw [← hm]; exact hb))]; exact l
theorem Lock.visL {R : Nat → Nat → Prop} {h h' : HeapM} (s : Sim R h h') {rs rs' : List Int} (hr : All2 (relR R) rs rs') : ∀ {st st' : (Nat → Bool) × List Int}, Lock R st st' → Lock R (visL nonneg st rs) (visL nonneg st' rs') := by
  induction hr with
  | nil => intro st st' l; exact l
  | cons hr _ ih => intro st st' l; exact ih (l.vis1 s hr)
theorem Lock.it {R : Nat → Nat → Prop} {h h' : HeapM} (s : Sim R h h') : ∀ i, Lock R (ordIt (refsAt h) nonneg h.roots i) (ordIt (refsAt h') nonneg h'.roots i)
  | 0 => Lock.visL s s.roots ⟨.nil, fun _ _ _ => rfl⟩
  | i + 1 => by
    have l := Lock.it s i
    show Lock R (ordStep (refsAt h) nonneg i _) (ordStep (refsAt h') nonneg i _)
    unfold ordStep
    cases e : (ordIt (refsAt h) nonneg h.roots i).2[i]? with
    | none =>
      have : (ordIt (refsAt h') nonneg h'.roots i).2[i]? = none := by rw [List.getElem?_eq_none_iff] at e ⊢; rw [← l.lst.len]; exact e
      rw [this]; exact l
    | some x =>
      obtain ⟨y, hy, -, -, hr⟩ := l.lst.at_ e
      rw [hy]; exact Lock.visL s (s.refs hr) l
theorem ord_far {h : HeapM} (hv : validM h = true) {n : Nat} (hn : h.cells.length ≤ n) : (ordIt (refsAt h) nonneg h.roots n).2 = orderM h := by
  have hlen := (ord_ok hv h.cells.length).le
  have := ordIt_stay (rf := refsAt h) (ok := nonneg) (fr := h.roots) (i := h.cells.length) (by omega) (n - h.cells.length)
  rw [show h.cells.length + (n - h.cells.length) = n by omega] at this
  rw [this]; rfl
theorem Sim.order {R : Nat → Nat → Prop} {h h' : HeapM} (s : Sim R h h') (hv : validM h = true) (hv' : validM h' = true) : All2 (fun r r' => 0 ≤ r ∧ 0 ≤ r' ∧ R r.toNat r'.toNat) (orderM h) (orderM h') := by
  have l := (Lock.it s 40).lst
  rwa [ord_far hv (validM_len hv).1, ord_far hv' (validM_len hv').1] at l
theorem Sim.name {R : Nat → Nat → Prop} {h h' : HeapM} (s : Sim R h h') {os os' : List Int} (ho : All2 (fun r r' => 0 ≤ r ∧ 0 ≤ r' ∧ R r.toNat r'.toNat) os os') {r r' : Int} (hr : relR R r r') : nameM os r = nameM os' r' := by
  have : firstB (isR r) os = firstB (isR r') os' := by
    induction ho with
    | nil => rfl
    | @cons a b _ _ hab _ ih =>
      have e : isR r a = isR r' b := by
        unfold isR
        obtain ⟨h1, h2, h3⟩ := hab
        rcases hr with ⟨rfl, rfl⟩ | ⟨g1, g2, g3⟩
        · rw [Bool.eq_iff_iff]; simp only [beq_iff_eq]; omega
        · rw [Bool.eq_iff_iff]; simp only [beq_iff_eq]
          constructor
          · rintro rfl; have := s.fn h3 g3; omega
          · rintro rfl; have := s.inj h3 g3; omega
      simp only [firstB, e, ih]
  unfold nameM; rw [this]
theorem Sim.view {R : Nat → Nat → Prop} {h h' : HeapM} (s : Sim R h h') (hv : validM h = true) (hv' : validM h' = true) : viewM h = viewM h' := by
  have ho := s.order hv hv'
  rw [viewM_ok hv, viewM_ok hv']
  unfold viewFrom
  have hn : ∀ r r', relR R r r' → nameM (orderM h) r = nameM (orderM h') r' := fun r r' hr => s.name ho hr
  generalize orderM h = os at *
  generalize orderM h' = os' at *
  rw [s.roots.map_eq hn]
  congr 1
  have : ∀ {l l' : List Int}, All2 (fun r r' => 0 ≤ r ∧ 0 ≤ r' ∧ R r.toNat r'.toNat) l l' → l.flatMap (recM h os) = l'.flatMap (recM h' os') := by
    intro l l' hl
    induction hl with
    | nil => rfl
    | cons hab _ ih =>
      obtain ⟨h1, h2, h3⟩ := hab
      obtain ⟨d, rs, rs', g1, g2, g3⟩ := s.cell h3
      simp only [List.flatMap_cons, ih, recM_of g1, recM_of g2, g3.map_eq hn, g3.len]
  exact this ho
theorem rec_inj {n : Nat} {a b : List Int} {d e : Int} {ns ms : List Int} {m : Nat} (hn : ns.length = n) (hm : ms.length = m) (h : (d :: (n : Int) :: ns) ++ a = (e :: (m : Int) :: ms) ++ b) : d = e ∧ ns = ms ∧ a = b := by
  simp only [List.cons_append, List.cons.injEq] at h
  obtain ⟨h1, h2, h3⟩ := h
  have h4 : n = m := by omega
  obtain ⟨h5, h6⟩ := List.append_inj h3 (by omega)
  exact ⟨h1, h5, h6⟩
theorem recs_inj {h h' : HeapM} {os os' : List Int} : ∀ {l l' : List Int}, (∀ r ∈ l, ∃ c, h.cells[r.toNat]? = some c) → (∀ r ∈ l', ∃ c, h'.cells[r.toNat]? = some c) → l.flatMap (recM h os) = l'.flatMap (recM h' os') → All2 (fun r r' => recM h os r = recM h' os' r') l l'
  | [], [], _, _, _ => .nil
  | [], r :: l, _, h2, e => by
    obtain ⟨c, hc⟩ := h2 r (by simp)
    rw [List.flatMap_nil, List.flatMap_cons, recM_of hc] at e; simp at e
  | r :: l, [], h1, _, e => by
    obtain ⟨c, hc⟩ := h1 r (by simp)
    rw [List.flatMap_nil, List.flatMap_cons, recM_of hc] at e; simp at e
  | r :: l, r' :: l', h1, h2, e => by
    obtain ⟨c, hc⟩ := h1 r (by simp)
    obtain ⟨c', hc'⟩ := h2 r' (by simp)
    rw [List.flatMap_cons, List.flatMap_cons, recM_of hc, recM_of hc'] at e
    obtain ⟨e1, e2, e3⟩ := rec_inj (by simp) (by simp) e
    refine .cons ?_ (recs_inj (fun x hx => h1 x (by simp [hx])) (fun x hx => h2 x (by simp [hx])) e3)
    rw [recM_of hc, recM_of hc', e1, e2]
    have := congrArg List.length e2
    simp only [List.length_map] at this
    rw [this]
theorem iso_view {h h' : HeapM} (hv : validM h = true) (hv' : validM h' = true) (e : viewM h = viewM h') : Iso h h' := by
  rw [viewM_ok hv, viewM_ok hv'] at e
  unfold viewFrom at e
  obtain ⟨e1, e2⟩ := List.append_inj e (by simp [(validM_len hv).2, (validM_len hv').2])
  have hcell : ∀ {h : HeapM}, validM h = true → ∀ r ∈ orderM h, ∃ c, h.cells[r.toNat]? = some c := fun hv r hr => by
    obtain ⟨c, hc, -⟩ := reach_leads hv ((ord_mem hv).1 hr).2; exact ⟨c, hc⟩
  have e3 := recs_inj (hcell hv) (hcell hv') e2
  have nd := (order_ok hv).nd
  have nd' := (order_ok hv').nd
  have hpos : ∀ {h : HeapM}, validM h = true → ∀ {i : Nat} {r : Int}, (orderM h)[i]? = some r → ((r.toNat : Nat) : Int) = r := fun {g} hg {i r} hr => by
    have := ((ord_mem hg).1 (List.mem_of_getElem? hr)).1; omega
  have hrel : ∀ r r' : Int, (r = -1 ∨ r ∈ orderM h) → (r' = -1 ∨ r' ∈ orderM h') → nameM (orderM h) r = nameM (orderM h') r' → relR (fun k k' => ∃ i : Nat, (orderM h)[i]? = some (k : Int) ∧ (orderM h')[i]? = some (k' : Int)) r r' := by
    intro r r' h1 h2 hn
    have hm1 : ∀ {g : HeapM}, validM g = true → (-1 : Int) ∉ orderM g := fun {g} hg hm => by have := ((ord_mem hg).1 hm).1; omega
    rcases nameM_nat (orderM h) r with ⟨g1, g2⟩ | ⟨k, g1, g2⟩ <;> rcases nameM_nat (orderM h') r' with ⟨f1, f2⟩ | ⟨k', f1, f2⟩
    · exact .inl ⟨h1.resolve_right g2, h2.resolve_right f2⟩
    · omega
    · omega
    · have hk : k = k' := by omega
      subst hk
      have p1 := hpos hv g2
      have p2 := hpos hv' f2
      exact .inr ⟨by omega, by omega, k, by rw [p1]; exact g2, by rw [p2]; exact f2⟩
  refine ⟨fun k k' => ∃ i : Nat, (orderM h)[i]? = some (k : Int) ∧ (orderM h')[i]? = some (k' : Int), ?_, ?_, ?_, ?_⟩
  · rintro a b b' ⟨i, h1, h2⟩ ⟨j, h3, h4⟩
    have hij : i = j := by have := (nameM_of nd h1).symm.trans (nameM_of nd h3); omega
    subst hij
    rw [h2] at h4; injection h4 with h4; omega
  · rintro a a' b ⟨i, h1, h2⟩ ⟨j, h3, h4⟩
    have hij : i = j := by have := (nameM_of nd' h2).symm.trans (nameM_of nd' h4); omega
    subst hij
    rw [h1] at h3; injection h3 with h3; omega
  · rintro k k' ⟨i, h1, h2⟩
    obtain ⟨r', hr', hrec⟩ := e3.at_ h1
    rw [h2] at hr'; injection hr' with hr'; subst hr'
    have m1 := (ord_mem hv).1 (List.mem_of_getElem? h1)
    have m2 := (ord_mem hv').1 (List.mem_of_getElem? h2)
    obtain ⟨⟨u, d, rs⟩, hc, hu⟩ := reach_leads hv m1.2
    obtain ⟨⟨u', d', rs'⟩, hc', hu'⟩ := reach_leads hv' m2.2
    have hu2 : u = true := hu
    have hu2' : u' = true := hu'
    subst hu2 hu2'
    rw [recM_of hc, recM_of hc'] at hrec
    simp only [List.cons.injEq] at hrec
    obtain ⟨rfl, -, hn⟩ := hrec
    simp only [Int.toNat_natCast] at hc hc'
    refine ⟨d, rs, rs', hc, hc', (All2.of_map hn).imp_mem fun a ha b hb hab => hrel a b ?_ ?_ hab⟩
    · exact ord_ref hv (List.mem_of_getElem? h1) (by rw [Int.toNat_natCast, refsAt_of hc]; exact ha)
    · exact ord_ref hv' (List.mem_of_getElem? h2) (by rw [Int.toNat_natCast, refsAt_of hc']; exact hb)
  · exact (All2.of_map e1).imp_mem fun a ha b hb hab => hrel a b (ord_root hv ha) (ord_root hv' hb) hab
theorem view_iff {h h' : HeapM} (hv : validM h = true) (hv' : validM h' = true) : viewM h = viewM h' ↔ Iso h h' := ⟨iso_view hv hv', fun ⟨_, s⟩ => s.view hv hv'⟩
theorem sameView_iff {a b : HeapM} : sameViewM a b = true ↔ validM a = true ∧ validM b = true ∧ Iso a b := by
  unfold sameViewM
  simp only [Bool.and_eq_true, decide_eq_true_eq]
  constructor
  · rintro ⟨h1, h2, h3⟩; exact ⟨h1, h2, (view_iff h1 h2).1 h3⟩
  · rintro ⟨h1, h2, h3⟩; exact ⟨h1, h2, (view_iff h1 h2).2 h3⟩
end Go.Proofs.Yteilaalababfpaa
/- Plain laws: programs on heaps, freeing, moving; what a program sees stays. -/
namespace Go.Proofs.Yteilaalababfpaa
set_option linter.unusedVariables false
set_option linter.unusedSimpArgs false
theorem stepM_poss {h : HeapM} {o : CmdM} (hv : validM h = true) (ho : cmdOk o = true) (hp : possO h o = true) (hl : o.op = 1 → h.cells.length < 40) : stepM h o = (execM h o h.cells.length, true) := by
  unfold stepM
  rw [hv, ho, hp]
  have : (decide (o.op = 1) && decide (h.cells.length = 40)) = false := by
    by_cases e : o.op = 1
    · have := hl e; simp [e]; omega
    · simp [e]
  rw [this]; rfl
theorem cmdsOk_iff {l : List CmdM} : cmdsOk l = true ↔ l.length ≤ 40 ∧ ∀ o ∈ l, cmdOk o = true := by unfold cmdsOk; simp
end Go.Proofs.Yteilaalababfpaa
/- Plain laws: sweeping, limits, copies of what is swept or slid. -/
namespace Go.Proofs.Yteilaalababfpaa
set_option linter.unusedVariables false
set_option linter.unusedSimpArgs false
abbrev rch (h : HeapM) (k : Nat) : Prop := Rch (refsAt h) nonneg h.roots k
theorem rch_lt {h : HeapM} (hv : validM h = true) {k : Nat} (hk : rch h k) : k < h.cells.length := by
  obtain ⟨c, hc, -⟩ := reach_leads hv hk
  exact (List.getElem?_eq_some_iff.1 hc).1
theorem swept {h : HeapM} (hv : validM h = true) : (collectSweepM h).1 = dropM h (nots (reachM h)) := by rw [collectSweep_ok hv]
end Go.Proofs.Yteilaalababfpaa
/- Plain laws: heaps with generations. -/
namespace Go.Proofs.Yteilaalababfpaa
set_option linter.unusedVariables false
set_option linter.unusedSimpArgs false
theorem getD_rep (n k : Nat) : (List.replicate n false).getD k false = false := by
  rw [List.getD, List.getElem?_replicate]; split <;> rfl
theorem getD_app {l : List Bool} {k : Nat} : (l ++ [false]).getD k false = l.getD k false := by
  rcases Nat.lt_trichotomy k l.length with h | h | h
  · rw [List.getD, List.getD, List.getElem?_append_left h]
  · subst h; rw [getD_len (l := l) (Nat.le_refl _), List.getD]; simp
  · rw [getD_len (by simp; omega), getD_len (by omega)]
theorem exec_used {h : HeapM} {o : CmdM} (ho : cmdOk o = true) {k : Nat} {c : CellM} (hc : h.cells[k]? = some c) (hu : c.used = true) {p : Nat} (hf : freeTo h p) : ∃ c', (execM h o p).cells[k]? = some c' ∧ c'.used = true := by
  have hkp : k ≠ p := fun e => by have := hf.2 c (e ▸ hc); rw [hu] at this; cases this
  obtain ⟨o1, o2, -⟩ := cmdOk_parts ho
  unfold execM
  split
  · exact ⟨c, put_old hc hkp, hu⟩
  · split
    · exact ⟨c, hc, hu⟩
    · split
      · exact ⟨_, setRef_at hc, by split <;> exact hu⟩
      · split
        · exact ⟨c, hc, hu⟩
        · split
          · exact ⟨c, hc, hu⟩
          · exact ⟨_, setData_at hc, by split <;> exact hu⟩
theorem dropK_at {h : HeapM} {marks : List Bool} (hl : marks.length = h.cells.length) {k : Nat} {c : CellM} (hc : h.cells[k]? = some c) : (dropM h (nots marks)).cells[k]? = some (if marks.getD k false then c else freeCell) := by
  have hk := (List.getElem?_eq_some_iff.1 hc).1
  have hm := List.getElem?_eq_getElem (l := marks) (i := k) (by omega)
  have := drop_at hc (nots_at hm)
  show (dropCs h.cells (nots marks))[k]? = _
  rw [this, getD_of hm]
  cases marks[k]'(by omega) <;> rfl
end Go.Proofs.Yteilaalababfpaa
/- Plain laws: snapshots. -/
namespace Go.Proofs.Yteilaalababfpaa
set_option linter.unusedVariables false
set_option linter.unusedSimpArgs false
structure SnapI (p : TwoM) : Prop where
  hv : validM p.store = true
  xl : p.x.length = p.store.cells.length
  yl : p.y.length = p.store.cells.length
  met : ∀ k, p.x.getD k false = true → ∃ c, p.store.cells[k]? = some c ∧ c.used = true
  waits : ∀ k, p.y.getD k false = true → p.x.getD k false = true
theorem snapM_I {p : TwoM} : snapM p = true ↔ SnapI p := by
  rw [snapM_iff]
  constructor
  · rintro ⟨h1, h2, h3, h4⟩
    refine ⟨h1, h2, h3, fun k hk => ?_, fun k hk => ?_⟩
    · rcases Nat.lt_or_ge k p.store.cells.length with h | h
      · have hc := List.getElem?_eq_getElem (l := p.store.cells) (i := k) h
        have hx := List.getElem?_eq_getElem (l := p.x) (i := k) (by omega)
        have hy := List.getElem?_eq_getElem (l := p.y) (i := k) (by omega)
        rw [getD_of hx] at hk
        exact ⟨_, hc, (h4 k _ _ _ hc hx hy).2 hk⟩
      · rw [getD_len (by omega)] at hk; cases hk
    · rcases Nat.lt_or_ge k p.store.cells.length with h | h
      · have hc := List.getElem?_eq_getElem (l := p.store.cells) (i := k) h
        have hx := List.getElem?_eq_getElem (l := p.x) (i := k) (by omega)
        have hy := List.getElem?_eq_getElem (l := p.y) (i := k) (by omega)
        rw [getD_of hy] at hk
        rw [getD_of hx]
        exact (h4 k _ _ _ hc hx hy).1 hk
      · rw [getD_len (by omega)] at hk; cases hk
  · rintro ⟨h1, h2, h3, h4, h5⟩
    refine ⟨h1, h2, h3, fun k c a b hc ha hb => ⟨fun e => ?_, fun e => ?_⟩⟩
    · have := h5 k (by rw [getD_of hb]; exact e)
      rw [getD_of ha] at this; exact this
    · obtain ⟨c2, hc2, hu⟩ := h4 k (by rw [getD_of ha]; exact e)
      rw [hc] at hc2; injection hc2 with hc2
      rw [hc2]; exact hu
theorem meetL_get {xy : List Bool × List Bool} (hl : xy.2.length = xy.1.length) (rs : List Int) {k : Nat} (hk : k < xy.1.length) :
    (meetL xy rs).1.getD k false = (xy.1.getD k false || decide ((k : Int) ∈ rs)) ∧ (meetL xy rs).2.getD k false = (xy.2.getD k false || (!xy.1.getD k false && decide ((k : Int) ∈ rs))) := by
  have h1 := List.getElem?_eq_getElem (l := xy.1) (i := k) hk
  have h2 := List.getElem?_eq_getElem (l := xy.2) (i := k) (by omega)
  obtain ⟨m1, m2⟩ := meetL_at rs h1 h2
  rw [getD_of m1, getD_of m2, getD_of h1, getD_of h2]
  exact ⟨rfl, rfl⟩
theorem meetL_one (xy : List Bool × List Bool) (r : Int) : meet1 xy r = meetL xy [r] := rfl
theorem snapStart_is {h : HeapM} (hv : validM h = true) : (snapStartM h).store = h ∧ (snapStartM h).x.length = h.cells.length ∧ (snapStartM h).y.length = h.cells.length ∧ ∀ k, k < h.cells.length → (snapStartM h).x.getD k false = decide ((k : Int) ∈ h.roots) ∧ (snapStartM h).y.getD k false = decide ((k : Int) ∈ h.roots) := by
  unfold snapStartM
  rw [if_pos hv]
  have hl := meetL_len h.roots (List.replicate h.cells.length false, List.replicate h.cells.length false)
  refine ⟨rfl, by rw [hl.1]; simp, by rw [hl.2]; simp, fun k hk => ?_⟩
  obtain ⟨m1, m2⟩ := meetL_get (xy := (List.replicate h.cells.length false, List.replicate h.cells.length false)) (by simp) h.roots (k := k) (by simpa using hk)
  simp only [getD_rep] at m1 m2
  rw [m1, m2]
  simp
theorem snapStart_valid {h : HeapM} (hv : validM h = true) : snapM (snapStartM h) = true := by
  obtain ⟨s1, s2, s3, s4⟩ := snapStart_is hv
  refine snapM_I.2 ⟨by rw [s1]; exact hv, by rw [s1]; exact s2, by rw [s1]; exact s3, fun k hk => ?_, fun k hk => ?_⟩
  · rcases Nat.lt_or_ge k h.cells.length with hl | hl
    · rw [(s4 k hl).1] at hk
      have hm : (k : Int) ∈ h.roots := by simpa using hk
      obtain ⟨c, hc, hu⟩ := valid_used ((validM_leads hv).2 _ hm) (by omega)
      exact ⟨c, by rw [s1]; simpa using hc, hu⟩
    · rw [getD_len (by omega)] at hk; cases hk
  · rcases Nat.lt_or_ge k h.cells.length with hl | hl
    · rw [(s4 k hl).2] at hk
      rw [(s4 k hl).1]; exact hk
    · rw [getD_len (by omega)] at hk; cases hk
def waitB (ys : List Bool) : Bool := ys.any id
theorem stepS_waits (p : TwoM) : (stepS p).2 = waitB p.y := by
  unfold stepS waitB
  cases e : firstB id p.y with
  | none =>
    have := firstB_none_all e
    symm
    rw [Bool.eq_false_iff]
    intro h
    obtain ⟨c, hc, h1⟩ := List.any_eq_true.1 h
    have := this c hc
    rw [h1] at this
    cases this
  | some k =>
    obtain ⟨x, hx, hp, -⟩ := firstB_at e
    symm
    exact List.any_eq_true.2 ⟨x, List.mem_of_getElem? hx, hp⟩
theorem stepS_no {p : TwoM} (h : (stepS p).2 = false) : (stepS p).1 = p := by
  unfold stepS at h ⊢
  split
  · rfl
  · next k hk => rw [hk] at h; cases h
theorem stepS_store (p : TwoM) : (stepS p).1.store = p.store ∧ (stepS p).1.x.length = p.x.length ∧ (stepS p).1.y.length = p.y.length := by
  unfold stepS; split
  · exact ⟨rfl, rfl, rfl⟩
  · next k hk =>
    have := meetL_len (refsAt p.store k) (p.x, p.y.set k false)
    exact ⟨rfl, this.1, this.2.trans (by simp)⟩
theorem stepS_get {p : TwoM} (h : snapM p = true) : (stepS p).2 = false ∨ ∃ k, p.y.getD k false = true ∧ k < p.store.cells.length ∧ ∀ j, j < p.store.cells.length →
    (stepS p).1.x.getD j false = (p.x.getD j false || decide ((j : Int) ∈ refsAt p.store k)) ∧ (stepS p).1.y.getD j false = ((p.y.getD j false && !decide (j = k)) || (!p.x.getD j false && decide ((j : Int) ∈ refsAt p.store k))) := by
  have hi := snapM_I.1 h
  unfold stepS
  cases e : firstB id p.y with
  | none => exact .inl rfl
  | some k =>
    obtain ⟨x, hx, hp, -⟩ := firstB_at e
    have hx1 : x = true := hp
    subst hx1
    have hkl := (List.getElem?_eq_some_iff.1 hx).1
    refine .inr ⟨k, getD_of hx, by have := hi.yl; omega, fun j hj => ?_⟩
    obtain ⟨m1, m2⟩ := meetL_get (xy := (p.x, p.y.set k false)) (by simp [hi.xl, hi.yl]) (refsAt p.store k) (k := j) (by show j < p.x.length; rw [hi.xl]; exact hj)
    refine ⟨m1, m2.trans ?_⟩
    congr 1
    show (p.y.set k false).getD j false = _
    rw [List.getD, List.getElem?_set]
    by_cases ek : k = j
    · subst ek; rw [if_pos rfl, if_pos hkl]; simp
    · rw [if_neg ek]
      have : decide (j = k) = false := by simp; omega
      rw [this]; simp [List.getD]
theorem canM_parts {h : HeapM} {o : CmdM} (hv : validM h = true) (hc : canM h o = true) : possO h o = true ∧ (o.op = 1 → h.cells.length < 40) := by
  unfold canM at hc
  simp only [Bool.and_eq_true, Bool.not_eq_true', Bool.and_eq_false_iff, decide_eq_false_iff_not] at hc
  exact ⟨hc.1, fun e => by have := (validM_len hv).1; rcases hc.2 with h1 | h1; exact absurd e h1; omega⟩
theorem canM_step {h : HeapM} {o : CmdM} (hv : validM h = true) (ho : cmdOk o = true) (hc : canM h o = true) : stepM h o = (execM h o h.cells.length, true) := by
  obtain ⟨h1, h2⟩ := canM_parts hv hc
  exact stepM_poss hv ho h1 h2
theorem canM_no {h : HeapM} {o : CmdM} (hv : validM h = true) (ho : cmdOk o = true) (hc : canM h o = false) : stepM h o = (h, false) := by
  unfold stepM canM at *
  rw [hv, ho, hc]; rfl
theorem preS_len (p : TwoM) (o : CmdM) : (preS p o).1.length = p.x.length ∧ (preS p o).2.length = p.y.length := by
  unfold preS; split
  · rw [meetL_one]; exact meetL_len _ _
  · exact ⟨rfl, rfl⟩
theorem snapDo_store (p : TwoM) (o : CmdM) : (snapDo p o).store = execM p.store o p.store.cells.length := by unfold snapDo; split <;> rfl
theorem preS_get {p : TwoM} (hi : SnapI p) (o : CmdM) {k : Nat} (hk : k < p.store.cells.length) : (preS p o).1.getD k false = (p.x.getD k false || (decide (o.op = 3) && decide ((k : Int) = refOf p.store o.a o.c))) ∧ (preS p o).2.getD k false = (p.y.getD k false || (!p.x.getD k false && (decide (o.op = 3) && decide ((k : Int) = refOf p.store o.a o.c)))) := by
  unfold preS
  split
  · next e =>
    rw [meetL_one]
    obtain ⟨m1, m2⟩ := meetL_get (xy := (p.x, p.y)) (by simp [hi.xl, hi.yl]) [refOf p.store o.a o.c] (k := k) (by show k < p.x.length; rw [hi.xl]; exact hk)
    rw [m1, m2]
    simp [e]
  · next e => simp [e]
theorem snapM_do {p : TwoM} {o : CmdM} (h : snapM p = true) (ho : cmdOk o = true) (hc : canM p.store o = true) : snapM (snapDo p o) = true := by
  have hi := snapM_I.1 h
  obtain ⟨hp, hroom⟩ := canM_parts hi.hv hc
  have hv' : validM (execM p.store o p.store.cells.length) = true := valid_exec hi.hv ho hp (Nat.le_refl _) hroom
  have hel := exec_len p.store o p.store.cells.length
  have hold : ∀ k : Nat, (∃ c : CellM, p.store.cells[k]? = some c ∧ c.used = true) → ∃ c : CellM, (execM p.store o p.store.cells.length).cells[k]? = some c ∧ c.used = true := fun k ⟨c, hc1, hu⟩ => exec_used ho hc1 hu (freeTo_len _)
  unfold snapDo
  split
  · next e =>
    have hlen : (execM p.store o p.store.cells.length).cells.length = p.store.cells.length + 1 := by rw [hel, if_pos ⟨e, rfl⟩]
    refine snapM_I.2 ⟨hv', by rw [hlen, ← hi.xl]; simp, by rw [hlen, ← hi.yl]; simp, fun k hk => ?_, fun k hk => ?_⟩
    · have hk2 : (p.x ++ [true]).getD k false = true := hk
      rcases Nat.lt_trichotomy k p.x.length with hl | hl | hl
      · rw [List.getD, List.getElem?_append_left hl] at hk2
        exact hold k (hi.met k hk2)
      · subst hl
        refine ⟨newCell o, ?_, rfl⟩
        show (execM p.store o p.store.cells.length).cells[p.x.length]? = _
        rw [hi.xl]; unfold execM; rw [if_pos e]
        exact put_new (Nat.le_refl _)
      · rw [getD_len (by simp; omega)] at hk2; cases hk2
    · have hk2 : (p.y ++ [false]).getD k false = true := hk
      rw [getD_app] at hk2
      show (p.x ++ [true]).getD k false = true
      have h3 := hi.waits k hk2
      have hl : k < p.x.length := by
        rcases Nat.lt_or_ge k p.x.length with h9 | h9
        · exact h9
        · rw [getD_len h9] at h3; cases h3
      rw [List.getD, List.getElem?_append_left hl]; exact h3
  · next e =>
    have hlen : (execM p.store o p.store.cells.length).cells.length = p.store.cells.length := by rw [hel, if_neg (fun h9 => e h9.1)]
    obtain ⟨pl1, pl2⟩ := preS_len p o
    refine snapM_I.2 ⟨hv', by rw [hlen, ← hi.xl]; exact pl1, by rw [hlen, ← hi.yl]; exact pl2, fun k hk => ?_, fun k hk => ?_⟩
    · have hk2 : (preS p o).1.getD k false = true := hk
      have hl : k < p.store.cells.length := by
        rcases Nat.lt_or_ge k p.store.cells.length with h9 | h9
        · exact h9
        · rw [getD_len (by rw [pl1, hi.xl]; exact h9)] at hk2; cases hk2
      rw [(preS_get hi o hl).1] at hk2
      refine hold k ?_
      rcases Bool.or_eq_true_iff.1 hk2 with h3 | h3
      · exact hi.met k h3
      · simp only [Bool.and_eq_true, decide_eq_true_eq] at h3
        have := refOf_leads hi.hv o.a o.c
        rw [← h3.2] at this
        obtain ⟨c, hc1, hu⟩ := valid_used this (by omega)
        exact ⟨c, by simpa using hc1, hu⟩
    · have hk2 : (preS p o).2.getD k false = true := hk
      show (preS p o).1.getD k false = true
      have hl : k < p.store.cells.length := by
        rcases Nat.lt_or_ge k p.store.cells.length with h9 | h9
        · exact h9
        · rw [getD_len (by rw [pl2, hi.yl]; exact h9)] at hk2; cases hk2
      obtain ⟨g1, g2⟩ := preS_get hi o hl
      rw [g2] at hk2
      rw [g1]
      rcases Bool.or_eq_true_iff.1 hk2 with h3 | h3
      · rw [hi.waits k h3]; rfl
      · simp only [Bool.and_eq_true] at h3
        rw [Bool.or_eq_true]; right; simp only [Bool.and_eq_true]; exact h3.2
theorem snapDo_get {p : TwoM} (hi : SnapI p) (o : CmdM) {k : Nat} (hk : k < p.store.cells.length) : (snapDo p o).x.getD k false = (p.x.getD k false || (decide (o.op = 3) && decide ((k : Int) = refOf p.store o.a o.c))) ∧ (snapDo p o).y.getD k false = (p.y.getD k false || (!p.x.getD k false && (decide (o.op = 3) && decide ((k : Int) = refOf p.store o.a o.c)))) := by
  unfold snapDo
  split
  · next e =>
    have e3 : decide (o.op = 3) = false := by simp; omega
    rw [e3]
    simp only [Bool.false_and, Bool.or_false, Bool.and_false]
    refine ⟨?_, getD_app⟩
    show (p.x ++ [true]).getD k false = _
    rw [List.getD, List.getElem?_append_left (by rw [hi.xl]; exact hk)]; rfl
  · exact preS_get hi o hk
theorem snapDo_new {p : TwoM} {o : CmdM} (hi : SnapI p) (e : o.op = 1) : (snapDo p o).x.getD p.store.cells.length false = true := by
  unfold snapDo
  rw [if_pos e]
  show (p.x ++ [true]).getD p.store.cells.length false = true
  rw [← hi.xl, List.getD]; simp
theorem snapDo_len {p : TwoM} {o : CmdM} (h : snapM p = true) (ho : cmdOk o = true) (hc : canM p.store o = true) : (snapDo p o).x.length = (execM p.store o p.store.cells.length).cells.length := by
  have := (snapM_I.1 (snapM_do h ho hc)).xl
  rw [snapDo_store] at this; exact this
theorem marks_reach {h : HeapM} (hv : validM h = true) {marks : List Bool} (hl : marks.length = h.cells.length) (ho : outB h marks = false) {k : Nat} (hk : rch h k) : marks.getD k false = true := by
  unfold outB at ho
  rw [Bool.or_eq_false_iff, List.any_eq_false, List.any_eq_false] at ho
  have key : ∀ r : Int, leadsM h.cells r = true → 0 ≤ r → ¬ outRef h marks r = true → marks.getD r.toNat false = true := by
    intro r hr h0 hn
    obtain ⟨c, hc, hu⟩ := valid_used hr h0
    rcases bool_ft (marks.getD r.toNat false) with e | e
    · exact absurd (by unfold outRef; rw [usedN_at hc, hu, e]; simp [h0]) hn
    · exact e
  induction hk with
  | start hr ho2 => exact key _ ((validM_leads hv).2 _ hr) (by simpa [nonneg] using ho2) (ho.1 _ hr)
  | @next j r hj hr ho2 ih =>
    have h1 := ho.2 j (by simp; exact rch_lt hv hj)
    unfold outAt at h1
    rw [ih, Bool.true_and, Bool.not_eq_true, List.any_eq_false] at h1
    exact key _ (refsAt_leads hv _ _ hr) (by simpa [nonneg] using ho2) (h1 _ hr)
def goodN (h : HeapM) (k : Nat) : Prop := rch h k ∨ h.cells.length ≤ k
def goodR (h : HeapM) (r : Int) : Prop := 0 ≤ r → goodN h r.toNat
structure Snp (h : HeapM) (p : TwoM) : Prop where
  ok : snapM p = true
  len : h.cells.length ≤ p.store.cells.length
  sound : ∀ k, k < h.cells.length → p.x.getD k false = true → rch h k
  waitsOld : ∀ k, p.y.getD k false = true → k < h.cells.length
  new : ∀ k, h.cells.length ≤ k → k < p.store.cells.length → p.x.getD k false = true
  roots0 : ∀ r ∈ h.roots, 0 ≤ r → p.x.getD r.toNat false = true
  snap : ∀ k, k < h.cells.length → ∀ r ∈ refsAt h k, 0 ≤ r → p.x.getD r.toNat false = true ∨ (r ∈ refsAt p.store k ∧ (p.x.getD k false = true → p.y.getD k false = true))
  goodRoots : ∀ r ∈ p.store.roots, goodR h r
  goodRefs : ∀ k, goodN h k → ∀ r ∈ refsAt p.store k, goodR h r
  used : ∀ (k : Nat) (c : CellM), h.cells[k]? = some c → c.used = true → ∃ c', p.store.cells[k]? = some c' ∧ c'.used = true
theorem snp_start {h : HeapM} (hv : validM h = true) : Snp h (snapStartM h) := by
  obtain ⟨s1, s2, s3, s4⟩ := snapStart_is hv
  have hlt : ∀ r ∈ h.roots, 0 ≤ r → r.toNat < h.cells.length := fun r hr h0 => by have := (validM_lt hv).2 r hr; omega
  refine ⟨snapStart_valid hv, by rw [s1]; exact Nat.le_refl _, fun k hk hm => ?_, fun k hk => ?_, fun k h1 h2 => by rw [s1] at h2; omega, fun r hr h0 => ?_, fun k hk r hr h0 => ?_, fun r hr => ?_, fun k hk r hr => ?_, fun k c hc hu => ⟨c, by rw [s1]; exact hc, hu⟩⟩
  · rw [(s4 k hk).1] at hm
    have hm2 : (k : Int) ∈ h.roots := by simpa using hm
    have := Rch.start (rf := refsAt h) (ok := nonneg) hm2 (by simp [nonneg])
    simpa using this
  · rcases Nat.lt_or_ge k h.cells.length with hl | hl
    · exact hl
    · rw [getD_len (by omega)] at hk; cases hk
  · rw [(s4 _ (hlt r hr h0)).1]
    simp [Int.toNat_of_nonneg h0, hr]
  · rw [s1, (s4 k hk).1, (s4 k hk).2]
    exact .inr ⟨hr, fun h9 => h9⟩
  · rw [s1] at hr
    intro h0
    exact .inl (.start hr (by simp [nonneg, h0]))
  · rw [s1] at hr
    intro h0
    rcases hk with hk | hk
    · exact .inl (.next hk hr (by simp [nonneg, h0]))
    · unfold refsAt at hr
      rw [List.getElem?_eq_none hk] at hr
      simp at hr
theorem Snp.step {h : HeapM} {p : TwoM} (s : Snp h p) : Snp h (stepS p).1 := by
  have hi := snapM_I.1 s.ok
  rcases stepS_get s.ok with e | ⟨k0, hw, hk0, hg⟩
  · rw [stepS_no e]; exact s
  · obtain ⟨t1, t2, t3⟩ := stepS_store p
    have hk0n := s.waitsOld k0 hw
    have hk0m := hi.waits k0 hw
    have hgood := s.goodRefs k0 (.inl (s.sound k0 hk0n hk0m))
    have mono : ∀ j, p.x.getD j false = true → (stepS p).1.x.getD j false = true := fun j hj => by
      have hjl : j < p.store.cells.length := by
        rcases Nat.lt_or_ge j p.store.cells.length with h9 | h9
        · exact h9
        · rw [getD_len (by rw [hi.xl]; exact h9)] at hj; cases hj
      rw [(hg j hjl).1, hj]; rfl
    have inX : ∀ j, (stepS p).1.x.getD j false = true → j < p.store.cells.length := fun j hj => by
      rcases Nat.lt_or_ge j p.store.cells.length with h9 | h9
      · exact h9
      · rw [getD_len (by rw [t2, hi.xl]; exact h9)] at hj; cases hj
    refine ⟨snapM_step s.ok, by rw [t1]; exact s.len, fun j hj hm => ?_, fun j hj => ?_, fun j h1 h2 => mono j (s.new j h1 (by rw [t1] at h2; exact h2)), fun r hr h0 => mono _ (s.roots0 r hr h0), fun j hj r hr h0 => ?_, by rw [t1]; exact s.goodRoots, by rw [t1]; exact s.goodRefs, by rw [t1]; exact s.used⟩
    · have hjl := inX j hm
      rw [(hg j hjl).1] at hm
      rcases Bool.or_eq_true_iff.1 hm with h3 | h3
      · exact s.sound j hj h3
      · have h4 : (j : Int) ∈ refsAt p.store k0 := by simpa using h3
        rcases hgood _ h4 (by omega) with h5 | h5
        · simpa using h5
        · simp at h5; omega
    · have hjl : j < p.store.cells.length := by
        rcases Nat.lt_or_ge j p.store.cells.length with h9 | h9
        · exact h9
        · rw [getD_len (by rw [t3, hi.yl]; exact h9)] at hj; cases hj
      rw [(hg j hjl).2] at hj
      rcases Bool.or_eq_true_iff.1 hj with h3 | h3
      · exact s.waitsOld j (Bool.and_eq_true_iff.1 h3).1
      · rcases Nat.lt_or_ge j h.cells.length with h9 | h9
        · exact h9
        · rw [s.new j h9 hjl] at h3; simp at h3
    · rcases s.snap j hj r hr h0 with h3 | ⟨h3, h4⟩
      · exact .inl (mono _ h3)
      · by_cases ej : j = k0
        · subst ej
          left
          have hrl : r.toNat < p.store.cells.length := by have := leadsM_lt (refsAt_leads hi.hv j r h3); omega
          rw [(hg _ hrl).1, Int.toNat_of_nonneg h0]
          simp [h3]
        · right
          rw [t1]
          refine ⟨h3, fun hx => ?_⟩
          have hjl := inX j hx
          obtain ⟨g1, g2⟩ := hg j hjl
          rw [g1] at hx
          rw [g2]
          rcases bool_ft (p.x.getD j false) with e | e
          · rw [e] at hx ⊢
            simp only [Bool.false_or] at hx
            rw [hx]; simp
          · rw [h4 e]; simp [ej]
theorem Snp.steps {h : HeapM} {p : TwoM} (s : Snp h p) : ∀ n, Snp h (stepsS n p)
  | 0 => s
  | n + 1 => by
    have s2 := Snp.steps s n
    show Snp h (snapStepM (stepsS n p)).1
    unfold snapStepM
    rw [if_pos s2.ok]
    exact s2.step
theorem Snp.ends {h : HeapM} {p : TwoM} (s : Snp h p) : Snp h (endS p) := by
  have hi := snapM_I.1 s.ok
  exact endS_keeps (P := fun q => Snp h q) (fun _ hq => hq.step) (by rw [hi.xl, hi.yl]) s
theorem Snp.cmd {h : HeapM} {p : TwoM} (hv : validM h = true) (s : Snp h p) {o : CmdM} (ho : cmdOk o = true) : Snp h (snapCmdM p o).1 := by
  have hi := snapM_I.1 s.ok
  rcases bool_ft (canM p.store o) with hc | hc
  · have e : (snapCmdM p o).1 = p := by unfold snapCmdM; rw [s.ok, ho, hc]; rfl
    rw [e]; exact s
  · have e : (snapCmdM p o).1 = snapDo p o := by unfold snapCmdM; rw [s.ok, ho, hc]; rfl
    rw [e]
    obtain ⟨hp, hroom⟩ := canM_parts hi.hv hc
    have hst := snapDo_store p o
    have hel := exec_len p.store o p.store.cells.length
    have hle : p.store.cells.length ≤ (execM p.store o p.store.cells.length).cells.length := by rw [hel]; split <;> omega
    have hsl := snapDo_len s.ok ho hc
    have hI2 := snapM_I.1 (snapM_do s.ok ho hc)
    have mono : ∀ j, p.x.getD j false = true → (snapDo p o).x.getD j false = true := fun j hj => by
      have hjl : j < p.store.cells.length := by
        rcases Nat.lt_or_ge j p.store.cells.length with h9 | h9
        · exact h9
        · rw [getD_len (by rw [hi.xl]; exact h9)] at hj; cases hj
      rw [(snapDo_get hi o hjl).1, hj]; rfl
    have monoY : ∀ j, p.y.getD j false = true → (snapDo p o).y.getD j false = true := fun j hj => by
      have hjl : j < p.store.cells.length := by
        rcases Nat.lt_or_ge j p.store.cells.length with h9 | h9
        · exact h9
        · rw [getD_len (by rw [hi.yl]; exact h9)] at hj; cases hj
      rw [(snapDo_get hi o hjl).2, hj]; rfl
    have rootGood : ∀ a : Int, goodR h (rootAt p.store a) := fun a => by
      unfold rootAt
      cases e9 : p.store.roots[a.toNat]? with
      | none => intro h9; exact absurd (show (0 : Int) ≤ -1 from h9) (by decide)
      | some x => exact s.goodRoots x (List.mem_of_getElem? e9)
    have refGood : ∀ a c : Int, placeOk p.store a c = true → goodR h (refOf p.store a c) := fun a c hpl => by
      unfold placeOk at hpl
      simp only [Bool.and_eq_true, decide_eq_true_eq] at hpl
      unfold refOf
      cases e9 : (refsAt p.store (rootAt p.store a).toNat)[c.toNat]? with
      | none => intro h9; exact absurd (show (0 : Int) ≤ -1 from h9) (by decide)
      | some x => exact s.goodRefs _ (rootGood a hpl.1) x (List.mem_of_getElem? e9)
    have pl3 : o.op = 3 → placeOk p.store o.a o.c = true := fun e3 => by unfold possO at hp; simpa [e3] using hp
    have pl2 : o.op = 2 → placeOk p.store o.b o.c = true := fun e2 => by unfold possO at hp; simpa [e2] using hp
    refine ⟨snapM_do s.ok ho hc, by rw [hst]; exact Nat.le_trans s.len hle, fun j hj hm => ?_, fun j hj => ?_, fun j h1 h2 => ?_, fun r hr h0 => mono _ (s.roots0 r hr h0), fun j hj r hr h0 => ?_, fun r hr => ?_, fun j hj r hr => ?_, fun k c hc1 hu => ?_⟩
    · have hjl : j < p.store.cells.length := Nat.lt_of_lt_of_le hj s.len
      rw [(snapDo_get hi o hjl).1] at hm
      rcases Bool.or_eq_true_iff.1 hm with h3 | h3
      · exact s.sound j hj h3
      · simp only [Bool.and_eq_true, decide_eq_true_eq] at h3
        have h5 := refGood o.a o.c (pl3 h3.1)
        rw [← h3.2] at h5
        rcases h5 (by omega) with h6 | h6
        · simpa using h6
        · simp at h6; omega
    · rcases Nat.lt_or_ge j p.store.cells.length with hjl | hjl
      · rw [(snapDo_get hi o hjl).2] at hj
        rcases Bool.or_eq_true_iff.1 hj with h3 | h3
        · exact s.waitsOld j h3
        · rcases Nat.lt_or_ge j h.cells.length with h9 | h9
          · exact h9
          · rw [s.new j h9 hjl] at h3; simp at h3
      · exfalso
        unfold snapDo at hj
        split at hj
        · have hj2 : (p.y ++ [false]).getD j false = true := hj
          rw [getD_app, getD_len (by rw [hi.yl]; exact hjl)] at hj2; cases hj2
        · have hj2 : (preS p o).2.getD j false = true := hj
          rw [getD_len (by rw [(preS_len p o).2, hi.yl]; exact hjl)] at hj2; cases hj2
    · rw [hst, hel] at h2
      rcases Nat.lt_or_ge j p.store.cells.length with hjl | hjl
      · exact mono j (s.new j h1 hjl)
      · split at h2
        · next e1 => rw [show j = p.store.cells.length by omega]; exact snapDo_new hi e1.1
        · omega
    · rcases s.snap j hj r hr h0 with h3 | ⟨h3, h4⟩
      · exact .inl (mono _ h3)
      · have hjl : j < p.store.cells.length := Nat.lt_of_lt_of_le hj s.len
        have hY : (snapDo p o).x.getD j false = true → (snapDo p o).y.getD j false = true := fun hx => by
          obtain ⟨g1, g2⟩ := snapDo_get hi o hjl
          rw [g1] at hx
          rw [g2]
          rcases bool_ft (p.x.getD j false) with e | e
          · rw [e] at hx ⊢; simp only [Bool.false_or] at hx; rw [hx]; simp
          · rw [h4 e]; rfl
        have hc1 := List.getElem?_eq_getElem (l := p.store.cells) (i := j) hjl
        rw [hst]
        by_cases e3 : o.op = 3
        · by_cases ej : j = (rootAt p.store o.a).toNat
          · rw [refsAt_of hc1] at h3
            obtain ⟨i, hir⟩ := List.getElem?_of_mem h3
            by_cases ei : i = o.c.toNat
            · left
              have er : refOf p.store o.a o.c = r := by
                unfold refOf; rw [← ej, refsAt_of hc1, ← ei, hir]
              have hrl : r.toNat < p.store.cells.length := by have := leadsM_lt ((validM_leads hi.hv).1 _ (List.mem_of_getElem? hc1) r h3); omega
              rw [(snapDo_get hi o hrl).1, er]
              simp [e3, Int.toNat_of_nonneg h0]
            · right
              refine ⟨?_, hY⟩
              have hx := setRef_at (j := o.c.toNat) (r := rootAt p.store o.b) (k := (rootAt p.store o.a).toNat) hc1
              rw [if_pos ej] at hx
              have he : (execM p.store o p.store.cells.length).cells = setRef p.store.cells (rootAt p.store o.a).toNat o.c.toNat (rootAt p.store o.b) := by
                unfold execM; rw [if_neg (by omega), if_neg (by omega), if_pos e3]
              rw [refsAt_of (by rw [he]; exact hx)]
              refine List.mem_of_getElem? (i := i) ?_
              rw [List.getElem?_set_ne (by omega)]; exact hir
          · right
            refine ⟨?_, hY⟩
            have hx := setRef_at (j := o.c.toNat) (r := rootAt p.store o.b) (k := (rootAt p.store o.a).toNat) hc1
            rw [if_neg ej] at hx
            have he : (execM p.store o p.store.cells.length).cells = setRef p.store.cells (rootAt p.store o.a).toNat o.c.toNat (rootAt p.store o.b) := by
              unfold execM; rw [if_neg (by omega), if_neg (by omega), if_pos e3]
            rw [refsAt_of (by rw [he]; exact hx)]
            rw [refsAt_of hc1] at h3; exact h3
        · right
          refine ⟨?_, hY⟩
          rw [refsAt_of hc1] at h3
          unfold execM
          rw [if_neg e3]
          split
          · rw [refsAt_of (put_old hc1 (by omega))]; exact h3
          · split
            · simp only [refsAt, hc1]; exact h3
            · split
              · simp only [refsAt, hc1]; exact h3
              · split
                · simp only [refsAt, hc1]; exact h3
                · have hx := setData_at (d := o.b) (k := (rootAt p.store o.a).toNat) hc1
                  rw [refsAt_of hx]
                  split <;> exact h3
    · rw [hst] at hr
      unfold execM at hr
      split at hr
      · have hr2 : r ∈ p.store.roots.set o.a.toNat ((p.store.cells.length : Nat) : Int) := hr
        rcases List.mem_or_eq_of_mem_set hr2 with h3 | rfl
        · exact s.goodRoots r h3
        · intro _; right; have := s.len; simp; exact this
      · split at hr
        · next e2 =>
          have hr2 : r ∈ p.store.roots.set o.a.toNat (refOf p.store o.b o.c) := hr
          rcases List.mem_or_eq_of_mem_set hr2 with h3 | rfl
          · exact s.goodRoots r h3
          · exact refGood _ _ (pl2 e2)
        · split at hr
          · exact s.goodRoots r hr
          · split at hr
            · have hr2 : r ∈ p.store.roots.set o.a.toNat (rootAt p.store o.b) := hr
              rcases List.mem_or_eq_of_mem_set hr2 with h3 | rfl
              · exact s.goodRoots r h3
              · exact rootGood _
            · split at hr
              · have hr2 : r ∈ p.store.roots.set o.a.toNat (-1) := hr
                rcases List.mem_or_eq_of_mem_set hr2 with h3 | rfl
                · exact s.goodRoots r h3
                · intro h9; omega
              · exact s.goodRoots r hr
    · rw [hst] at hr
      unfold refsAt at hr
      cases e9 : (execM p.store o p.store.cells.length).cells[j]? with
      | none => rw [e9] at hr; simp at hr
      | some c' =>
        rw [e9] at hr
        rcases exec_cells (Nat.le_refl _) e9 with ⟨-, -, rfl⟩ | ⟨c, hc1, -, -, h2⟩
        · have hr2 : r ∈ List.replicate o.b.toNat (-1 : Int) := hr
          have := List.eq_of_mem_replicate hr2
          intro h9; omega
        · rcases h2 r hr with h3 | ⟨-, rfl⟩
          · exact s.goodRefs j hj r (by rw [refsAt_of hc1]; exact h3)
          · exact rootGood _
    · obtain ⟨c', hc', hu'⟩ := s.used k c hc1 hu
      rw [hst]
      exact exec_used ho hc' hu' (freeTo_len _)
theorem Snp.done {h : HeapM} {p : TwoM} (hv : validM h = true) (s : Snp h p) (hd : (stepS p).2 = false) : (∀ k, k < h.cells.length → (p.x.getD k false = true ↔ rch h k)) ∧ outB p.store p.x = false := by
  have hi := snapM_I.1 s.ok
  rw [stepS_waits] at hd
  have hny : ∀ k, p.y.getD k false = false := fun k => by
    rcases bool_ft (p.y.getD k false) with e | e
    · exact e
    · exfalso
      unfold waitB at hd
      rw [List.any_eq_false] at hd
      cases e9 : p.y[k]? with
      | none => rw [List.getD, e9] at e; cases e
      | some b =>
        rw [getD_of e9] at e
        exact hd b (List.mem_of_getElem? e9) (by simpa using e)
  have hmet : ∀ k, rch h k → p.x.getD k false = true := by
    intro k hk
    induction hk with
    | @start r hr ho => exact s.roots0 r hr (by simpa [nonneg] using ho)
    | @next j r hj hr ho ih =>
      rcases s.snap j (rch_lt hv hj) r hr (by simpa [nonneg] using ho) with h3 | ⟨-, h4⟩
      · exact h3
      · have := h4 ih; rw [hny j] at this; cases this
  have hgood : ∀ r : Int, leadsM p.store.cells r = true → goodR h r → ¬ outRef p.store p.x r = true := by
    intro r hr hg ho
    unfold outRef at ho
    simp only [Bool.and_eq_true, decide_eq_true_eq, Bool.not_eq_true'] at ho
    obtain ⟨h0, -, hn⟩ := ho
    rcases hg h0 with h3 | h3
    · rw [hmet _ h3] at hn; cases hn
    · rw [s.new _ h3 (by have := leadsM_lt hr; omega)] at hn; cases hn
  refine ⟨fun k hk => ⟨s.sound k hk, hmet k⟩, ?_⟩
  unfold outB
  rw [Bool.or_eq_false_iff, List.any_eq_false, List.any_eq_false]
  refine ⟨fun r hr => hgood r ((validM_leads hi.hv).2 r hr) (s.goodRoots r hr), fun k hk ho => ?_⟩
  unfold outAt at ho
  simp only [Bool.and_eq_true] at ho
  obtain ⟨r, hr, h2⟩ := List.any_eq_true.1 ho.2
  refine hgood r (refsAt_leads hi.hv k r hr) (s.goodRefs k ?_ r hr) h2
  rcases Nat.lt_or_ge k h.cells.length with h9 | h9
  · exact .inl (s.sound k h9 ho.1)
  · exact .inr h9
theorem snapCmd_store {p : TwoM} {o : CmdM} (h : snapM p = true) (ho : cmdOk o = true) : (snapCmdM p o).1.store = (stepM p.store o).1 := by
  have hi := snapM_I.1 h
  rcases bool_ft (canM p.store o) with hc | hc
  · have e : (snapCmdM p o).1 = p := by unfold snapCmdM; rw [h, ho, hc]; rfl
    rw [e, canM_no hi.hv ho hc]
  · have e : (snapCmdM p o).1 = snapDo p o := by unfold snapCmdM; rw [h, ho, hc]; rfl
    rw [e, snapDo_store, canM_step hi.hv ho hc]
theorem stepsS_store {p : TwoM} (h : snapM p = true) : ∀ n, (stepsS n p).store = p.store ∧ snapM (stepsS n p) = true
  | 0 => ⟨rfl, h⟩
  | n + 1 => by
    obtain ⟨h1, h2⟩ := stepsS_store h n
    show (snapStepM (stepsS n p)).1.store = _ ∧ snapM (snapStepM (stepsS n p)).1 = true
    unfold snapStepM
    rw [if_pos h2]
    exact ⟨(stepS_store _).1.trans h1, snapM_step h2⟩
theorem runS_snp {h : HeapM} (hv : validM h = true) (n : Nat) : ∀ (l : List CmdM) (p : TwoM) (g : HeapM), (∀ o ∈ l, cmdOk o = true) → Snp h p → p.store = g → Snp h (runS n p l) ∧ (runS n p l).store = runFrom g l := by
  intro l
  induction l with
  | nil => intro p g _ s e; exact ⟨s, e⟩
  | cons o l ih =>
    intro p g hok s e
    have ho := hok o (by simp)
    have s2 := s.steps n
    obtain ⟨t1, t2⟩ := stepsS_store s.ok n
    show Snp h (runS n (snapCmdM (stepsS n p) o).1 l) ∧ (runS n (snapCmdM (stepsS n p) o).1 l).store = runFrom (stepM g o).1 l
    exact ih _ _ (fun x hx => hok x (by simp [hx])) (s2.cmd hv ho) (by rw [snapCmd_store t2 ho, t1, e])
theorem snapFin_snp {h : HeapM} {p : TwoM} (hv : validM h = true) (s : Snp h p) : snapFinM p = (dropM p.store (nots (endS p).x), (freedN p.store.cells (nots (endS p).x) : Int)) ∧ outB p.store (endS p).x = false ∧ (endS p).x.length = p.store.cells.length ∧ ∀ k, k < h.cells.length → ((endS p).x.getD k false = true ↔ rch h k) := by
  have hi := snapM_I.1 s.ok
  have se := s.ends
  have he := snapM_I.1 se.ok
  have hyx : p.y.length = p.x.length := by rw [hi.xl, hi.yl]
  obtain ⟨s1, s2⟩ := endS_store hyx
  obtain ⟨d1, d2⟩ := se.done hv (endS_final hyx)
  rw [s1] at d2
  have hl : (endS p).x.length = p.store.cells.length := by rw [he.xl, s1]
  unfold snapFinM
  rw [if_pos s.ok, s1, sweep_yes hi.hv hl d2]
  exact ⟨rfl, d2, hl, d1⟩
theorem law_RunSnap {h : HeapM} {l : List CmdM} {n : Int} (hb : (validM h && cmdsOk l && inB 0 n 5) = true) : sameViewM (runSnapM h l n) (runFrom h l) = true ∧ (runSnapM h l n).cells.length = (runFrom h l).cells.length ∧ (∀ k, k < h.cells.length → ∃ c, (runSnapM h l n).cells[k]? = some c ∧ c.used = (reachM h).getD k false) := by
  have hb' := hb
  simp only [Bool.and_eq_true] at hb'
  obtain ⟨⟨hv, hl⟩, -⟩ := hb'
  obtain ⟨h1, h2⟩ := cmdsOk_iff.1 hl
  have s0 := snp_start hv
  obtain ⟨s, e⟩ := runS_snp hv n.toNat l _ h h2 s0 (snapStart_is hv).1
  obtain ⟨f1, f2, f3, f4⟩ := snapFin_snp hv s
  have hi := snapM_I.1 s.ok
  have e2 : runSnapM h l n = (snapFinM (runS n.toNat (snapStartM h) l)).1 := by unfold runSnapM; rw [if_pos hb]
  rw [e2, f1]
  rw [e] at f2 f3 ⊢
  have hvw : validM (runFrom h l) = true := by rw [← e]; exact hi.hv
  generalize hx : (endS (runS n.toNat (snapStartM h) l)).x = xs at *
  have hdl : (dropM (runFrom h l) (nots xs)).cells.length = (runFrom h l).cells.length := dropCs_len (by rw [nots_len, f3])
  have hv2 : validM (dropM (runFrom h l) (nots xs)) = true := by rw [sweep_out hvw f3, f2]; rfl
  refine ⟨sameView_iff.2 ⟨hv2, hvw, (iso_drop hvw (fun k hk => by rw [nots_getD (by rw [f3]; exact rch_lt hvw hk), marks_reach hvw f3 f2 hk]; rfl) (by rw [nots_len, f3])).symm⟩, hdl, fun k hk => ?_⟩
  have hlen := s.len
  rw [e] at hlen
  have hc := List.getElem?_eq_getElem (l := (runFrom h l).cells) (i := k) (by omega)
  refine ⟨_, dropK_at f3 hc, ?_⟩
  have hi2 := reach_iff hv k
  rcases bool_ft (xs.getD k false) with e9 | e9
  · rw [e9]
    rcases bool_ft ((reachM h).getD k false) with e8 | e8
    · rw [e8]; rfl
    · have := (f4 k hk).2 (hi2.1 e8); rw [e9] at this; cases this
  · rw [e9, if_pos rfl, hi2.2 ((f4 k hk).1 e9)]
    obtain ⟨c0, hc0, hu0⟩ := reach_leads hv ((f4 k hk).1 e9)
    obtain ⟨c', hc', hu'⟩ := s.used k c0 hc0 hu0
    rw [e, hc] at hc'; injection hc' with hc'
    rw [hc']; exact hu'
end Go.Proofs.Yteilaalababfpaa