/- Texts of one family, one behind the other: Iso, View, LawH, LawS, LawP, LawG. -/
import Derived.Test.YtbnokkdhanlhpaaGrData
/- Heaps of which a program sees the same: cells that belong together, and what instructions do to them. -/
namespace Go.Proofs.Ytbnokkdhanlhpaa
set_option linter.unusedVariables false
set_option linter.unusedSimpArgs false
/-- Two lists whose elements belong together. -/
inductive All2 {α β : Type} (R : α → β → Prop) : List α → List β → Prop
  | nil : All2 R [] []
  | cons {a : α} {b : β} {as : List α} {bs : List β} : R a b → All2 R as bs → All2 R (a :: as) (b :: bs)
theorem All2.len {α β : Type} {R : α → β → Prop} {as : List α} {bs : List β} (h : All2 R as bs) : as.length = bs.length := by
  induction h with
  | nil => rfl
  | cons _ _ ih => simp [ih]
theorem All2.at_ {α β : Type} {R : α → β → Prop} {as : List α} {bs : List β} (h : All2 R as bs) : ∀ {i : Nat} {a : α}, as[i]? = some a → ∃ b, bs[i]? = some b ∧ R a b := by
  induction h with
  | nil => intro i a h; simp at h
  | cons hr _ ih =>
    intro i a h
    cases i with
    | zero => simp at h; subst h; exact ⟨_, by simp, hr⟩
    | succ i => obtain ⟨b, hb, hr⟩ := ih (by simpa using h); exact ⟨b, by simpa using hb, hr⟩
theorem All2.of_at {α β : Type} {R : α → β → Prop} : ∀ {as : List α} {bs : List β}, as.length = bs.length → (∀ (i : Nat) (a : α) (b : β), as[i]? = some a → bs[i]? = some b → R a b) → All2 R as bs
  | [], [], _, _ => .nil
  | [], b :: bs, h, _ => by simp at h
  | a :: as, [], h, _ => by simp at h
  | a :: as, b :: bs, h, hr => .cons (hr 0 a b (by simp) (by simp)) (All2.of_at (by simpa using h) fun i x y hx hy => hr (i + 1) x y (by simpa using hx) (by simpa using hy))
theorem All2.imp {α β : Type} {R S : α → β → Prop} {as : List α} {bs : List β} (h : All2 R as bs) (hi : ∀ a b, R a b → S a b) : All2 S as bs := by
  induction h with
  | nil => exact .nil
  | cons hr _ ih => exact .cons (hi _ _ hr) ih
theorem All2.imp_mem {α β : Type} {R S : α → β → Prop} {as : List α} {bs : List β} (h : All2 R as bs) : (∀ a ∈ as, ∀ b ∈ bs, R a b → S a b) → All2 S as bs := by
  induction h with
  | nil => intro _; exact .nil
  | cons hr _ ih => intro hi; exact .cons (hi _ (by simp) _ (by simp) hr) (ih fun a ha b hb => hi a (by simp [ha]) b (by simp [hb]))
theorem All2.flip {α β : Type} {R : α → β → Prop} {as : List α} {bs : List β} (h : All2 R as bs) : All2 (fun b a => R a b) bs as := by
  induction h with
  | nil => exact .nil
  | cons hr _ ih => exact .cons hr ih
theorem All2.comp {α β γ : Type} {R : α → β → Prop} {S : β → γ → Prop} {as : List α} {bs : List β} (h : All2 R as bs) : ∀ {cs : List γ}, All2 S bs cs → All2 (fun a c => ∃ b, R a b ∧ S b c) as cs := by
  induction h with
  | nil => intro cs h; cases h; exact .nil
  | cons hr _ ih => intro cs h; cases h with | cons hs hl => exact .cons ⟨_, hr, hs⟩ (ih hl)
theorem All2.set {α β : Type} {R : α → β → Prop} {as : List α} {bs : List β} (h : All2 R as bs) {a : α} {b : β} (hr : R a b) : ∀ k, All2 R (as.set k a) (bs.set k b) := by
  induction h with
  | nil => intro k; exact .nil
  | cons hr2 hl ih =>
    intro k
    cases k with
    | zero => exact .cons hr hl
    | succ k => exact .cons hr2 (ih k)
theorem All2.append {α β : Type} {R : α → β → Prop} {as : List α} {bs : List β} (h : All2 R as bs) {cs : List α} {ds : List β} (h2 : All2 R cs ds) : All2 R (as ++ cs) (bs ++ ds) := by
  induction h with
  | nil => exact h2
  | cons hr _ ih => exact .cons hr ih
theorem All2.map_eq {α β γ : Type} {R : α → β → Prop} {f : α → γ} {g : β → γ} {as : List α} {bs : List β} (h : All2 R as bs) (hf : ∀ a b, R a b → f a = g b) : as.map f = bs.map g := by
  induction h with
  | nil => rfl
  | cons hr _ ih => simp [hf _ _ hr, ih]
theorem All2.of_map {α β γ : Type} {f : α → γ} {g : β → γ} : ∀ {as : List α} {bs : List β}, as.map f = bs.map g → All2 (fun a b => f a = g b) as bs
  | [], [], _ => .nil
  | [], b :: bs, h => by simp at h
  | a :: as, [], h => by simp at h
  | a :: as, b :: bs, h => by
    simp only [List.map_cons, List.cons.injEq] at h
    exact .cons h.1 (All2.of_map h.2)
theorem All2.self {α : Type} {R : α → α → Prop} {as : List α} (h : ∀ a ∈ as, R a a) : All2 R as as := All2.of_at rfl fun i a b ha hb => by
  rw [ha] at hb; injection hb with hb; subst hb; exact h a (List.mem_of_getElem? ha)
theorem All2.mapR {α β : Type} {R : α → β → Prop} {f : α → β} {as : List α} (h : ∀ a ∈ as, R a (f a)) : All2 R as (as.map f) := All2.of_at (by simp) fun i a b ha hb => by
  rw [List.getElem?_map, ha] at hb; injection hb with hb; subst hb; exact h a (List.mem_of_getElem? ha)

/-- Two references that belong together: none, or cells that belong together. -/
def relR (R : Nat → Nat → Prop) (r r' : Int) : Prop := (r = -1 ∧ r' = -1) ∨ (0 ≤ r ∧ 0 ≤ r' ∧ R r.toNat r'.toNat)
/-- Cells of two heaps belong together, one to one, and so do their references. -/
structure Sim (R : Nat → Nat → Prop) (h h' : HeapM) : Prop where
  fn : ∀ {a b b' : Nat}, R a b → R a b' → b = b'
  inj : ∀ {a a' b : Nat}, R a b → R a' b → a = a'
  cell : ∀ {k k' : Nat}, R k k' → ∃ d rs rs', h.cells[k]? = some ⟨true, d, rs⟩ ∧ h'.cells[k']? = some ⟨true, d, rs'⟩ ∧ All2 (relR R) rs rs'
  roots : All2 (relR R) h.roots h'.roots
/-- A program sees the same of both heaps. -/
def Iso (h h' : HeapM) : Prop := ∃ R, Sim R h h'
theorem relR_flip {R : Nat → Nat → Prop} {r r' : Int} (h : relR R r r') : relR (fun a b => R b a) r' r := by
  rcases h with ⟨h1, h2⟩ | ⟨h1, h2, h3⟩
  · exact .inl ⟨h2, h1⟩
  · exact .inr ⟨h2, h1, h3⟩
theorem relR_comp {R S : Nat → Nat → Prop} {r s t : Int} (h : relR R r s) (h2 : relR S s t) : relR (fun a c => ∃ b, R a b ∧ S b c) r t := by
  rcases h with ⟨h1, h3⟩ | ⟨h1, h3, h4⟩ <;> rcases h2 with ⟨g1, g3⟩ | ⟨g1, g3, g4⟩
  · exact .inl ⟨h1, g3⟩
  · omega
  · omega
  · exact .inr ⟨h1, g3, _, h4, g4⟩
theorem relR_imp {R S : Nat → Nat → Prop} (hi : ∀ a b, R a b → S a b) {r r' : Int} (h : relR R r r') : relR S r r' := by
  rcases h with h | ⟨h1, h2, h3⟩
  · exact .inl h
  · exact .inr ⟨h1, h2, hi _ _ h3⟩
theorem Sim.symm {R : Nat → Nat → Prop} {h h' : HeapM} (s : Sim R h h') : Sim (fun a b => R b a) h' h :=
  ⟨fun a b => s.inj a b, fun a b => s.fn a b, fun r => by
    obtain ⟨d, rs, rs', h1, h2, h3⟩ := s.cell r
    exact ⟨d, rs', rs, h2, h1, h3.flip.imp fun _ _ => relR_flip⟩, s.roots.flip.imp fun _ _ => relR_flip⟩
theorem Iso.symm {h h' : HeapM} (s : Iso h h') : Iso h' h := by obtain ⟨R, s⟩ := s; exact ⟨_, s.symm⟩
theorem Sim.trans {R S : Nat → Nat → Prop} {a b c : HeapM} (s : Sim R a b) (t : Sim S b c) : Sim (fun x z => ∃ y, R x y ∧ S y z) a c := by
  refine ⟨?_, ?_, ?_, ?_⟩
  · rintro x z z' ⟨y, h1, h2⟩ ⟨y', h3, h4⟩
    obtain rfl := s.fn h1 h3
    exact t.fn h2 h4
  · rintro x x' z ⟨y, h1, h2⟩ ⟨y', h3, h4⟩
    obtain rfl := t.inj h2 h4
    exact s.inj h1 h3
  · rintro x z ⟨y, h1, h2⟩
    obtain ⟨d, rs, rs', g1, g2, g3⟩ := s.cell h1
    obtain ⟨d2, qs, qs', f1, f2, f3⟩ := t.cell h2
    rw [g2] at f1
    simp only [Option.some.injEq, CellM.mk.injEq, true_and] at f1
    obtain ⟨rfl, rfl⟩ := f1
    exact ⟨d, rs, qs', g1, f2, (g3.comp f3).imp fun _ _ ⟨_, h, h'⟩ => relR_comp h h'⟩
  · exact (s.roots.comp t.roots).imp fun _ _ ⟨_, h, h'⟩ => relR_comp h h'
theorem Iso.trans {a b c : HeapM} (s : Iso a b) (t : Iso b c) : Iso a c := by
  obtain ⟨R, s⟩ := s; obtain ⟨S, t⟩ := t; exact ⟨_, s.trans t⟩
/-- Heaps whose cells that can be reached are the same. -/
theorem iso_same {h h' : HeapM} (hv : validM h = true) (hr : h'.roots = h.roots) (hc : ∀ (k : Nat) (c : CellM), Rch (refsAt h) nonneg h.roots k → h.cells[k]? = some c → h'.cells[k]? = some c) : Iso h h' := by
  refine ⟨fun a b => a = b ∧ Rch (refsAt h) nonneg h.roots a, ?_, ?_, ?_, ?_⟩
  · rintro a b b' ⟨rfl, -⟩ ⟨rfl, -⟩; rfl
  · rintro a b b' ⟨rfl, -⟩ ⟨rfl, -⟩; rfl
  · rintro k k' ⟨rfl, hk⟩
    obtain ⟨⟨u, d, rs⟩, hc1, hu⟩ := reach_leads hv hk
    have hu' : u = true := hu
    subst hu'
    refine ⟨d, rs, rs, hc1, hc k _ hk hc1, All2.self fun r hm => ?_⟩
    have hm2 : r ∈ refsAt h k := by rw [refsAt_of hc1]; exact hm
    rcases leadsM_iff.1 (refsAt_leads hv k r hm2) with h1 | ⟨h0, -⟩
    · exact .inl ⟨h1, h1⟩
    · exact .inr ⟨h0, h0, rfl, .next hk hm2 (by simp [nonneg, h0])⟩
  · rw [hr]
    refine All2.self fun r hm => ?_
    rcases leadsM_iff.1 ((validM_leads hv).2 r hm) with h1 | ⟨h0, -⟩
    · exact .inl ⟨h1, h1⟩
    · exact .inr ⟨h0, h0, rfl, .start hm (by simp [nonneg, h0])⟩
theorem Iso.refl {h : HeapM} (hv : validM h = true) : Iso h h := iso_same hv rfl fun _ _ _ hc => hc
/-- Cells that cannot be reached may be dropped. -/
theorem iso_drop {h : HeapM} (hv : validM h = true) {dead : List Bool} (hd : ∀ k, Rch (refsAt h) nonneg h.roots k → dead.getD k false = false) (hl : dead.length = h.cells.length) : Iso h (dropM h dead) := by
  refine iso_same hv rfl fun k c hk hc => ?_
  have hkl := (List.getElem?_eq_some_iff.1 hc).1
  have e := drop_at hc (List.getElem?_eq_getElem (l := dead) (i := k) (by omega))
  have e2 := hd k hk
  rw [getD_of (List.getElem?_eq_getElem (l := dead) (i := k) (by omega))] at e2
  rw [e2] at e
  exact e
/-! ### Instructions -/
theorem Sim.root {R : Nat → Nat → Prop} {h h' : HeapM} (s : Sim R h h') (a : Int) : relR R (rootAt h a) (rootAt h' a) := by
  unfold rootAt
  cases e : h.roots[a.toNat]? with
  | none =>
    have : h'.roots[a.toNat]? = none := by rw [List.getElem?_eq_none_iff] at e ⊢; rw [← s.roots.len]; exact e
    rw [this]; exact .inl ⟨rfl, rfl⟩
  | some x =>
    obtain ⟨y, hy, hr⟩ := s.roots.at_ e
    rw [hy]; exact hr
theorem Sim.refs {R : Nat → Nat → Prop} {h h' : HeapM} (s : Sim R h h') {k k' : Nat} (hr : R k k') : All2 (relR R) (refsAt h k) (refsAt h' k') := by
  obtain ⟨d, rs, rs', h1, h2, h3⟩ := s.cell hr
  rw [refsAt_of h1, refsAt_of h2]; exact h3
theorem Sim.place {R : Nat → Nat → Prop} {h h' : HeapM} (s : Sim R h h') (a c : Int) : placeOk h a c = placeOk h' a c := by
  unfold placeOk
  rcases s.root a with ⟨h1, h2⟩ | ⟨h1, h2, h3⟩
  · rw [h1, h2]; simp
  · have := (s.refs h3).len
    simp [h1, h2, this]
theorem Sim.refOf {R : Nat → Nat → Prop} {h h' : HeapM} (s : Sim R h h') {a c : Int} (hp : placeOk h a c = true) : relR R (refOf h a c) (refOf h' a c) := by
  unfold placeOk at hp
  simp only [Bool.and_eq_true, decide_eq_true_eq] at hp
  unfold Proofs.Ytbnokkdhanlhpaa.refOf
  rcases s.root a with ⟨h1, h2⟩ | ⟨h1, h2, h3⟩
  · omega
  · cases e : (refsAt h (rootAt h a).toNat)[c.toNat]? with
    | none =>
      have : (refsAt h' (rootAt h' a).toNat)[c.toNat]? = none := by rw [List.getElem?_eq_none_iff] at e ⊢; rw [← (s.refs h3).len]; exact e
      rw [this]; exact .inl ⟨rfl, rfl⟩
    | some x =>
      obtain ⟨y, hy, hr⟩ := (s.refs h3).at_ e
      rw [hy]; exact hr
theorem Sim.poss {R : Nat → Nat → Prop} {h h' : HeapM} (s : Sim R h h') (o : CmdM) : possO h o = possO h' o := by
  unfold possO
  rw [s.place, s.place]
  have : decide (0 ≤ rootAt h o.a) = decide (0 ≤ rootAt h' o.a) := by
    rcases s.root o.a with ⟨h1, h2⟩ | ⟨h1, h2, h3⟩
    · rw [h1, h2]
    · simp [h1, h2]
  rw [this]
theorem Iso.poss {h h' : HeapM} (s : Iso h h') (o : CmdM) : possO h o = possO h' o := by obtain ⟨R, s⟩ := s; exact s.poss o
theorem put_old {cs : List CellM} {p k : Nat} {x c : CellM} (hc : cs[k]? = some c) (hk : k ≠ p) : (putCell cs p x)[k]? = some c := by
  have hlt := (List.getElem?_eq_some_iff.1 hc).1
  unfold putCell
  split
  · rw [List.getElem?_append_left hlt]; exact hc
  · rw [List.getElem?_set_ne (by omega)]; exact hc
theorem put_new {cs : List CellM} {p : Nat} {x : CellM} (hp : p ≤ cs.length) : (putCell cs p x)[p]? = some x := by
  unfold putCell
  split
  · next e => subst e; simp
  · rw [List.getElem?_set_self (by omega)]
/-- A place for a new cell: none, or one that is not used. -/
def freeTo (h : HeapM) (p : Nat) : Prop := p ≤ h.cells.length ∧ ∀ c, h.cells[p]? = some c → c.used = false
theorem freeTo_len (h : HeapM) : freeTo h h.cells.length := ⟨Nat.le_refl _, fun c hc => by simp at hc⟩
theorem freeTo_at (h : HeapM) : freeTo h (freeAt h.cells) := ⟨freeAt_le _, fun c hc => freeAt_free hc⟩
theorem setRef_at {cs : List CellM} {k j : Nat} {r : Int} {i : Nat} {c : CellM} (hc : cs[i]? = some c) : (setRef cs k j r)[i]? = some (if i = k then ⟨c.used, c.data, c.refs.set j r⟩ else c) := by
  have hlt := (List.getElem?_eq_some_iff.1 hc).1
  unfold setRef
  by_cases e : i = k
  · subst e
    rw [hc, if_pos rfl]
    simp only
    rw [List.getElem?_set_self hlt]
  · rw [if_neg e]
    split
    · rw [List.getElem?_set_ne (by omega)]; exact hc
    · exact hc
theorem setData_at {cs : List CellM} {k : Nat} {d : Int} {i : Nat} {c : CellM} (hc : cs[i]? = some c) : (setData cs k d)[i]? = some (if i = k then ⟨c.used, d, c.refs⟩ else c) := by
  have hlt := (List.getElem?_eq_some_iff.1 hc).1
  unfold setData
  by_cases e : i = k
  · subst e
    rw [hc, if_pos rfl]
    simp only
    rw [List.getElem?_set_self hlt]
  · rw [if_neg e]
    split
    · rw [List.getElem?_set_ne (by omega)]; exact hc
    · exact hc
/-- Cells that belong together after an instruction. -/
def relX (R : Nat → Nat → Prop) (o : CmdM) (p p' : Nat) (k k' : Nat) : Prop := R k k' ∨ (o.op = 1 ∧ k = p ∧ k' = p')
theorem Sim.exec {R : Nat → Nat → Prop} {h h' : HeapM} (s : Sim R h h') {o : CmdM} (ho : cmdOk o = true) (hp : possO h o = true) {p p' : Nat} (hf : freeTo h p) (hf' : freeTo h' p') : Sim (relX R o p p') (execM h o p) (execM h' o p') := by
  have hp' : possO h' o = true := by rw [← s.poss o]; exact hp
  obtain ⟨o1, o2, a1, a2, -⟩ := cmdOk_parts ho
  have hR0 : ∀ {k k'}, R k k' → k ≠ p := fun {k k'} hr e => by
    obtain ⟨d, rs, rs', h1, -⟩ := s.cell hr
    have := hf.2 _ (e ▸ h1); cases this
  have hR1 : ∀ {k k'}, R k k' → k' ≠ p' := fun {k k'} hr e => by
    obtain ⟨d, rs, rs', -, h1, -⟩ := s.cell hr
    have := hf'.2 _ (e ▸ h1); cases this
  have hmono : ∀ {r r'}, relR R r r' → relR (relX R o p p') r r' := fun h => relR_imp (fun _ _ => .inl) h
  refine ⟨?_, ?_, ?_, ?_⟩
  · rintro a b b' (h1 | ⟨e1, h1, h2⟩) (h3 | ⟨-, h3, h4⟩)
    · exact s.fn h1 h3
    · exact absurd h3 (hR0 h1)
    · exact absurd h1 (hR0 h3)
    · rw [h2, h4]
  · rintro a a' b (h1 | ⟨e1, h1, h2⟩) (h3 | ⟨-, h3, h4⟩)
    · exact s.inj h1 h3
    · exact absurd h4 (hR1 h1)
    · exact absurd h2 (hR1 h3)
    · rw [h1, h3]
  · rintro k k' (hr | ⟨e1, rfl, rfl⟩)
    · obtain ⟨d, rs, rs', h1, h2, h3⟩ := s.cell hr
      have h3' : All2 (relR (relX R o p p')) rs rs' := h3.imp fun _ _ h => hmono h
      unfold execM
      by_cases e1 : o.op = 1
      · simp only [e1, if_true]
        exact ⟨d, rs, rs', put_old h1 (hR0 hr), put_old h2 (hR1 hr), h3'⟩
      · by_cases e2 : o.op = 2
        · simp only [e2, if_true]
          exact ⟨d, rs, rs', h1, h2, h3'⟩
        · by_cases e3 : o.op = 3
          · simp only [e3, if_true]
            have hpl : placeOk h o.a o.c = true := by unfold possO at hp; simpa [e3] using hp
            unfold placeOk at hpl
            simp only [Bool.and_eq_true, decide_eq_true_eq] at hpl
            rcases s.root o.a with ⟨g1, -⟩ | ⟨g1, g2, g3⟩
            · omega
            · by_cases ek : k = (rootAt h o.a).toNat
              · have ek' : k' = (rootAt h' o.a).toNat := by rw [ek] at hr; exact s.fn hr g3
                exact ⟨d, rs.set o.c.toNat (rootAt h o.b), rs'.set o.c.toNat (rootAt h' o.b), by simpa [ek] using setRef_at (j := o.c.toNat) (r := rootAt h o.b) (k := (rootAt h o.a).toNat) h1, by simpa [ek'] using setRef_at (j := o.c.toNat) (r := rootAt h' o.b) (k := (rootAt h' o.a).toNat) h2, h3'.set (hmono (s.root o.b)) _⟩
              · have ek' : k' ≠ (rootAt h' o.a).toNat := fun e => ek (s.inj hr (e ▸ g3))
                exact ⟨d, rs, rs', by simpa [ek] using setRef_at (j := o.c.toNat) (r := rootAt h o.b) (k := (rootAt h o.a).toNat) h1, by simpa [ek'] using setRef_at (j := o.c.toNat) (r := rootAt h' o.b) (k := (rootAt h' o.a).toNat) h2, h3'⟩
          · by_cases e4 : o.op = 4
            · simp only [e4, if_true]
              exact ⟨d, rs, rs', h1, h2, h3'⟩
            · by_cases e5 : o.op = 5
              · simp only [e5, if_true]
                exact ⟨d, rs, rs', h1, h2, h3'⟩
              · have e6 : o.op = 6 := by omega
                have hpl : 0 ≤ rootAt h o.a := by unfold possO at hp; simpa [e6] using hp
                rcases s.root o.a with ⟨g1, -⟩ | ⟨g1, g2, g3⟩
                · omega
                · simp only [e1, e2, e3, e4, e5, if_false]
                  by_cases ek : k = (rootAt h o.a).toNat
                  · have ek' : k' = (rootAt h' o.a).toNat := by rw [ek] at hr; exact s.fn hr g3
                    exact ⟨o.b, rs, rs', by simpa [ek] using setData_at (d := o.b) (k := (rootAt h o.a).toNat) h1, by simpa [ek'] using setData_at (d := o.b) (k := (rootAt h' o.a).toNat) h2, h3'⟩
                  · have ek' : k' ≠ (rootAt h' o.a).toNat := fun e => ek (s.inj hr (e ▸ g3))
                    exact ⟨d, rs, rs', by simpa [ek] using setData_at (d := o.b) (k := (rootAt h o.a).toNat) h1, by simpa [ek'] using setData_at (d := o.b) (k := (rootAt h' o.a).toNat) h2, h3'⟩
    · unfold execM
      simp only [e1, if_true]
      exact ⟨o.c, _, _, put_new hf.1, put_new hf'.1, All2.self fun r hm => .inl (by rw [List.eq_of_mem_replicate hm]; exact ⟨rfl, rfl⟩)⟩
  · have hrt : All2 (relR (relX R o p p')) h.roots h'.roots := s.roots.imp fun _ _ h => hmono h
    unfold execM
    by_cases e1 : o.op = 1
    · simp only [e1, if_true]
      exact hrt.set (.inr ⟨by omega, by omega, .inr ⟨e1, by simp, by simp⟩⟩) _
    · by_cases e2 : o.op = 2
      · simp only [e2, if_true]
        have hpl : placeOk h o.b o.c = true := by unfold possO at hp; simpa [e2] using hp
        exact hrt.set (hmono (s.refOf hpl)) _
      · by_cases e3 : o.op = 3
        · simp only [e3, if_true]; exact hrt
        · by_cases e4 : o.op = 4
          · simp only [e4, if_true]
            exact hrt.set (hmono (s.root o.b)) _
          · by_cases e5 : o.op = 5
            · simp only [e5, if_true]
              exact hrt.set (.inl ⟨rfl, rfl⟩) _
            · simp only [e1, e2, e3, e4, e5, if_false]; exact hrt
theorem Iso.exec {h h' : HeapM} (s : Iso h h') {o : CmdM} (ho : cmdOk o = true) (hp : possO h o = true) {p p' : Nat} (hf : freeTo h p) (hf' : freeTo h' p') : Iso (execM h o p) (execM h' o p') := by
  obtain ⟨R, s⟩ := s; exact ⟨_, s.exec ho hp hf hf'⟩
end Go.Proofs.Ytbnokkdhanlhpaa

/- What a program sees of a heap, as a plain function: the same exactly of heaps whose cells belong together. -/
namespace Go.Proofs.Ytbnokkdhanlhpaa
set_option linter.unusedVariables false
set_option linter.unusedSimpArgs false
/-- What is met: sound, listed, and worked off below i. -/
structure OrdC (rf : Nat → List Int) (ok : Int → Bool) (fr : List Int) (i : Nat) (st : (Nat → Bool) × List Int) : Prop where
  sound : ∀ k, st.1 k = true → Rch rf ok fr k
  list : ∀ k, st.1 k = true → ∃ r ∈ st.2, r.toNat = k
  met : ∀ r ∈ st.2, ok r = true ∧ st.1 r.toNat = true
  start : ∀ r ∈ fr, ok r = true → st.1 r.toNat = true
  off : ∀ (j : Nat) (r : Int), j < i → st.2[j]? = some r → ∀ x ∈ rf r.toNat, ok x = true → st.1 x.toNat = true
theorem ordC {rf : Nat → List Int} {ok : Int → Bool} {fr : List Int} : ∀ i, OrdC rf ok fr i (ordIt rf ok fr i)
  | 0 => by
    obtain ⟨ns, h1, h2, h3⟩ := visL_work (ok := ok) fr (fun _ => false, [])
    show OrdC rf ok fr 0 (visL ok (fun _ => false, []) fr)
    refine ⟨fun k hk => ?_, fun k hk => ?_, fun r hr => ?_, fun r hr ho => visL_has fr _ r hr ho, fun j r hj => by omega⟩
    · rcases visL_only fr _ hk with h | ⟨r, hr, ho, rfl⟩
      · cases h
      · exact .start hr ho
    · rcases h3 k hk with h | ⟨r, hr, rfl⟩
      · cases h
      · exact ⟨r, by rw [h1]; simpa using hr, rfl⟩
    · rw [h1] at hr
      have hn : r ∈ ns := by simpa using hr
      exact ⟨(h2 r hn).1, visL_has fr _ r (h2 r hn).2.1 (h2 r hn).1⟩
  | i + 1 => by
    have ih := ordC (rf := rf) (ok := ok) (fr := fr) i
    show OrdC rf ok fr (i + 1) (ordStep rf ok i (ordIt rf ok fr i))
    generalize ordIt rf ok fr i = st at ih
    unfold ordStep
    cases e : st.2[i]? with
    | none =>
      refine ⟨ih.sound, ih.list, ih.met, ih.start, fun j r hj hr => ?_⟩
      have := List.getElem?_eq_none_iff.1 e
      have hr2 : st.2[j]? = some r := hr
      have := (List.getElem?_eq_some_iff.1 hr2).1
      exact ih.off j r (by omega) hr2
    | some x =>
      obtain ⟨ns, h1, h2, h3⟩ := visL_work (ok := ok) (rf x.toNat) st
      have hx := ih.met x (List.mem_of_getElem? e)
      simp only
      refine ⟨fun k hk => ?_, fun k hk => ?_, fun r hr => ?_, fun r hr ho => visL_mono _ _ (ih.start r hr ho), fun j r hj hr y hy ho => ?_⟩
      · rcases visL_only _ _ hk with h | ⟨r, hr, ho, rfl⟩
        · exact ih.sound k h
        · exact .next (ih.sound _ hx.2) hr ho
      · rcases h3 k hk with h | ⟨r, hr, rfl⟩
        · obtain ⟨r, hr, rfl⟩ := ih.list k h
          exact ⟨r, by rw [h1]; simp [hr], rfl⟩
        · exact ⟨r, by rw [h1]; simp [hr], rfl⟩
      · rw [h1] at hr
        rcases List.mem_append.1 hr with hr | hr
        · exact ⟨(ih.met r hr).1, visL_mono _ _ (ih.met r hr).2⟩
        · exact ⟨(h2 r hr).1, visL_has _ _ r (h2 r hr).2.1 (h2 r hr).1⟩
      · rw [h1] at hr
        have hil := (List.getElem?_eq_some_iff.1 e).1
        rw [List.getElem?_append_left (by omega)] at hr
        by_cases hj2 : j = i
        · subst hj2
          rw [e] at hr; injection hr with hr; subst hr
          exact visL_has _ _ y hy ho
        · exact visL_mono _ _ (ih.off j r (by omega) hr y hy ho)
/-- The order lists exactly what can be reached. -/
theorem ord_mem {h : HeapM} (hv : validM h = true) {r : Int} : r ∈ orderM h ↔ 0 ≤ r ∧ Rch (refsAt h) nonneg h.roots r.toNat := by
  have hc := ordC (rf := refsAt h) (ok := nonneg) (fr := h.roots) h.cells.length
  have hlen := (ord_ok hv h.cells.length).le
  unfold orderM
  have key : ∀ k, (ordIt (refsAt h) nonneg h.roots h.cells.length).1 k = true ↔ Rch (refsAt h) nonneg h.roots k := by
    intro k
    refine ⟨hc.sound k, fun hr => ?_⟩
    induction hr with
    | start hr ho => exact hc.start _ hr ho
    | next _ hr ho ih =>
      obtain ⟨x, hx, hxe⟩ := hc.list _ ih
      obtain ⟨j, hj⟩ := List.getElem?_of_mem hx
      have hjl := (List.getElem?_eq_some_iff.1 hj).1
      exact hc.off j x (by omega) hj _ (by rw [hxe]; exact hr) ho
  constructor
  · intro hr
    have := hc.met r hr
    exact ⟨by simpa [nonneg] using this.1, (key _).1 this.2⟩
  · rintro ⟨h0, hr⟩
    obtain ⟨x, hx, hxe⟩ := hc.list _ ((key _).2 hr)
    have h1 : 0 ≤ x := by simpa [nonneg] using (hc.met x hx).1
    obtain rfl : x = r := by omega
    exact hx
theorem ord_root {h : HeapM} (hv : validM h = true) {r : Int} (hr : r ∈ h.roots) : r = -1 ∨ r ∈ orderM h := by
  rcases leadsM_iff.1 ((validM_leads hv).2 r hr) with h1 | ⟨h0, -⟩
  · exact .inl h1
  · exact .inr ((ord_mem hv).2 ⟨h0, .start hr (by simp [nonneg, h0])⟩)
theorem ord_ref {h : HeapM} (hv : validM h = true) {k : Int} (hk : k ∈ orderM h) {r : Int} (hr : r ∈ refsAt h k.toNat) : r = -1 ∨ r ∈ orderM h := by
  rcases leadsM_iff.1 (refsAt_leads hv _ r hr) with h1 | ⟨h0, -⟩
  · exact .inl h1
  · exact .inr ((ord_mem hv).2 ⟨h0, .next ((ord_mem hv).1 hk).2 hr (by simp [nonneg, h0])⟩)
/-! ### Names -/
theorem nameM_nat (order : List Int) (r : Int) : (nameM order r = -1 ∧ r ∉ order) ∨ ∃ k : Nat, nameM order r = (k : Int) ∧ order[k]? = some r := by
  unfold nameM
  cases e : firstB (isR r) order with
  | none =>
    refine .inl ⟨rfl, fun hm => ?_⟩
    have := firstB_none_all e r hm
    simp [isR] at this
  | some k =>
    obtain ⟨x, hx, hp, -⟩ := firstB_at e
    have : x = r := by simpa [isR] using hp
    subst this
    exact .inr ⟨k, rfl, hx⟩
theorem nameM_of {order : List Int} (hnd : order.Pairwise fun a b => a ≠ b) {k : Nat} {r : Int} (hk : order[k]? = some r) : nameM order r = (k : Int) := by
  have hp := List.pairwise_iff_getElem.1 hnd
  refine nameM_some (fun i hi y hy => ?_) hk
  obtain ⟨hkl, rfl⟩ := List.getElem?_eq_some_iff.1 hk
  obtain ⟨hil, rfl⟩ := List.getElem?_eq_some_iff.1 hy
  have := hp i k hil hkl hi
  unfold isR; simpa using this
/-! ### Views -/
def recM (h : HeapM) (order : List Int) (r : Int) : List Int := match h.cells[r.toNat]? with | some c => c.data :: (c.refs.length : Int) :: c.refs.map (nameM order) | none => []
theorem recM_of {h : HeapM} {order : List Int} {r : Int} {c : CellM} (hc : h.cells[r.toNat]? = some c) : recM h order r = c.data :: (c.refs.length : Int) :: c.refs.map (nameM order) := by unfold recM; rw [hc]
def viewFrom (h : HeapM) (order : List Int) : List Int := h.roots.map (nameM order) ++ order.flatMap (recM h order)
def viewM (h : HeapM) : List Int := if validM h then viewFrom h (orderM h) else []
theorem viewM_ok {h : HeapM} (hv : validM h = true) : viewM h = viewFrom h (orderM h) := by unfold viewM; rw [if_pos hv]
def sameViewM (a b : HeapM) : Bool := validM a && (validM b && decide (viewM a = viewM b))
/-! Both orders in step -/
structure Lock (R : Nat → Nat → Prop) (st st' : (Nat → Bool) × List Int) : Prop where
  lst : All2 (fun r r' => 0 ≤ r ∧ 0 ≤ r' ∧ R r.toNat r'.toNat) st.2 st'.2
  met : ∀ k k', R k k' → st.1 k = st'.1 k'
theorem Lock.vis1 {R : Nat → Nat → Prop} {h h' : HeapM} (s : Sim R h h') {st st' : (Nat → Bool) × List Int} (l : Lock R st st') {r r' : Int} (hr : relR R r r') : Lock R (vis1 nonneg st r) (vis1 nonneg st' r') := by
  rcases hr with ⟨rfl, rfl⟩ | ⟨h1, h2, h3⟩
  · rw [vis1_no (.inl (by decide)), vis1_no (.inl (by decide))]; exact l
  · have hm := l.met _ _ h3
    rcases bool_ft (st.1 r.toNat) with hb | hb
    · rw [vis1_yes (by simp [nonneg, h1]) hb, vis1_yes (by simp [nonneg, h2]) (by rw [← hm]; exact hb)]
      refine ⟨l.lst.append (.cons ⟨h1, h2, h3⟩ .nil), fun k k' hk => ?_⟩
      simp only
      by_cases e : k = r.toNat
      · have e' : k' = r'.toNat := by rw [e] at hk; exact s.fn hk h3
        rw [if_pos e, if_pos e']
      · have e' : k' ≠ r'.toNat := fun e' => e (s.inj hk (e' ▸ h3))
        rw [if_neg e, if_neg e']; exact l.met _ _ hk
    · rw [vis1_no (.inr hb), vis1_no (.inr (by rw [← hm]; exact hb))]; exact l
theorem Lock.visL {R : Nat → Nat → Prop} {h h' : HeapM} (s : Sim R h h') {rs rs' : List Int} (hr : All2 (relR R) rs rs') : ∀ {st st' : (Nat → Bool) × List Int}, Lock R st st' → Lock R (visL nonneg st rs) (visL nonneg st' rs') := by
  induction hr with
  | nil => intro st st' l; exact l
  | cons hr _ ih => intro st st' l; exact ih (l.vis1 s hr)
theorem Lock.it {R : Nat → Nat → Prop} {h h' : HeapM} (s : Sim R h h') : ∀ i, Lock R (ordIt (refsAt h) nonneg h.roots i) (ordIt (refsAt h') nonneg h'.roots i)
  | 0 => Lock.visL s s.roots ⟨.nil, fun _ _ _ => rfl⟩
  | i + 1 => by
    have l := Lock.it s i
    show Lock R (ordStep (refsAt h) nonneg i _) (ordStep (refsAt h') nonneg i _)
    unfold ordStep
    cases e : (ordIt (refsAt h) nonneg h.roots i).2[i]? with
    | none =>
      have : (ordIt (refsAt h') nonneg h'.roots i).2[i]? = none := by rw [List.getElem?_eq_none_iff] at e ⊢; rw [← l.lst.len]; exact e
      rw [this]; exact l
    | some x =>
      obtain ⟨y, hy, -, -, hr⟩ := l.lst.at_ e
      rw [hy]; exact Lock.visL s (s.refs hr) l
theorem ord_far {h : HeapM} (hv : validM h = true) {n : Nat} (hn : h.cells.length ≤ n) : (ordIt (refsAt h) nonneg h.roots n).2 = orderM h := by
  have hlen := (ord_ok hv h.cells.length).le
  have := ordIt_stay (rf := refsAt h) (ok := nonneg) (fr := h.roots) (i := h.cells.length) (by omega) (n - h.cells.length)
  rw [show h.cells.length + (n - h.cells.length) = n by omega] at this
  rw [this]; rfl
theorem Sim.order {R : Nat → Nat → Prop} {h h' : HeapM} (s : Sim R h h') (hv : validM h = true) (hv' : validM h' = true) : All2 (fun r r' => 0 ≤ r ∧ 0 ≤ r' ∧ R r.toNat r'.toNat) (orderM h) (orderM h') := by
  have l := (Lock.it s 40).lst
  rwa [ord_far hv (validM_len hv).1, ord_far hv' (validM_len hv').1] at l
theorem Sim.name {R : Nat → Nat → Prop} {h h' : HeapM} (s : Sim R h h') {os os' : List Int} (ho : All2 (fun r r' => 0 ≤ r ∧ 0 ≤ r' ∧ R r.toNat r'.toNat) os os') {r r' : Int} (hr : relR R r r') : nameM os r = nameM os' r' := by
  have : firstB (isR r) os = firstB (isR r') os' := by
    induction ho with
    | nil => rfl
    | @cons a b _ _ hab _ ih =>
      have e : isR r a = isR r' b := by
        unfold isR
        obtain ⟨h1, h2, h3⟩ := hab
        rcases hr with ⟨rfl, rfl⟩ | ⟨g1, g2, g3⟩
        · rw [Bool.eq_iff_iff]; simp only [beq_iff_eq]; omega
        · rw [Bool.eq_iff_iff]; simp only [beq_iff_eq]
          constructor
          · rintro rfl; have := s.fn h3 g3; omega
          · rintro rfl; have := s.inj h3 g3; omega
      simp only [firstB, e, ih]
  unfold nameM; rw [this]
theorem Sim.view {R : Nat → Nat → Prop} {h h' : HeapM} (s : Sim R h h') (hv : validM h = true) (hv' : validM h' = true) : viewM h = viewM h' := by
  have ho := s.order hv hv'
  rw [viewM_ok hv, viewM_ok hv']
  unfold viewFrom
  have hn : ∀ r r', relR R r r' → nameM (orderM h) r = nameM (orderM h') r' := fun r r' hr => s.name ho hr
  generalize orderM h = os at *
  generalize orderM h' = os' at *
  rw [s.roots.map_eq hn]
  congr 1
  have : ∀ {l l' : List Int}, All2 (fun r r' => 0 ≤ r ∧ 0 ≤ r' ∧ R r.toNat r'.toNat) l l' → l.flatMap (recM h os) = l'.flatMap (recM h' os') := by
    intro l l' hl
    induction hl with
    | nil => rfl
    | cons hab _ ih =>
      obtain ⟨h1, h2, h3⟩ := hab
      obtain ⟨d, rs, rs', g1, g2, g3⟩ := s.cell h3
      simp only [List.flatMap_cons, ih, recM_of g1, recM_of g2, g3.map_eq hn, g3.len]
  exact this ho
theorem rec_inj {n : Nat} {a b : List Int} {d e : Int} {ns ms : List Int} {m : Nat} (hn : ns.length = n) (hm : ms.length = m) (h : (d :: (n : Int) :: ns) ++ a = (e :: (m : Int) :: ms) ++ b) : d = e ∧ ns = ms ∧ a = b := by
  simp only [List.cons_append, List.cons.injEq] at h
  obtain ⟨h1, h2, h3⟩ := h
  have h4 : n = m := by omega
  obtain ⟨h5, h6⟩ := List.append_inj h3 (by omega)
  exact ⟨h1, h5, h6⟩
theorem recs_inj {h h' : HeapM} {os os' : List Int} : ∀ {l l' : List Int}, (∀ r ∈ l, ∃ c, h.cells[r.toNat]? = some c) → (∀ r ∈ l', ∃ c, h'.cells[r.toNat]? = some c) → l.flatMap (recM h os) = l'.flatMap (recM h' os') → All2 (fun r r' => recM h os r = recM h' os' r') l l'
  | [], [], _, _, _ => .nil
  | [], r :: l, _, h2, e => by
    obtain ⟨c, hc⟩ := h2 r (by simp)
    rw [List.flatMap_nil, List.flatMap_cons, recM_of hc] at e; simp at e
  | r :: l, [], h1, _, e => by
    obtain ⟨c, hc⟩ := h1 r (by simp)
    rw [List.flatMap_nil, List.flatMap_cons, recM_of hc] at e; simp at e
  | r :: l, r' :: l', h1, h2, e => by
    obtain ⟨c, hc⟩ := h1 r (by simp)
    obtain ⟨c', hc'⟩ := h2 r' (by simp)
    rw [List.flatMap_cons, List.flatMap_cons, recM_of hc, recM_of hc'] at e
    obtain ⟨e1, e2, e3⟩ := rec_inj (by simp) (by simp) e
    refine .cons ?_ (recs_inj (fun x hx => h1 x (by simp [hx])) (fun x hx => h2 x (by simp [hx])) e3)
    rw [recM_of hc, recM_of hc', e1, e2]
    have := congrArg List.length e2
    simp only [List.length_map] at this
    rw [this]
/-- Equal views: cells belong together. -/
theorem iso_view {h h' : HeapM} (hv : validM h = true) (hv' : validM h' = true) (e : viewM h = viewM h') : Iso h h' := by
  rw [viewM_ok hv, viewM_ok hv'] at e
  unfold viewFrom at e
  obtain ⟨e1, e2⟩ := List.append_inj e (by simp [(validM_len hv).2, (validM_len hv').2])
  have hcell : ∀ {h : HeapM}, validM h = true → ∀ r ∈ orderM h, ∃ c, h.cells[r.toNat]? = some c := fun hv r hr => by
    obtain ⟨c, hc, -⟩ := reach_leads hv ((ord_mem hv).1 hr).2; exact ⟨c, hc⟩
  have e3 := recs_inj (hcell hv) (hcell hv') e2
  have nd := (order_ok hv).nd
  have nd' := (order_ok hv').nd
  have hpos : ∀ {h : HeapM}, validM h = true → ∀ {i : Nat} {r : Int}, (orderM h)[i]? = some r → ((r.toNat : Nat) : Int) = r := fun {g} hg {i r} hr => by
    have := ((ord_mem hg).1 (List.mem_of_getElem? hr)).1; omega
  have hrel : ∀ r r' : Int, (r = -1 ∨ r ∈ orderM h) → (r' = -1 ∨ r' ∈ orderM h') → nameM (orderM h) r = nameM (orderM h') r' → relR (fun k k' => ∃ i : Nat, (orderM h)[i]? = some (k : Int) ∧ (orderM h')[i]? = some (k' : Int)) r r' := by
    intro r r' h1 h2 hn
    have hm1 : ∀ {g : HeapM}, validM g = true → (-1 : Int) ∉ orderM g := fun {g} hg hm => by have := ((ord_mem hg).1 hm).1; omega
    rcases nameM_nat (orderM h) r with ⟨g1, g2⟩ | ⟨k, g1, g2⟩ <;> rcases nameM_nat (orderM h') r' with ⟨f1, f2⟩ | ⟨k', f1, f2⟩
    · exact .inl ⟨h1.resolve_right g2, h2.resolve_right f2⟩
    · omega
    · omega
    · have hk : k = k' := by omega
      subst hk
      have p1 := hpos hv g2
      have p2 := hpos hv' f2
      exact .inr ⟨by omega, by omega, k, by rw [p1]; exact g2, by rw [p2]; exact f2⟩
  refine ⟨fun k k' => ∃ i : Nat, (orderM h)[i]? = some (k : Int) ∧ (orderM h')[i]? = some (k' : Int), ?_, ?_, ?_, ?_⟩
  · rintro a b b' ⟨i, h1, h2⟩ ⟨j, h3, h4⟩
    have hij : i = j := by have := (nameM_of nd h1).symm.trans (nameM_of nd h3); omega
    subst hij
    rw [h2] at h4; injection h4 with h4; omega
  · rintro a a' b ⟨i, h1, h2⟩ ⟨j, h3, h4⟩
    have hij : i = j := by have := (nameM_of nd' h2).symm.trans (nameM_of nd' h4); omega
    subst hij
    rw [h1] at h3; injection h3 with h3; omega
  · rintro k k' ⟨i, h1, h2⟩
    obtain ⟨r', hr', hrec⟩ := e3.at_ h1
    rw [h2] at hr'; injection hr' with hr'; subst hr'
    have m1 := (ord_mem hv).1 (List.mem_of_getElem? h1)
    have m2 := (ord_mem hv').1 (List.mem_of_getElem? h2)
    obtain ⟨⟨u, d, rs⟩, hc, hu⟩ := reach_leads hv m1.2
    obtain ⟨⟨u', d', rs'⟩, hc', hu'⟩ := reach_leads hv' m2.2
    have hu2 : u = true := hu
    have hu2' : u' = true := hu'
    subst hu2 hu2'
    rw [recM_of hc, recM_of hc'] at hrec
    simp only [List.cons.injEq] at hrec
    obtain ⟨rfl, -, hn⟩ := hrec
    simp only [Int.toNat_natCast] at hc hc'
    refine ⟨d, rs, rs', hc, hc', (All2.of_map hn).imp_mem fun a ha b hb hab => hrel a b ?_ ?_ hab⟩
    · exact ord_ref hv (List.mem_of_getElem? h1) (by rw [Int.toNat_natCast, refsAt_of hc]; exact ha)
    · exact ord_ref hv' (List.mem_of_getElem? h2) (by rw [Int.toNat_natCast, refsAt_of hc']; exact hb)
  · exact (All2.of_map e1).imp_mem fun a ha b hb hab => hrel a b (ord_root hv ha) (ord_root hv' hb) hab
theorem view_iff {h h' : HeapM} (hv : validM h = true) (hv' : validM h' = true) : viewM h = viewM h' ↔ Iso h h' := ⟨iso_view hv hv', fun ⟨_, s⟩ => s.view hv hv'⟩
theorem sameView_iff {a b : HeapM} : sameViewM a b = true ↔ validM a = true ∧ validM b = true ∧ Iso a b := by
  unfold sameViewM
  simp only [Bool.and_eq_true, decide_eq_true_eq]
  constructor
  · rintro ⟨h1, h2, h3⟩; exact ⟨h1, h2, (view_iff h1 h2).1 h3⟩
  · rintro ⟨h1, h2, h3⟩; exact ⟨h1, h2, (view_iff h1 h2).2 h3⟩
/-- As many cells can be reached. -/
theorem Iso.live {h h' : HeapM} (s : Iso h h') (hv : validM h = true) (hv' : validM h' = true) : (orderM h).length = (orderM h').length := by
  obtain ⟨R, s⟩ := s; exact (s.order hv hv').len
/-! ### Cells gathered in an order -/
theorem iso_gath {h : HeapM} (hv : validM h = true) {order : List Int} (ho : OrdOk h order) (hr : ∀ k, Rch (refsAt h) nonneg h.roots k → (k : Int) ∈ order) : Iso h (gathM h order) := by
  have hrel : ∀ r : Int, (r = -1 ∨ (0 ≤ r ∧ Rch (refsAt h) nonneg h.roots r.toNat)) → relR (fun k i => order[i]? = some (k : Int) ∧ Rch (refsAt h) nonneg h.roots k) r (nameM order r) := by
    rintro r (rfl | ⟨h0, hk⟩)
    · exact .inl ⟨rfl, nameM_out fun hm => by have := (ho.lt _ hm).1; omega⟩
    · have hm := hr _ hk
      rw [Int.toNat_of_nonneg h0] at hm
      obtain ⟨i, hi⟩ := List.getElem?_of_mem hm
      rw [nameM_of ho.nd hi]
      exact .inr ⟨h0, by omega, by simpa [Int.toNat_of_nonneg h0] using hi, hk⟩
  refine ⟨fun k i => order[i]? = some (k : Int) ∧ Rch (refsAt h) nonneg h.roots k, ?_, ?_, ?_, ?_⟩
  · rintro a b b' ⟨h1, -⟩ ⟨h2, -⟩
    have := (nameM_of ho.nd h1).symm.trans (nameM_of ho.nd h2); omega
  · rintro a a' b ⟨h1, -⟩ ⟨h2, -⟩
    rw [h1] at h2; injection h2 with h2; omega
  · rintro k i ⟨h1, hk⟩
    obtain ⟨⟨u, d, rs⟩, hc, hu⟩ := reach_leads hv hk
    have hu2 : u = true := hu
    subst hu2
    refine ⟨d, rs, rs.map (nameM order), hc, ?_, All2.mapR fun r hm => hrel r ?_⟩
    · show (order.map (movedC h order))[i]? = _
      rw [List.getElem?_map, h1]
      simp only [Option.map_some]
      rw [movedC_of (c := ⟨true, d, rs⟩) (by rw [Int.toNat_natCast]; exact hc)]
    · have hm2 : r ∈ refsAt h k := by rw [refsAt_of hc]; exact hm
      rcases leadsM_iff.1 (refsAt_leads hv k r hm2) with h3 | ⟨h0, -⟩
      · exact .inl h3
      · exact .inr ⟨h0, .next hk hm2 (by simp [nonneg, h0])⟩
  · refine All2.mapR fun r hm => hrel r ?_
    rcases leadsM_iff.1 ((validM_leads hv).2 r hm) with h3 | ⟨h0, -⟩
    · exact .inl h3
    · exact .inr ⟨h0, .start hm (by simp [nonneg, h0])⟩
theorem iso_copy {h : HeapM} (hv : validM h = true) : Iso h (copyHeapM h) := by
  unfold copyHeapM; rw [if_pos hv]
  exact iso_gath hv (order_ok hv) fun k hk => (ord_mem hv).2 ⟨by omega, by simpa using hk⟩
theorem slide_mem {h : HeapM} (hv : validM h = true) {k : Nat} (hk : Rch (refsAt h) nonneg h.roots k) : (k : Int) ∈ slideM h := by
  obtain ⟨c, hc, -⟩ := reach_leads hv hk
  unfold slideM slideN
  simp only [List.mem_map, List.mem_filter, List.mem_range]
  exact ⟨k, ⟨(List.getElem?_eq_some_iff.1 hc).1, (reach_iff hv k).2 hk⟩, rfl⟩
theorem iso_slide {h : HeapM} (hv : validM h = true) : Iso h (slideHeapM h) := by
  unfold slideHeapM; rw [if_pos hv]
  exact iso_gath hv (slide_ok h) fun k hk => slide_mem hv hk
end Go.Proofs.Ytbnokkdhanlhpaa

/- Plain laws: programs on heaps, freeing, moving; what a program sees stays. -/
namespace Go.Proofs.Ytbnokkdhanlhpaa
set_option linter.unusedVariables false
set_option linter.unusedSimpArgs false
theorem stepM_poss {h : HeapM} {o : CmdM} (hv : validM h = true) (ho : cmdOk o = true) (hp : possO h o = true) (hl : o.op = 1 → h.cells.length < 40) : stepM h o = (execM h o h.cells.length, true) := by
  unfold stepM
  rw [hv, ho, hp]
  have : (decide (o.op = 1) && decide (h.cells.length = 40)) = false := by
    by_cases e : o.op = 1
    · have := hl e; simp [e]; omega
    · simp [e]
  rw [this]; rfl
theorem stepM_not {h : HeapM} {o : CmdM} (hv : validM h = true) (ho : cmdOk o = true) (hp : possO h o = false) : stepM h o = (h, false) := by
  unfold stepM; rw [hv, ho, hp]; rfl
theorem stepM_full {h : HeapM} {o : CmdM} (hv : validM h = true) (ho : cmdOk o = true) (h1 : o.op = 1) (hl : h.cells.length = 40) : stepM h o = (h, false) := by
  unfold stepM; rw [hv, ho, poss_new h1]; simp [h1, hl]
theorem stepM_inv {h : HeapM} {o : CmdM} (hb : (validM h && cmdOk o) = false) : stepM h o = (zeroH, false) := by
  unfold stepM; rw [hb]; rfl
theorem stepM_len (h : HeapM) (o : CmdM) : (stepM h o).1.cells.length ≤ h.cells.length + 1 := by
  unfold stepM
  split
  · split
    · simp only [exec_len]; split <;> omega
    · simp only; omega
  · simp [zeroH]
/-- A step beside a step of the reference's: the cells stay together. -/
theorem iso_next {h g h2 : HeapM} {o : CmdM} (s : Iso h g) (hg : validM g = true) (ho : cmdOk o = true) (hl : g.cells.length < 40) (hy : possO h o = true → ∃ p, freeTo h p ∧ h2 = execM h o p) (hn : possO h o = false → h2 = h) : Iso h2 (stepM g o).1 := by
  cases hp : possO h o
  · rw [stepM_not hg ho (by rw [← s.poss]; exact hp), hn hp]; exact s
  · obtain ⟨p, hf, rfl⟩ := hy hp
    rw [stepM_poss hg ho (by rw [← s.poss]; exact hp) (fun _ => hl)]
    exact s.exec ho hp hf (freeTo_len g)
/-- Steps of heaps of which a program sees the same. -/
theorem iso_step {a b : HeapM} {o : CmdM} (s : Iso a b) (ha : validM a = true) (hb : validM b = true) (ho : cmdOk o = true) (hla : a.cells.length < 40) (hlb : b.cells.length < 40) : Iso (stepM a o).1 (stepM b o).1 :=
  iso_next s hb ho hlb (fun hp => ⟨_, freeTo_len a, by rw [stepM_poss ha ho hp (fun _ => hla)]⟩) (fun hp => by rw [stepM_not ha ho hp])
theorem runFrom_len (l : List CmdM) : ∀ h : HeapM, (runFrom h l).cells.length ≤ h.cells.length + l.length := by
  induction l with
  | nil => intro h; exact Nat.le_refl _
  | cons o l ih => intro h; have h1 := ih (stepM h o).1; have h2 := stepM_len h o; show (runFrom (stepM h o).1 l).cells.length ≤ _; simp only [List.length_cons]; omega
theorem cmdsOk_iff {l : List CmdM} : cmdsOk l = true ↔ l.length ≤ 40 ∧ ∀ o ∈ l, cmdOk o = true := by unfold cmdsOk; simp
theorem cmdsOk_take {l : List CmdM} (h : cmdsOk l = true) (n : Nat) : cmdsOk (l.take n) = true := by
  rw [cmdsOk_iff] at h ⊢
  exact ⟨by rw [List.length_take]; omega, fun o ho => h.2 o (List.mem_of_mem_take ho)⟩
/-! ### FnRunHeap -/
theorem run_last {l : List CmdM} (hl : cmdsOk l = true) {n : Nat} {o : CmdM} (ho : l[n]? = some o) (hn : l.length = n + 1) : (stepM (runM (l.take n)) o).1 = runM l := by
  unfold runM
  rw [if_pos hl, if_pos (cmdsOk_take hl n), ← runFrom_snoc ho, ← hn, List.take_length]
/-! ### How many cells can be reached -/
def liveN (h : HeapM) : Nat := (orderM h).length
theorem live_le {h : HeapM} (hv : validM h = true) : liveN h ≤ h.cells.length := (order_ok hv).len
theorem nodup_len {a b : List Int} (ha : a.Pairwise fun x y => x ≠ y) (hs : ∀ x ∈ a, x ∈ b) : a.length ≤ b.length := by
  induction a generalizing b with
  | nil => simp
  | cons x a ih =>
    rw [List.pairwise_cons] at ha
    have hx := hs x (by simp)
    have := ih (b := b.erase x) ha.2 fun y hy => (List.mem_erase_of_ne fun e => ha.1 y hy e.symm).2 (hs y (by simp [hy]))
    rw [List.length_erase_of_mem hx] at this
    have := List.length_pos_of_mem hx
    simp only [List.length_cons]; omega
theorem slide_sub {h : HeapM} (hv : validM h = true) {r : Int} (hr : r ∈ slideM h) : 0 ≤ r ∧ Rch (refsAt h) nonneg h.roots r.toNat := by
  unfold slideM slideN at hr
  simp only [List.mem_map, List.mem_filter, List.mem_range] at hr
  obtain ⟨k, ⟨hk, h1⟩, rfl⟩ := hr
  exact ⟨by omega, by rw [Int.toNat_natCast]; exact (reach_iff hv k).1 h1⟩
theorem slide_live {h : HeapM} (hv : validM h = true) : (slideM h).length = liveN h := by
  apply Nat.le_antisymm
  · exact nodup_len (slide_ok h).nd fun r hr => (ord_mem hv).2 (slide_sub hv hr)
  · refine nodup_len (order_ok hv).nd fun r hr => ?_
    have h1 := (ord_mem hv).1 hr
    have := slide_mem hv h1.2
    rwa [Int.toNat_of_nonneg h1.1] at this
theorem copy_len {h : HeapM} (hv : validM h = true) : (copyHeapM h).cells.length = liveN h := by
  unfold copyHeapM; rw [if_pos hv]; simp [gathM, liveN]
theorem slideH_len {h : HeapM} (hv : validM h = true) : (slideHeapM h).cells.length = liveN h := by
  unfold slideHeapM; rw [if_pos hv]; simp [gathM, slide_live hv]
theorem gath_valid {h : HeapM} (hv : validM h = true) {order : List Int} (ho : OrdOk h order) (hu : ∀ r ∈ order, ∃ c, h.cells[r.toNat]? = some c ∧ c.used = true) : validM (gathM h order) = true := by
  have hl : ∀ r : Int, leadsM (gathM h order).cells (nameM order r) = true := fun r => by
    rcases nameM_nat order r with ⟨h1, -⟩ | ⟨k, h1, h2⟩
    · rw [h1]; exact leadsM_neg1 _
    · rw [h1]
      refine leadsM_iff.2 (.inr ⟨by omega, ?_⟩)
      have hr := List.mem_of_getElem? h2
      obtain ⟨c, hc, -⟩ := hu r hr
      refine ⟨⟨true, c.data, c.refs.map (nameM order)⟩, ?_, rfl⟩
      show (order.map (movedC h order))[((k : Nat) : Int).toNat]? = _
      rw [Int.toNat_natCast, List.getElem?_map, h2]
      exact congrArg some (movedC_of hc)
  refine validM_iff.2 ⟨fun c hc => ?_, ?_, ?_, fun r hr => ?_⟩
  · have hc2 : c ∈ order.map (movedC h order) := hc
    obtain ⟨r, hr, rfl⟩ := List.mem_map.1 hc2
    obtain ⟨c, hcc, hcu⟩ := hu r hr
    rw [movedC_of hcc]
    have hok := (validM_iff.1 hv).1 c (List.mem_of_getElem? hcc)
    rcases cellOk_iff.1 hok with ⟨-, -, h2, h3, h4⟩ | ⟨h1, -⟩
    · exact cellOk_iff.2 (.inl ⟨rfl, fun x hx => by obtain ⟨y, -, rfl⟩ := List.mem_map.1 hx; exact hl y, h2, h3, by simpa using h4⟩)
    · rw [h1] at hcu; cases hcu
  · have := (validM_len hv).1
    have := ho.len
    show (order.map _).length ≤ 40
    rw [List.length_map]; omega
  · show (h.roots.map _).length = 4
    rw [List.length_map]; exact (validM_len hv).2
  · have hr2 : r ∈ h.roots.map (nameM order) := hr
    obtain ⟨y, -, rfl⟩ := List.mem_map.1 hr2
    exact hl y
theorem copy_valid {h : HeapM} (hv : validM h = true) : validM (copyHeapM h) = true := by
  unfold copyHeapM; rw [if_pos hv]
  exact gath_valid hv (order_ok hv) fun r hr => reach_leads hv ((ord_mem hv).1 hr).2
theorem slide_valid {h : HeapM} (hv : validM h = true) : validM (slideHeapM h) = true := by
  unfold slideHeapM; rw [if_pos hv]
  exact gath_valid hv (slide_ok h) fun r hr => reach_leads hv (slide_sub hv hr).2
/-! ### Programs that move: RunCopy, RunSlide -/
/-- What moving has to do. -/
structure Mover (mv : HeapM → HeapM) : Prop where
  valid : ∀ h, validM h = true → validM (mv h) = true
  iso : ∀ h, validM h = true → Iso h (mv h)
  len : ∀ h, validM h = true → (mv h).cells.length = liveN h
theorem mover_copy : Mover copyHeapM := ⟨fun _ => copy_valid, fun _ => iso_copy, fun _ => copy_len⟩
theorem mover_slide : Mover slideHeapM := ⟨fun _ => slide_valid, fun _ => iso_slide, fun _ => slideH_len⟩
/-- A program that moves comes to its end as one that frees by any other way: it stops when as many cells can be reached as it may have. -/
def stopB (limit : Int) (g : HeapM) (o : CmdM) : Bool := decide (o.op = 1) && decide (limit ≤ (liveN g : Int))
/-- The reference's run, stopped. -/
def refFrom (limit : Int) : HeapM → List CmdM → Bool
  | _, [] => true
  | g, o :: l => if stopB limit g o then false else refFrom limit (stepM g o).1 l
theorem Iso.liveN {h g : HeapM} (s : Iso h g) (hv : validM h = true) (hg : validM g = true) : liveN h = liveN g := s.live hv hg
theorem move_ref {mv : HeapM → HeapM} (m : Mover mv) {limit : Int} (hlim : limit ≤ 40) : ∀ (l : List CmdM) (h g : HeapM), (∀ o ∈ l, cmdOk o = true) → validM h = true → validM g = true → Iso h g → (h.cells.length : Int) ≤ limit → g.cells.length + l.length ≤ 40 →
    (moveFrom mv limit h l).2 = refFrom limit g l ∧ validM (moveFrom mv limit h l).1 = true ∧ ((moveFrom mv limit h l).1.cells.length : Int) ≤ limit ∧ ((moveFrom mv limit h l).2 = true → Iso (moveFrom mv limit h l).1 (runFrom g l)) := by
  intro l
  induction l with
  | nil => intro h g _ hv hg s hl _; exact ⟨rfl, hv, hl, fun _ => s⟩
  | cons o l ih =>
    intro h g hok hv hg s hl hgl
    have ho := hok o (by simp)
    have hgl' : g.cells.length < 40 := by simp only [List.length_cons] at hgl; omega
    have hlive := s.liveN hv hg
    have hle := live_le hv
    have hsg := stepM_len g o
    have hvg := valid_step (h := g) hg ho
    -- a step in a heap that has room
    have go : ∀ h1 : HeapM, validM h1 = true → Iso h1 g → (h1.cells.length : Int) ≤ limit → (o.op = 1 → (h1.cells.length : Int) < limit) → (moveFrom mv limit (stepM h1 o).1 l).2 = refFrom limit (stepM g o).1 l ∧ validM (moveFrom mv limit (stepM h1 o).1 l).1 = true ∧ ((moveFrom mv limit (stepM h1 o).1 l).1.cells.length : Int) ≤ limit ∧ ((moveFrom mv limit (stepM h1 o).1 l).2 = true → Iso (moveFrom mv limit (stepM h1 o).1 l).1 (runFrom g (o :: l))) := by
      intro h1 hv1 s1 hl1 hn1
      have hlen : ((stepM h1 o).1.cells.length : Int) ≤ limit := by
        by_cases e : o.op = 1
        · have := stepM_len h1 o; have := hn1 e; omega
        · cases hp : possO h1 o
          · rw [stepM_not hv1 ho hp]; exact hl1
          · rw [stepM_poss hv1 ho hp (fun e2 => absurd e2 e)]
            simp only [exec_len, e, false_and, if_false]; exact hl1
      refine ih (stepM h1 o).1 (stepM g o).1 (fun x hx => hok x (by simp [hx])) (valid_step hv1 ho) hvg ?_ hlen (by simp only [List.length_cons] at hgl; omega)
      refine iso_next s1 hg ho hgl' (fun hp => ⟨_, freeTo_len h1, ?_⟩) (fun hp => by rw [stepM_not hv1 ho hp])
      rw [stepM_poss hv1 ho hp (fun e => by have := hn1 e; omega)]
    rw [moveFrom]
    by_cases hc : o.op = 1 ∧ limit ≤ (h.cells.length : Int)
    · rw [if_pos hc]
      have hml := m.len h hv
      by_cases hc2 : limit ≤ ((mv h).cells.length : Int)
      · rw [if_pos hc2]
        have hst : stopB limit g o = true := by unfold stopB; simp [hc.1]; omega
        refine ⟨by rw [refFrom, if_pos hst], m.valid h hv, ?_, fun h' => by cases h'⟩
        simp only; omega
      · rw [if_neg hc2]
        have hst : stopB limit g o = false := by unfold stopB; simp [hc.1]; omega
        rw [refFrom, if_neg (by rw [hst]; simp)]
        exact go (mv h) (m.valid h hv) ((m.iso h hv).symm.trans s) (by omega) (fun _ => by omega)
    · rw [if_neg hc]
      have hst : stopB limit g o = false := by
        unfold stopB
        by_cases e : o.op = 1
        · have : ¬ limit ≤ (h.cells.length : Int) := fun h' => hc ⟨e, h'⟩
          simp [e]; omega
        · simp [e]
      rw [refFrom, if_neg (by rw [hst]; simp)]
      exact go h hv s hl (fun e => by have : ¬ limit ≤ (h.cells.length : Int) := fun h' => hc ⟨e, h'⟩; omega)
theorem inB_lim {limit : Int} (h : inB 1 limit 40 = true) : 1 ≤ limit ∧ limit ≤ 40 := inB_iff.1 h
theorem run_move {mv : HeapM → HeapM} (m : Mover mv) {l : List CmdM} {limit : Int} (hb : (cmdsOk l && inB 1 limit 40) = true) :
    (runMoveM mv l limit).2 = refFrom limit emptyM l ∧ validM (runMoveM mv l limit).1 = true ∧ ((runMoveM mv l limit).1.cells.length : Int) ≤ limit ∧ ((runMoveM mv l limit).2 = true → Iso (runMoveM mv l limit).1 (runM l)) := by
  rw [Bool.and_eq_true] at hb
  have hl := inB_lim hb.2
  obtain ⟨h1, h2⟩ := cmdsOk_iff.1 hb.1
  have := move_ref m hl.2 l emptyM emptyM h2 valid_empty valid_empty (Iso.refl valid_empty) (by simp [emptyM]; omega) (by simpa [emptyM] using h1)
  unfold runMoveM runM
  rw [hb.1, hb.2]
  exact this
theorem run_move_bad {mv : HeapM → HeapM} {l : List CmdM} {limit : Int} (hb : (cmdsOk l && inB 1 limit 40) = false) : runMoveM mv l limit = (zeroH, false) := by unfold runMoveM; rw [hb]; rfl
/-- FnRunSlide. -/
theorem law_RunSlide (l : List CmdM) (limit : Int) : (runMoveM slideHeapM l limit).2 = (runMoveM copyHeapM l limit).2 ∧ ((runMoveM slideHeapM l limit).2 = true → sameViewM (runMoveM slideHeapM l limit).1 (runM l) = true ∧ ((runMoveM slideHeapM l limit).1.cells.length : Int) ≤ limit) := by
  rcases bool_ft (cmdsOk l && inB 1 limit 40) with hb | hb
  · rw [run_move_bad hb, run_move_bad hb]; exact ⟨rfl, fun h => by cases h⟩
  · obtain ⟨a1, a2, a3, a4⟩ := run_move mover_slide hb
    obtain ⟨b1, -⟩ := run_move mover_copy hb
    refine ⟨a1.trans b1.symm, fun h => ⟨sameView_iff.2 ⟨a2, valid_run (Bool.and_eq_true_iff.1 hb).1, a4 h⟩, a3⟩⟩
/-! ### FnCopySlide: both runs in step -/
theorem move_both {mv mv' : HeapM → HeapM} (m : Mover mv) (m' : Mover mv') {limit : Int} (hlim : limit ≤ 40) : ∀ (l : List CmdM) (h h' : HeapM), (∀ o ∈ l, cmdOk o = true) → validM h = true → validM h' = true → Iso h h' → h.cells.length = h'.cells.length → (h.cells.length : Int) ≤ limit →
    (moveFrom mv limit h l).1.cells.length = (moveFrom mv' limit h' l).1.cells.length ∧ Iso (moveFrom mv limit h l).1 (moveFrom mv' limit h' l).1 ∧ validM (moveFrom mv limit h l).1 = true ∧ validM (moveFrom mv' limit h' l).1 = true := by
  intro l
  induction l with
  | nil => intro h h' _ hv hv' s hl _; exact ⟨hl, s, hv, hv'⟩
  | cons o l ih =>
    intro h h' hok hv hv' s hl hlm
    have ho := hok o (by simp)
    have hlive := s.liveN hv hv'
    have go : ∀ h1 h1' : HeapM, validM h1 = true → validM h1' = true → Iso h1 h1' → h1.cells.length = h1'.cells.length → (h1.cells.length : Int) ≤ limit → (o.op = 1 → (h1.cells.length : Int) < limit) → (moveFrom mv limit (stepM h1 o).1 l).1.cells.length = (moveFrom mv' limit (stepM h1' o).1 l).1.cells.length ∧ Iso (moveFrom mv limit (stepM h1 o).1 l).1 (moveFrom mv' limit (stepM h1' o).1 l).1 ∧ validM (moveFrom mv limit (stepM h1 o).1 l).1 = true ∧ validM (moveFrom mv' limit (stepM h1' o).1 l).1 = true := by
      intro h1 h1' hv1 hv1' s1 hl1 hlm1 hn1
      refine ih _ _ (fun x hx => hok x (by simp [hx])) (valid_step hv1 ho) (valid_step hv1' ho) ?_ ?_ ?_
      · cases hp : possO h1 o
        · rw [stepM_not hv1 ho hp, stepM_not hv1' ho (by rw [← s1.poss]; exact hp)]; exact s1
        · rw [stepM_poss hv1 ho hp (fun e => by have := hn1 e; omega), stepM_poss hv1' ho (by rw [← s1.poss]; exact hp) (fun e => by have := hn1 e; omega)]
          exact s1.exec ho hp (freeTo_len _) (freeTo_len _)
      · cases hp : possO h1 o
        · rw [stepM_not hv1 ho hp, stepM_not hv1' ho (by rw [← s1.poss]; exact hp)]; exact hl1
        · rw [stepM_poss hv1 ho hp (fun e => by have := hn1 e; omega), stepM_poss hv1' ho (by rw [← s1.poss]; exact hp) (fun e => by have := hn1 e; omega)]
          simp only [exec_len, hl1]
      · cases hp : possO h1 o
        · rw [stepM_not hv1 ho hp]; exact hlm1
        · rw [stepM_poss hv1 ho hp (fun e => by have := hn1 e; omega)]
          simp only [exec_len]
          split
          · next e => have := hn1 e.1; push_cast; omega
          · exact hlm1
    rw [moveFrom, moveFrom]
    rw [← hl]
    by_cases hc : o.op = 1 ∧ limit ≤ (h.cells.length : Int)
    · rw [if_pos hc, if_pos hc]
      have hm1 := m.len h hv
      have hm2 := m'.len h' hv'
      rw [hm2, ← hlive, ← hm1]
      have s2 : Iso (mv h) (mv' h') := (m.iso h hv).symm.trans (s.trans (m'.iso h' hv'))
      have hlen2 : (mv h).cells.length = (mv' h').cells.length := by omega
      by_cases hc2 : limit ≤ ((mv h).cells.length : Int)
      · rw [if_pos hc2, if_pos hc2]
        exact ⟨hlen2, s2, m.valid h hv, m'.valid h' hv'⟩
      · rw [if_neg hc2, if_neg hc2]
        exact go _ _ (m.valid h hv) (m'.valid h' hv') s2 hlen2 (by omega) (fun _ => by omega)
    · rw [if_neg hc, if_neg hc]
      exact go h h' hv hv' s hl hlm (fun e => by have : ¬ limit ≤ (h.cells.length : Int) := fun h' => hc ⟨e, h'⟩; omega)
theorem law_CopySlide (l : List CmdM) (limit : Int) : (runMoveM copyHeapM l limit).1.cells.length = (runMoveM slideHeapM l limit).1.cells.length ∧ ((runMoveM copyHeapM l limit).1.roots.length = 0 ∨ sameViewM (runMoveM copyHeapM l limit).1 (runMoveM slideHeapM l limit).1 = true) := by
  rcases bool_ft (cmdsOk l && inB 1 limit 40) with hb | hb
  · rw [run_move_bad hb, run_move_bad hb]; exact ⟨rfl, .inl rfl⟩
  · have hb2 := Bool.and_eq_true_iff.1 hb
    have hl := inB_lim hb2.2
    obtain ⟨h1, h2⟩ := cmdsOk_iff.1 hb2.1
    obtain ⟨a1, a2, a3, a4⟩ := move_both mover_copy mover_slide hl.2 l emptyM emptyM h2 valid_empty valid_empty (Iso.refl valid_empty) rfl (by simp [emptyM]; omega)
    unfold runMoveM
    rw [if_pos hb, if_pos hb]
    exact ⟨a1, .inr (sameView_iff.2 ⟨a3, a4, a2⟩)⟩
end Go.Proofs.Ytbnokkdhanlhpaa

/- Plain laws: sweeping, limits, copies of what is swept or slid. -/
namespace Go.Proofs.Ytbnokkdhanlhpaa
set_option linter.unusedVariables false
set_option linter.unusedSimpArgs false
abbrev rch (h : HeapM) (k : Nat) : Prop := Rch (refsAt h) nonneg h.roots k
theorem ord_nat {h : HeapM} (hv : validM h = true) {k : Nat} : (k : Int) ∈ orderM h ↔ rch h k := by
  rw [ord_mem hv]; simp
theorem rch_lt {h : HeapM} (hv : validM h = true) {k : Nat} (hk : rch h k) : k < h.cells.length := by
  obtain ⟨c, hc, -⟩ := reach_leads hv hk
  exact (List.getElem?_eq_some_iff.1 hc).1
def natsL (n : Nat) : List Int := (List.range n).map fun k : Nat => (k : Int)
theorem natsL_len (n : Nat) : (natsL n).length = n := by simp [natsL]
theorem natsL_nd (n : Nat) : (natsL n).Pairwise fun a b => a ≠ b := by
  unfold natsL
  rw [List.pairwise_map]
  exact List.nodup_range.imp fun hab e => hab (by omega)
theorem natsL_mem {n : Nat} {r : Int} : r ∈ natsL n ↔ 0 ≤ r ∧ r < (n : Int) := by
  unfold natsL
  simp only [List.mem_map, List.mem_range]
  constructor
  · rintro ⟨k, hk, rfl⟩; omega
  · rintro ⟨h0, h1⟩; exact ⟨r.toNat, by omega, by omega⟩
theorem live_all {h : HeapM} (hv : validM h = true) (ha : ∀ k, k < h.cells.length → rch h k) : liveN h = h.cells.length := by
  apply Nat.le_antisymm (live_le hv)
  have := nodup_len (natsL_nd h.cells.length) (b := orderM h) fun r hr => by
    have h1 := natsL_mem.1 hr
    exact (ord_mem hv).2 ⟨h1.1, ha r.toNat (by omega)⟩
  rw [natsL_len] at this; exact this
theorem live_some {h : HeapM} (hv : validM h = true) {k : Nat} (hk : k < h.cells.length) (hn : ¬ rch h k) : liveN h < h.cells.length := by
  have hnm : (k : Int) ∉ orderM h := fun hm => hn ((ord_nat hv).1 hm)
  have := nodup_len (a := (k : Int) :: orderM h) (b := natsL h.cells.length) (List.pairwise_cons.2 ⟨fun b hb e => hnm (by rw [e]; exact hb), (order_ok hv).nd⟩) fun r hr => by
    rcases List.mem_cons.1 hr with rfl | hr
    · exact natsL_mem.2 ⟨by omega, by omega⟩
    · have := (order_ok hv).lt r hr; exact natsL_mem.2 this
  rw [natsL_len] at this
  simp only [List.length_cons] at this
  unfold liveN; omega
theorem swept {h : HeapM} (hv : validM h = true) : (collectSweepM h).1 = dropM h (nots (reachM h)) := by rw [collectSweep_ok hv]
theorem swept_len {h : HeapM} (hv : validM h = true) : (collectSweepM h).1.cells.length = h.cells.length := by
  rw [swept hv]; exact dropCs_len (by rw [nots_len, reachM_len])
theorem swept_at {h : HeapM} (hv : validM h = true) {k : Nat} {c : CellM} (hc : h.cells[k]? = some c) : (rch h k ∧ (collectSweepM h).1.cells[k]? = some c) ∨ (¬ rch h k ∧ (collectSweepM h).1.cells[k]? = some freeCell) := by
  have hk := (List.getElem?_eq_some_iff.1 hc).1
  have hr := List.getElem?_eq_getElem (l := reachM h) (i := k) (by rw [reachM_len]; exact hk)
  have hd := drop_at hc (nots_at hr)
  have hi := reach_iff hv k
  rw [getD_of hr] at hi
  rw [swept hv]
  show (rch h k ∧ (dropCs h.cells (nots (reachM h)))[k]? = _) ∨ _
  rw [hd]
  by_cases hb : rch h k
  · exact .inl ⟨hb, by rw [hi.2 hb]; rfl⟩
  · refine .inr ⟨hb, ?_⟩
    show (dropCs h.cells (nots (reachM h)))[k]? = _
    rw [hd]
    rcases bool_ft ((reachM h)[k]'(by rw [reachM_len]; exact hk)) with e | e
    · rw [e]; rfl
    · exact absurd (hi.1 e) hb
theorem swept_iso {h : HeapM} (hv : validM h = true) : Iso h (collectSweepM h).1 := by
  refine iso_same hv (by rw [swept hv]; rfl) fun k c hk hc => ?_
  rcases swept_at hv hc with ⟨-, h1⟩ | ⟨h1, -⟩
  · exact h1
  · exact absurd hk h1
theorem freeAt_ge {cs : List CellM} {n : Nat} (hn : n ≤ cs.length) (h : ∀ (k : Nat) (c : CellM), k < n → cs[k]? = some c → c.used = true) : n ≤ freeAt cs := by
  rcases Nat.lt_or_ge (freeAt cs) n with h1 | h1
  · have hc := List.getElem?_eq_getElem (l := cs) (i := freeAt cs) (by omega)
    have := freeAt_free hc
    rw [h _ _ h1 hc] at this; cases this
  · exact h1
theorem freeAt_used {cs : List CellM} {k : Nat} {c : CellM} (hk : k < freeAt cs) (hc : cs[k]? = some c) : c.used = true := by
  unfold freeAt at hk
  split at hk
  · next n hn =>
    obtain ⟨x, -, -, h3⟩ := firstB_at hn
    have := h3 k hk c hc
    simpa [notUsed] using this
  · next hn => simpa [notUsed] using firstB_none_all hn c (List.mem_of_getElem? hc)
/-- After sweeping there is no place below the limit exactly if as many cells can be reached. -/
theorem swept_free {h : HeapM} (hv : validM h = true) {limit : Int} (hl : (h.cells.length : Int) ≤ limit) (hf : limit ≤ (freeAt h.cells : Int)) : limit ≤ (freeAt (collectSweepM h).1.cells : Int) ↔ limit ≤ (liveN h : Int) := by
  have h1 := freeAt_le h.cells
  have hll := live_le hv
  constructor
  · intro h2
    have := live_all hv fun k hk => by
      have hc := List.getElem?_eq_getElem (l := h.cells) (i := k) hk
      rcases swept_at hv hc with ⟨h3, -⟩ | ⟨-, h3⟩
      · exact h3
      · have := freeAt_used (cs := (collectSweepM h).1.cells) (k := k) (by omega) h3
        cases this
    omega
  · intro h2
    have h3 : h.cells.length ≤ freeAt (collectSweepM h).1.cells := by
      refine freeAt_ge (by rw [swept_len hv]; exact Nat.le_refl _) fun k c hk hc => ?_
      have hc0 := List.getElem?_eq_getElem (l := h.cells) (i := k) hk
      rcases swept_at hv hc0 with ⟨h3, h4⟩ | ⟨h3, -⟩
      · rw [h4] at hc; injection hc with hc
        obtain ⟨c2, hc2, hu⟩ := reach_leads hv h3
        rw [hc0] at hc2; injection hc2 with hc2
        rw [← hc, hc2]; exact hu
      · have := live_some hv hk h3; omega
    omega
theorem free_live {h : HeapM} (hv : validM h = true) {limit : Int} (hl : (h.cells.length : Int) ≤ limit) (hf : ¬ limit ≤ (freeAt h.cells : Int)) : ¬ limit ≤ (liveN h : Int) := by
  have h1 := freeAt_le h.cells
  have hll := live_le hv
  by_cases hk : freeAt h.cells < h.cells.length
  · have hc := List.getElem?_eq_getElem (l := h.cells) (i := freeAt h.cells) hk
    have hu := freeAt_free hc
    have := live_some hv hk fun hr => by
      obtain ⟨c2, hc2, hu2⟩ := reach_leads hv hr
      rw [hc] at hc2; injection hc2 with hc2
      rw [hc2, hu2] at hu; cases hu
    omega
  · omega
/-- A step with sweeping: where it succeeds, the cells stay together with those of a heap with room. -/
theorem sweep_next {h : HeapM} {limit : Int} {o : CmdM} (hv : validM h = true) (ho : cmdOk o = true) (hb : inB 1 limit 40 = true) (hp : possO h o = true) (hy : (stepSweepM h limit o).2 = true) : ∃ h1 p, validM h1 = true ∧ Iso h h1 ∧ freeTo h1 p ∧ h1.cells.length = h.cells.length ∧ (o.op = 1 → (p : Int) < limit) ∧ stepSweepM h limit o = (execM h1 o p, true) := by
  have hbb : (validM h && cmdOk o && inB 1 limit 40) = true := by simp [hv, ho, hb]
  by_cases hn : o.op = 1 ∧ limit ≤ (freeAt h.cells : Int)
  · by_cases hf : limit ≤ (freeAt (collectSweepM h).1.cells : Int)
    · rw [stepSweep_full hbb hn.1 hn.2 hf] at hy; cases hy
    · exact ⟨_, _, collectSweep_valid hv, swept_iso hv, freeTo_at _, swept_len hv, fun _ => by omega, stepSweep_room hbb hn.1 hn.2 hf⟩
  · exact ⟨h, _, hv, Iso.refl hv, freeTo_at h, rfl, fun e => by have : ¬ limit ≤ (freeAt h.cells : Int) := fun h2 => hn ⟨e, h2⟩; omega, stepSweep_old hbb hp hn⟩
/-- FnStepSweep, where the instruction is executed. -/
theorem law_StepSweep {h : HeapM} {limit : Int} {o : CmdM} (hy : (stepSweepM h limit o).2 = true) : validM (stepSweepM h limit o).1 = true ∧ ((stepM h o).2 = true → sameViewM (stepSweepM h limit o).1 (stepM h o).1 = true) ∧ ((stepSweepM h limit o).1.cells.length : Int) ≤ max limit (h.cells.length : Int) := by
  rcases bool_ft (validM h && cmdOk o && inB 1 limit 40) with hb | hb
  · rw [stepSweep_no hb] at hy; cases hy
  · have hb' := hb
    simp only [Bool.and_eq_true] at hb'
    obtain ⟨⟨hv, ho⟩, hl⟩ := hb'
    rcases bool_ft (possO h o) with hp | hp
    · rw [stepSweep_poss hb hp] at hy; cases hy
    · have hv2 := stepSweep_valid hv ho hl
      obtain ⟨h1, p, hv1, s, hf, hlen, hpl, e⟩ := sweep_next hv ho hl hp hy
      refine ⟨hv2, fun hr => ?_, ?_⟩
      · have hst : stepM h o = (execM h o h.cells.length, true) := by
          refine stepM_poss hv ho hp fun e1 => ?_
          rcases Nat.lt_or_ge h.cells.length 40 with h9 | h9
          · exact h9
          · rw [stepM_full hv ho e1 (by have := (validM_len hv).1; omega)] at hr; cases hr
        refine sameView_iff.2 ⟨hv2, valid_step hv ho, ?_⟩
        rw [e, hst]
        exact (s.symm.exec ho (by rw [s.symm.poss]; exact hp) hf (freeTo_len h))
      · rw [e]
        simp only [exec_len, hlen]
        split
        · next h9 => have := hpl h9.1; have := h9.2; push_cast; omega
        · omega
/-- FnStepSweep, where it is not. -/
theorem law_StepSweep_no {h : HeapM} {limit : Int} {o : CmdM} (hy : (stepSweepM h limit o).2 = false) : (stepSweepM h limit o).1.roots.length = 0 ∨ sameViewM (stepSweepM h limit o).1 h = true := by
  rcases bool_ft (validM h && cmdOk o && inB 1 limit 40) with hb | hb
  · rw [stepSweep_no hb]; exact .inl rfl
  · have hb' := hb
    simp only [Bool.and_eq_true] at hb'
    obtain ⟨⟨hv, ho⟩, hl⟩ := hb'
    refine .inr ?_
    rcases bool_ft (possO h o) with hp | hp
    · rw [stepSweep_poss hb hp]; exact sameView_iff.2 ⟨hv, hv, Iso.refl hv⟩
    · by_cases hn : o.op = 1 ∧ limit ≤ (freeAt h.cells : Int)
      · by_cases hf : limit ≤ (freeAt (collectSweepM h).1.cells : Int)
        · rw [stepSweep_full hb hn.1 hn.2 hf]
          exact sameView_iff.2 ⟨collectSweep_valid hv, hv, (swept_iso hv).symm⟩
        · rw [stepSweep_room hb hn.1 hn.2 hf] at hy; cases hy
      · rw [stepSweep_old hb hp hn] at hy; cases hy
theorem sweep_ref {limit : Int} (hb : inB 1 limit 40 = true) : ∀ (l : List CmdM) (h g : HeapM), (∀ o ∈ l, cmdOk o = true) → validM h = true → validM g = true → Iso h g → (h.cells.length : Int) ≤ limit → g.cells.length + l.length ≤ 40 →
    (sweepFrom limit h l).2 = refFrom limit g l ∧ ((sweepFrom limit h l).2 = true → validM (sweepFrom limit h l).1 = true ∧ Iso (sweepFrom limit h l).1 (runFrom g l)) := by
  intro l
  induction l with
  | nil => intro h g _ hv hg s hl _; exact ⟨rfl, fun _ => ⟨hv, s⟩⟩
  | cons o l ih =>
    intro h g hok hv hg s hl hgl
    have ho := hok o (by simp)
    have hgl' : g.cells.length < 40 := by simp only [List.length_cons] at hgl; omega
    have hlive := s.liveN hv hg
    have hbb : (validM h && cmdOk o && inB 1 limit 40) = true := by simp [hv, ho, hb]
    have hsg := stepM_len g o
    have hvg := valid_step (h := g) hg ho
    rw [sweepFrom, refFrom]
    rcases bool_ft (possO h o) with hp | hp
    · have e1 : o.op ≠ 1 := fun e => by rw [poss_new e] at hp; cases hp
      rw [if_neg (by rw [stepSweep_poss hbb hp]; simp [e1]), if_neg (by unfold stopB; simp [e1]), stepSweep_poss hbb hp]
      exact ih h _ (fun x hx => hok x (by simp [hx])) hv hvg (iso_next s hg ho hgl' (fun h' => by rw [hp] at h'; cases h') (fun _ => rfl)) hl (by simp only [List.length_cons] at hgl; omega)
    · have hstop : (!(stepSweepM h limit o).2 && decide (o.op = 1)) = stopB limit g o := by
        unfold stopB
        by_cases e1 : o.op = 1
        · simp only [e1, decide_true, Bool.and_true, Bool.true_and]
          rw [← hlive]
          by_cases hn : limit ≤ (freeAt h.cells : Int)
          · have hs := swept_free hv hl hn
            by_cases hf : limit ≤ (freeAt (collectSweepM h).1.cells : Int)
            · rw [stepSweep_full hbb e1 hn hf]; simp [hs.1 hf]
            · rw [stepSweep_room hbb e1 hn hf]; simp; have := mt hs.2 hf; omega
          · rw [stepSweep_old hbb hp (fun h' => hn h'.2)]
            have := free_live hv hl hn
            simp; omega
        · simp [e1]
      rw [hstop]
      by_cases hst : stopB limit g o = true
      · rw [if_pos hst, if_pos hst]; exact ⟨rfl, fun h' => by cases h'⟩
      · rw [if_neg hst, if_neg hst]
        have hy : (stepSweepM h limit o).2 = true := by
          rcases bool_ft (stepSweepM h limit o).2 with h9 | h9
          · have h8 := stepSweep_fail (limit := limit) hv ho hb
            rw [hp, h9] at h8
            rw [← hstop, h9] at hst
            simp at h8
            exact absurd (by simp [h8]) hst
          · exact h9
        obtain ⟨h1, p, hv1, s1, hf, hlen, hpl, e⟩ := sweep_next hv ho hb hp hy
        have s2 : Iso h1 g := s1.symm.trans s
        have hlen2 : ((stepSweepM h limit o).1.cells.length : Int) ≤ limit := by
          rw [e]; simp only [exec_len, hlen]
          split
          · next h9 => have := hpl h9.1; have := h9.2; push_cast; omega
          · exact hl
        refine ih _ _ (fun x hx => hok x (by simp [hx])) (stepSweep_valid hv ho hb) hvg ?_ hlen2 (by simp only [List.length_cons] at hgl; omega)
        rw [e]
        exact iso_next (h := h1) s2 hg ho hgl' (fun _ => ⟨p, hf, rfl⟩) (fun h' => by rw [← s1.poss, hp] at h'; cases h')
/-- FnRunLimits. -/
theorem law_RunLimits (l : List CmdM) (limit : Int) : (runSweepM l limit).2 = (runMoveM copyHeapM l limit).2 ∧ (runSweepM l limit).2 = (runMoveM slideHeapM l limit).2 := by
  rcases bool_ft (cmdsOk l && inB 1 limit 40) with hb | hb
  · rw [run_move_bad hb, run_move_bad hb]
    unfold runSweepM; rw [hb]; exact ⟨rfl, rfl⟩
  · have hb2 := Bool.and_eq_true_iff.1 hb
    obtain ⟨h1, h2⟩ := cmdsOk_iff.1 hb2.1
    have hl := inB_lim hb2.2
    have := (sweep_ref hb2.2 l emptyM emptyM h2 valid_empty valid_empty (Iso.refl valid_empty) (by simp [emptyM]; omega) (by simpa [emptyM] using h1)).1
    rw [(run_move mover_copy hb).1, (run_move mover_slide hb).1]
    unfold runSweepM; rw [if_pos hb]
    exact ⟨this, this⟩
/-! ### Copies -/
theorem Sim.copied {R : Nat → Nat → Prop} {h h' : HeapM} (s : Sim R h h') (hv : validM h = true) (hv' : validM h' = true) : copyHeapM h = copyHeapM h' := by
  have ho := s.order hv hv'
  unfold copyHeapM
  rw [if_pos hv, if_pos hv']
  unfold gathM
  have hn : ∀ r r', relR R r r' → nameM (orderM h) r = nameM (orderM h') r' := fun r r' hr => s.name ho hr
  generalize orderM h = os at *
  generalize orderM h' = os' at *
  rw [s.roots.map_eq hn]
  congr 1
  refine ho.map_eq fun a b hab => ?_
  obtain ⟨h1, h2, h3⟩ := hab
  obtain ⟨d, rs, rs', g1, g2, g3⟩ := s.cell h3
  rw [movedC_of g1, movedC_of g2, g3.map_eq hn]
theorem Iso.copied {h h' : HeapM} (s : Iso h h') (hv : validM h = true) (hv' : validM h' = true) : copyHeapM h = copyHeapM h' := by obtain ⟨R, s⟩ := s; exact s.copied hv hv'
/-- FnSweepCopy. -/
theorem law_SweepCopy {h : HeapM} (hv : validM h = true) : copyHeapM (collectSweepM h).1 = copyHeapM h ∧ copyHeapM (slideHeapM h) = copyHeapM h :=
  ⟨(swept_iso hv).symm.copied (collectSweep_valid hv) hv, (iso_slide hv).symm.copied (slide_valid hv) hv⟩
/-! ### Slid heaps -/
theorem slide_all {h : HeapM} (hv : validM h = true) (ha : ∀ k, k < h.cells.length → rch h k) : slideM h = natsL h.cells.length := by
  unfold slideM slideN natsL
  congr 1
  rw [List.filter_eq_self]
  intro k hk
  exact (reach_iff hv k).2 (ha k (by simpa using hk))
theorem nameM_nats {n : Nat} {r : Int} (h : r = -1 ∨ (0 ≤ r ∧ r < (n : Int))) : nameM (natsL n) r = r := by
  rcases h with rfl | ⟨h0, h1⟩
  · exact nameM_out fun hm => by have := (natsL_mem.1 hm).1; omega
  · have : (natsL n)[r.toNat]? = some r := by unfold natsL; rw [List.getElem?_map, List.getElem?_range (by omega)]; simp [Int.toNat_of_nonneg h0]
    rw [nameM_of (natsL_nd n) this]; omega
theorem gath_nats {h : HeapM} (hv : validM h = true) (hu : ∀ c ∈ h.cells, c.used = true) : gathM h (natsL h.cells.length) = h := by
  have hlr : ∀ r : Int, leadsM h.cells r = true → nameM (natsL h.cells.length) r = r := fun r hr => by
    refine nameM_nats ?_
    rcases leadsM_iff.1 hr with h1 | ⟨h0, -⟩
    · exact .inl h1
    · exact .inr ⟨h0, leadsM_lt hr⟩
  have e1 : (natsL h.cells.length).map (movedC h (natsL h.cells.length)) = h.cells := by
    apply List.ext_getElem?
    intro k
    by_cases hk : k < h.cells.length
    · have hc := List.getElem?_eq_getElem (l := h.cells) (i := k) hk
      have e : (natsL h.cells.length)[k]? = some (k : Int) := by unfold natsL; rw [List.getElem?_map, List.getElem?_range hk]; rfl
      rw [List.getElem?_map, e, hc]
      show some (movedC h _ (k : Int)) = _
      rw [movedC_of (c := h.cells[k]) (by rw [Int.toNat_natCast]; exact hc)]
      have hm := List.mem_of_getElem? hc
      have hu1 := hu _ hm
      have : (h.cells[k]).refs.map (nameM (natsL h.cells.length)) = (h.cells[k]).refs := by
        conv => rhs; rw [← List.map_id (h.cells[k]).refs]
        exact List.map_congr_left fun r hr => hlr r ((validM_leads hv).1 _ hm r hr)
      rw [this, ← hu1]
    · rw [List.getElem?_eq_none (by rw [List.length_map, natsL_len]; omega), List.getElem?_eq_none (by omega)]
  have e2 : h.roots.map (nameM (natsL h.cells.length)) = h.roots := by
    conv => rhs; rw [← List.map_id h.roots]
    exact List.map_congr_left fun r hr => hlr r ((validM_leads hv).2 r hr)
  unfold gathM
  rw [e1, e2]
theorem slid_used {h : HeapM} (hv : validM h = true) : ∀ c ∈ (slideHeapM h).cells, c.used = true := by
  unfold slideHeapM; rw [if_pos hv]
  intro c hc
  have hc2 : c ∈ (slideM h).map (movedC h (slideM h)) := hc
  obtain ⟨r, hr, rfl⟩ := List.mem_map.1 hc2
  obtain ⟨c, hcc, -⟩ := reach_leads hv (slide_sub hv hr).2
  rw [movedC_of hcc]
theorem slid_live {h : HeapM} (hv : validM h = true) : liveN (slideHeapM h) = (slideHeapM h).cells.length := by
  rw [slideH_len hv]; exact ((iso_slide hv).liveN hv (slide_valid hv)).symm
theorem slid_all {h : HeapM} (hv : validM h = true) : ∀ k, k < (slideHeapM h).cells.length → rch (slideHeapM h) k := by
  intro k hk
  rcases Classical.em (rch (slideHeapM h) k) with h1 | h1
  · exact h1
  · have := live_some (slide_valid hv) hk h1
    rw [slid_live hv] at this; omega
theorem slide_twice {h : HeapM} (hv : validM h = true) : slideHeapM (slideHeapM h) = slideHeapM h := by
  have hv2 := slide_valid hv
  show (if validM (slideHeapM h) then gathM (slideHeapM h) (slideM (slideHeapM h)) else zeroH) = _
  rw [if_pos hv2, slide_all hv2 (slid_all hv), gath_nats hv2 (slid_used hv)]
/-! How many cells are used -/
def usedC (h : HeapM) : Nat := (h.cells.filter (·.used)).length
/-- What UsedCells returns. -/
noncomputable def usedCellsM (h : HeapM) : Int × Int := if validM h then ((usedC h : Int), (((reachM h).filter id).length : Int)) else (-1, -1)
theorem reach_count {h : HeapM} (hv : validM h = true) : ((reachM h).filter id).length = liveN h := by
  rw [← slide_live hv]
  unfold slideM slideN
  rw [List.length_map]
  have : reachM h = (List.range h.cells.length).map fun k => (reachM h).getD k false := by
    apply List.ext_getElem?
    intro k
    by_cases hk : k < h.cells.length
    · have := List.getElem?_eq_getElem (l := reachM h) (i := k) (by rw [reachM_len]; exact hk)
      rw [List.getElem?_map, List.getElem?_range hk]
      show _ = some ((reachM h).getD k false)
      rw [getD_of this, this]
    · rw [List.getElem?_eq_none (by rw [reachM_len]; omega), List.getElem?_eq_none (by simp; omega)]
  conv => lhs; rw [this]
  rw [List.filter_map, List.length_map]
  rfl
theorem used_all {h : HeapM} (hu : ∀ c ∈ h.cells, c.used = true) : usedC h = h.cells.length := by
  unfold usedC; rw [List.filter_eq_self.2 hu]
/-- FnSlideHeap. -/
theorem law_SlideHeap {h : HeapM} (hv : validM h = true) : (usedCellsM (slideHeapM h)).1 = ((slideHeapM h).cells.length : Int) ∧ (usedCellsM (slideHeapM h)).2 = ((slideHeapM h).cells.length : Int) ∧ sameViewM (slideHeapM h) h = true ∧ slideHeapM (slideHeapM h) = slideHeapM h ∧ (slideHeapM h).cells.length = (copyHeapM h).cells.length := by
  have hv2 := slide_valid hv
  unfold usedCellsM
  rw [if_pos hv2, reach_count hv2, slid_live hv, used_all (slid_used hv)]
  exact ⟨rfl, rfl, sameView_iff.2 ⟨hv2, hv, (iso_slide hv).symm⟩, slide_twice hv, by rw [slideH_len hv, copy_len hv]⟩
/-! ### Slid heaps are swept heaps without gaps -/
theorem swept_reach {h : HeapM} (hv : validM h = true) : reachM (collectSweepM h).1 = reachM h := by rw [swept hv]; exact reach_drop hv
theorem swept_slide {h : HeapM} (hv : validM h = true) : slideM (collectSweepM h).1 = slideM h := by
  unfold slideM slideN; rw [swept_len hv, swept_reach hv]
theorem swept_used {h : HeapM} (hv : validM h = true) {k : Nat} {c : CellM} (hc : (collectSweepM h).1.cells[k]? = some c) : c.used = (reachM h).getD k false := by
  have hk := (List.getElem?_eq_some_iff.1 hc).1
  rw [swept_len hv] at hk
  have hi := reach_iff hv k
  rcases swept_at hv (List.getElem?_eq_getElem (l := h.cells) (i := k) hk) with ⟨h1, h2⟩ | ⟨h1, h2⟩
  · rw [h2] at hc; injection hc with hc
    obtain ⟨c2, hc2, hu⟩ := reach_leads hv h1
    rw [List.getElem?_eq_getElem hk] at hc2; injection hc2 with hc2
    rw [hi.2 h1, ← hc, hc2, hu]
  · rw [h2] at hc; injection hc with hc
    rw [← hc]
    rcases bool_ft ((reachM h).getD k false) with e | e
    · rw [e]; rfl
    · exact absurd (hi.1 e) h1
theorem swept_usedC {h : HeapM} (hv : validM h = true) : usedC (collectSweepM h).1 = liveN h := by
  have e : (collectSweepM h).1.cells.map (·.used) = reachM h := by
    apply List.ext_getElem?
    intro k
    by_cases hk : k < h.cells.length
    · have hc := List.getElem?_eq_getElem (l := (collectSweepM h).1.cells) (i := k) (by rw [swept_len hv]; exact hk)
      have hr := List.getElem?_eq_getElem (l := reachM h) (i := k) (by rw [reachM_len]; exact hk)
      rw [List.getElem?_map, hc, hr]
      have := swept_used hv hc
      rw [getD_of hr] at this
      exact congrArg some this
    · rw [List.getElem?_eq_none (by rw [List.length_map, swept_len hv]; omega), List.getElem?_eq_none (by rw [reachM_len]; omega)]
  rw [← reach_count hv, ← e, List.filter_map, List.length_map]
  rfl
/-- FnSlideSweep. -/
theorem law_SlideSweep {h : HeapM} (hv : validM h = true) : slideHeapM (collectSweepM h).1 = slideHeapM h ∧ (usedCellsM (collectSweepM h).1).1 = ((slideHeapM h).cells.length : Int) := by
  have hv2 := collectSweep_valid hv
  constructor
  · show (if validM (collectSweepM h).1 then gathM (collectSweepM h).1 (slideM (collectSweepM h).1) else zeroH) = (if validM h then gathM h (slideM h) else zeroH)
    rw [if_pos hv2, if_pos hv, swept_slide hv]
    unfold gathM
    rw [show (collectSweepM h).1.roots = h.roots by rw [swept hv]; rfl]
    congr 1
    refine List.map_congr_left fun r hr => ?_
    have h1 := slide_sub hv hr
    obtain ⟨c, hc, -⟩ := reach_leads hv h1.2
    rcases swept_at hv hc with ⟨-, h2⟩ | ⟨h2, -⟩
    · rw [movedC_of h2, movedC_of hc]
    · exact absurd h1.2 h2
  · unfold usedCellsM
    rw [if_pos hv2, swept_usedC hv, slideH_len hv]
end Go.Proofs.Ytbnokkdhanlhpaa

/- Plain laws: painted heaps. -/
namespace Go.Proofs.Ytbnokkdhanlhpaa
set_option linter.unusedVariables false
set_option linter.unusedSimpArgs false
/-! ### How many are freed, how many have leaked -/
theorem filter_len_map {α β : Type} (f : β → α) (p : α → Bool) (l : List β) : ((l.map f).filter p).length = (l.filter fun x => p (f x)).length := by
  rw [List.filter_map, List.length_map]; rfl
theorem freedN_range {cs : List CellM} {dead : List Bool} (hl : dead.length = cs.length) : freedN cs dead = ((List.range cs.length).filter fun k => dead.getD k false && usedN cs k).length := by
  unfold freedN
  have e : List.zipWith (fun (c : CellM) d => d && c.used) cs dead = (List.range cs.length).map fun k => dead.getD k false && usedN cs k := by
    apply List.ext_getElem?
    intro k
    by_cases hk : k < cs.length
    · have h1 := List.getElem?_eq_getElem (l := cs) (i := k) hk
      have h2 := List.getElem?_eq_getElem (l := dead) (i := k) (by omega)
      rw [List.getElem?_zipWith, h1, h2, List.getElem?_map, List.getElem?_range hk]
      simp only [Option.map_some]
      rw [getD_of h2, usedN_at h1]
    · rw [List.getElem?_eq_none (by simp; omega), List.getElem?_eq_none (by simp; omega)]
  rw [e, filter_len_map]; rfl
def leakB (h : HeapM) (reach : List Bool) (k : Nat) : Bool := usedN h.cells k && !reach.getD k false
/-- The leaked cells. -/
noncomputable def leakM (h : HeapM) : List Int := if validM h then ((List.range h.cells.length).filter (leakB h (reachM h))).map fun k : Nat => (k : Int) else []
theorem leakM_len {h : HeapM} (hv : validM h = true) : (leakM h).length = ((List.range h.cells.length).filter (leakB h (reachM h))).length := by
  unfold leakM; rw [if_pos hv, List.length_map]
theorem filter_le {α : Type} {p q : α → Bool} {l : List α} (h : ∀ x ∈ l, p x = true → q x = true) : (l.filter p).length ≤ (l.filter q).length := by
  induction l with
  | nil => simp
  | cons x l ih =>
    have := ih fun y hy => h y (by simp [hy])
    rw [List.filter_cons, List.filter_cons]
    rcases bool_ft (p x) with h1 | h1
    · rw [h1]; simp only [Bool.false_eq_true, if_false]; split <;> simp <;> omega
    · rw [h1, h x (by simp) h1]; simp; omega
/-- Where only cells that cannot be reached are freed, not more are freed than have leaked. -/
theorem freed_leak {h : HeapM} (hv : validM h = true) {dead : List Bool} (hl : dead.length = h.cells.length) (hd : ∀ k, rch h k → dead.getD k false = false) : freedN h.cells dead ≤ (leakM h).length := by
  rw [freedN_range hl, leakM_len hv]
  refine filter_le fun k hk h1 => ?_
  unfold leakB
  simp only [Bool.and_eq_true] at h1
  rw [h1.2]
  rcases bool_ft ((reachM h).getD k false) with e | e
  · rw [e]; rfl
  · rw [hd k ((reach_iff hv k).1 e)] at h1; cases h1.1
theorem freed_reach {h : HeapM} (hv : validM h = true) : freedN h.cells (nots (reachM h)) = (leakM h).length := by
  rw [freedN_range (by rw [nots_len, reachM_len]), leakM_len hv]
  congr 1
  refine List.filter_congr fun k hk => ?_
  have hk2 : k < h.cells.length := by simpa using hk
  unfold leakB
  rw [nots_getD (by rw [reachM_len]; exact hk2), Bool.and_comm]
/-! ### FnPaintValid -/
def paintAll (x : Int) (h : HeapM) : List Int := h.cells.map fun c => if c.used then x else 0
theorem paintAll_valid {h : HeapM} (hv : validM h = true) {x : Int} (hx : x = 1 ∨ x = 2) : paintM ⟨h, paintAll x h, true⟩ = true := by
  have key : ∀ r : Int, leadsM h.cells r = true → 0 ≤ r → (paintAll x h)[r.toNat]? ≠ some 0 := by
    intro r hr h0 e
    obtain ⟨c, hc, hu⟩ := valid_used hr h0
    unfold paintAll at e
    rw [List.getElem?_map, hc] at e
    simp [hu] at e
    omega
  refine paintM_iff.2 ⟨hv, by simp [paintAll], fun k col c h1 h2 => ?_, fun _ r hr h0 => key r ((validM_leads hv).2 r hr) h0⟩
  have h2' : h.cells[k]? = some c := h2
  have h1' : (paintAll x h)[k]? = some col := h1
  unfold paintAll at h1'
  rw [List.getElem?_map, h2'] at h1'
  simp only [Option.map_some, Option.some.injEq] at h1'
  rcases bool_ft c.used with e | e
  · rw [e] at h1'
    simp at h1'
    exact ⟨by omega, fun hh => absurd h1'.symm hh, fun hh => by omega⟩
  · rw [e] at h1'
    simp at h1'
    exact ⟨by omega, fun _ => ⟨e, rfl⟩, fun _ r hr h0 => key r ((validM_leads hv).1 c (List.mem_of_getElem? h2') r hr) h0⟩
theorem law_PaintValid {p : PaintM} (h : paintM p = true) : paintM ⟨p.store, paintAll 2 p.store, true⟩ = true ∧ paintM ⟨p.store, paintAll 1 p.store, true⟩ = true ∧ paintM ⟨p.store, p.colours ++ [0], p.active⟩ = false := by
  have hp := paintM_parts h
  refine ⟨paintAll_valid hp.1 (.inr rfl), paintAll_valid hp.1 (.inl rfl), ?_⟩
  rw [Bool.eq_false_iff]
  intro h2
  have := (paintM_parts h2).2
  simp at this
  omega
/-! ### FnPaintStart, FnPaintStep -/
theorem law_PaintStart {p : PaintM} (h : paintM p = true) : paintM (startP p) = true ∧ (startP p).active = true ∧ (startP p).store = p.store ∧ startP (startP p) = startP p ∧ (p.active = true → startP p = p) := by
  refine ⟨paintM_start h, ?_, ?_, ?_, ?_⟩
  all_goals
    unfold startP
    rcases bool_ft p.active with e | e
    · simp [e]
    · simp [e]
def greyB (cols : List Int) : Bool := cols.any fun c => c == 1
theorem stepP_grey (p : PaintM) : (stepP p).2 = greyB p.colours := by
  unfold stepP greyB
  cases e : firstB isGrey p.colours with
  | none =>
    have := firstB_none_all e
    symm
    rw [Bool.eq_false_iff]
    intro h
    obtain ⟨c, hc, h1⟩ := List.any_eq_true.1 h
    have := this c hc
    rw [show isGrey c = true from h1] at this
    cases this
  | some k =>
    obtain ⟨x, hx, hp, -⟩ := firstB_at e
    symm
    exact List.any_eq_true.2 ⟨x, List.mem_of_getElem? hx, hp⟩
theorem stepP_no {p : PaintM} (h : (stepP p).2 = false) : (stepP p).1 = p := by
  unfold stepP at h ⊢
  split
  · rfl
  · next k hk => rw [hk] at h; cases h
theorem stepP_store (p : PaintM) : (stepP p).1.store = p.store ∧ (stepP p).1.active = p.active ∧ (stepP p).1.colours.length = p.colours.length := by
  unfold stepP; split
  · exact ⟨rfl, rfl, rfl⟩
  · exact ⟨rfl, rfl, by simp [greyL_len]⟩
/-- A step: no colour becomes lighter, one cell becomes black. -/
theorem stepP_cols {p : PaintM} (h : paintM p = true) : (stepP p).2 = false ∨ ∃ k0, k0 < p.colours.length ∧ ∀ (k : Nat) (a b : Int), p.colours[k]? = some a → (stepP p).1.colours[k]? = some b → a ≤ b ∧ ((b = 2 ∧ a ≠ 2) ↔ k = k0) := by
  unfold stepP
  cases e : firstB isGrey p.colours with
  | none => exact .inl rfl
  | some k0 =>
    obtain ⟨x, hx, hp, -⟩ := firstB_at e
    have hx1 : x = 1 := by simpa [isGrey] using hp
    subst hx1
    have hkl := (List.getElem?_eq_some_iff.1 hx).1
    refine .inr ⟨k0, hkl, fun k a b ha hb => ?_⟩
    obtain ⟨h1, h2, h3, -⟩ := paintM_iff.1 h
    have hka := (List.getElem?_eq_some_iff.1 ha).1
    have hcol := (h3 k a _ ha (List.getElem?_eq_getElem (by omega))).1
    have hg := greyL_at (refsAt p.store k0) ha
    simp only at hb
    by_cases ek : k = k0
    · subst ek
      rw [hx] at ha; injection ha with ha
      rw [List.getElem?_set_self (by rw [greyL_len]; exact hkl)] at hb
      injection hb with hb
      subst ha hb
      exact ⟨by omega, by simp⟩
    · rw [List.getElem?_set_ne (by omega), hg] at hb
      injection hb with hb
      subst hb
      split
      · next hh => exact ⟨by omega, ⟨fun h9 => by omega, fun h9 => absurd h9 ek⟩⟩
      · exact ⟨by omega, ⟨fun h9 => absurd h9.1 h9.2, fun h9 => absurd h9 ek⟩⟩
/-! ### FnPaintCommand -/
theorem canF_parts {h : HeapM} {o : CmdM} (hc : canF h o = true) : possO h o = true ∧ (o.op = 1 → freeAt h.cells ≠ 40) := by
  unfold canF at hc
  simp only [Bool.and_eq_true, Bool.not_eq_true', Bool.and_eq_false_iff, decide_eq_false_iff_not] at hc
  exact ⟨hc.1, fun e => by rcases hc.2 with h1 | h1; exact absurd e h1; exact h1⟩
theorem stepM_done {h : HeapM} {o : CmdM} (hr : (stepM h o).2 = true) : validM h = true ∧ cmdOk o = true ∧ possO h o = true ∧ stepM h o = (execM h o h.cells.length, true) := by
  rcases bool_ft (validM h && cmdOk o) with hb | hb
  · rw [stepM_inv hb] at hr; cases hr
  · have hb2 := Bool.and_eq_true_iff.1 hb
    rcases bool_ft (possO h o) with hp | hp
    · rw [stepM_not hb2.1 hb2.2 hp] at hr; cases hr
    · refine ⟨hb2.1, hb2.2, hp, stepM_poss hb2.1 hb2.2 hp fun e1 => ?_⟩
      rcases Nat.lt_or_ge h.cells.length 40 with h9 | h9
      · exact h9
      · rw [stepM_full hb2.1 hb2.2 e1 (by have := (validM_len hb2.1).1; omega)] at hr; cases hr
/-- The instruction with a free place, beside StepHeap. -/
theorem exec_view {h : HeapM} {o : CmdM} (hv : validM h = true) (ho : cmdOk o = true) (hc : canF h o = true) (hr : (stepM h o).2 = true) : sameViewM (execM h o (freeAt h.cells)) (stepM h o).1 = true := by
  obtain ⟨-, -, hp, e⟩ := stepM_done hr
  have hn := (canF_parts hc).2
  refine sameView_iff.2 ⟨valid_exec hv ho hp (freeAt_le _) (fun e1 => by have := hn e1; have := freeAt_le h.cells; have := (validM_len hv).1; omega), valid_step hv ho, ?_⟩
  rw [e]
  exact (Iso.refl hv).exec ho hp (freeTo_at h) (freeTo_len h)
theorem paintDo_cols {p : PaintM} {o : CmdM} (h : paintM p = true) {k : Nat} {a b : Int} (ha : p.colours[k]? = some a) (hb : (paintDo p o).colours[k]? = some b) : a ≤ b := by
  have hlt := (List.getElem?_eq_some_iff.1 ha).1
  have h1 : (colsP p o)[k]? = some a := by
    unfold colsP; split
    · rw [List.getElem?_append_left hlt]; exact ha
    · exact ha
  unfold paintDo at hb
  simp only at hb
  split at hb
  · rw [greyL_at _ h1] at hb
    injection hb with hb
    split at hb
    · next hh => omega
    · omega
  · rw [h1] at hb; injection hb with hb; omega
theorem law_PaintCommand {p : PaintM} {o : CmdM} (h : paintM p = true) (ho : cmdOk o = true) (hc : canF p.store o = true) : paintM (paintDo p o) = true ∧ (paintDo p o).active = p.active ∧ ((stepM p.store o).2 = true → sameViewM (paintDo p o).store (stepM p.store o).1 = true) ∧ (paintDo p o).colours.length = (execM p.store o (freeAt p.store.cells)).cells.length :=
  ⟨paintM_do h ho hc, rfl, fun hr => exec_view (paintM_parts h).1 ho hc hr, by
    have := colsP_len (paintM_parts h).2 o
    unfold paintDo
    simp only
    split
    · rw [greyL_len]; exact this
    · exact this⟩
/-! ### FnPaintFinish -/
def whiteL (cols : List Int) : List Bool := cols.map fun c => c == 0
theorem whiteL_at {cols : List Int} {k : Nat} : (whiteL cols).getD k false = true ↔ cols[k]? = some 0 := by
  unfold whiteL
  rw [List.getD, List.getElem?_map]
  cases e : cols[k]? with
  | none => simp
  | some c => simp
/-- Where nothing is grey, what can be reached is not white. -/
theorem black_reach {q : PaintM} (h : paintM q = true) (ha : q.active = true) (hd : (stepP q).2 = false) {k : Nat} (hk : rch q.store k) : q.colours[k]? = some 2 := by
  obtain ⟨h1, h2, h3, h4⟩ := paintM_iff.1 h
  rw [stepP_grey] at hd
  have hng : ∀ c ∈ q.colours, c ≠ 1 := fun c hc e => by
    unfold greyB at hd
    rw [Bool.eq_false_iff] at hd
    exact hd (List.any_eq_true.2 ⟨c, hc, by simp [e]⟩)
  have key : ∀ j, rch q.store j → q.colours[j]? ≠ some 0 → q.colours[j]? = some 2 := by
    intro j hj hn
    have hjl := rch_lt h1 hj
    have e := List.getElem?_eq_getElem (l := q.colours) (i := j) (by omega)
    have hc := (h3 j _ _ e (List.getElem?_eq_getElem hjl)).1
    have h5 := hng _ (List.mem_of_getElem? e)
    rw [e] at hn ⊢
    simp only [ne_eq, Option.some.injEq] at hn ⊢
    omega
  induction hk with
  | @start r hr ho =>
    have h0 : 0 ≤ r := by simpa [nonneg] using ho
    exact key _ (Rch.start hr ho) (h4 ha _ hr h0)
  | @next j r hj hr ho ih =>
    have h0 : 0 ≤ r := by simpa [nonneg] using ho
    have hjl := rch_lt h1 hj
    obtain ⟨c, hc⟩ : ∃ c, q.store.cells[j]? = some c := ⟨_, List.getElem?_eq_getElem hjl⟩
    refine key _ (Rch.next hj hr ho) ((h3 _ _ _ ih hc).2.2 rfl _ ?_ h0)
    rw [refsAt_of hc] at hr; exact hr
theorem finishP_on {p : PaintM} (ha : p.active = true) : finishP p = (⟨dropM p.store (whiteL (endP p).colours), List.replicate (endP p).colours.length 0, false⟩, (freedN p.store.cells (whiteL (endP p).colours) : Int)) := by
  unfold finishP whiteL; rw [if_pos ha, (endP_store p).1]
theorem finishP_off {p : PaintM} (ha : p.active = false) : finishP p = (p, 0) := by unfold finishP; rw [ha]; rfl
theorem whiteL_len (cols : List Int) : (whiteL cols).length = cols.length := by simp [whiteL]
theorem end_white {p : PaintM} (h : paintM p = true) (ha : p.active = true) {k : Nat} (hk : rch p.store k) : (whiteL (endP p).colours).getD k false = false := by
  obtain ⟨s1, s2, s3⟩ := endP_store p
  have := black_reach (endP_valid h) (s2.trans ha) (endP_final p) (k := k) (by rw [s1]; exact hk)
  rw [Bool.eq_false_iff]
  intro h2
  rw [whiteL_at, this] at h2
  injection h2 with h2
  cases h2
theorem finish_view {p : PaintM} (h : paintM p = true) : sameViewM (finishP p).1.store p.store = true ∧ (finishP p).1.active = false ∧ (finishP p).2 ≤ ((leakM p.store).length : Int) := by
  have hv := (paintM_parts h).1
  have hv2 := (paintM_parts (paintM_finish h)).1
  rcases bool_ft p.active with ha | ha
  · rw [finishP_off ha]
    exact ⟨sameView_iff.2 ⟨hv, hv, Iso.refl hv⟩, ha, by simp only; omega⟩
  · have hl : (whiteL (endP p).colours).length = p.store.cells.length := by rw [whiteL_len, (endP_store p).2.2]; exact (paintM_parts h).2
    rw [finishP_on ha] at hv2 ⊢
    refine ⟨sameView_iff.2 ⟨hv2, hv, (iso_drop hv (fun k hk => end_white h ha hk) hl).symm⟩, rfl, ?_⟩
    exact Int.ofNat_le.2 (freed_leak hv hl fun k hk => end_white h ha hk)
/-- Marking at once: exactly what can be reached becomes black. -/
def onlyRch (q : PaintM) : Prop := ∀ (k : Nat) (c : Int), q.colours[k]? = some c → c ≠ 0 → rch q.store k
theorem onlyRch_start {p : PaintM} (h : paintM p = true) (ha : p.active = false) : onlyRch (startP p) := by
  obtain ⟨h1, h2, h3, -⟩ := paintM_iff.1 h
  intro k c hc hn
  unfold startP at hc ⊢
  rw [ha] at hc ⊢
  simp only [Bool.false_eq_true, if_false] at hc ⊢
  have hkl : k < p.colours.length := by have := (List.getElem?_eq_some_iff.1 hc).1; rw [greyL_len] at this; exact this
  have e := List.getElem?_eq_getElem hkl
  have hz : p.colours[k] = 0 := by
    rcases Classical.em (p.colours[k] = 0) with h9 | h9
    · exact h9
    · have := ((h3 k _ _ e (List.getElem?_eq_getElem (by omega))).2.1 h9).2
      rw [ha] at this; cases this
  rw [greyL_at _ e, hz] at hc
  injection hc with hc
  split at hc
  · next hh =>
    have := Rch.start (rf := refsAt p.store) (ok := nonneg) hh.2 (by simp [nonneg])
    simpa using this
  · exact absurd hc.symm hn
theorem onlyRch_step {q : PaintM} (h : paintM q = true) (ho : onlyRch q) : onlyRch (stepP q).1 := by
  unfold stepP
  cases e : firstB isGrey q.colours with
  | none => exact ho
  | some k0 =>
    obtain ⟨x, hx, hp, -⟩ := firstB_at e
    have hx1 : x = 1 := by simpa [isGrey] using hp
    subst hx1
    have hr0 := ho k0 1 hx (by omega)
    intro k c hc hn
    simp only at hc ⊢
    by_cases ek : k = k0
    · rw [ek]; exact hr0
    · rw [List.getElem?_set_ne (by omega)] at hc
      have hkl : k < q.colours.length := by have := (List.getElem?_eq_some_iff.1 hc).1; rw [greyL_len] at this; exact this
      have e2 := List.getElem?_eq_getElem hkl
      rw [greyL_at _ e2] at hc
      injection hc with hc
      split at hc
      · next hh =>
        have := Rch.next (rf := refsAt q.store) (ok := nonneg) hr0 hh.2 (by simp [nonneg])
        simpa using this
      · exact ho k _ e2 (by rw [hc]; exact hn)
theorem onlyRch_end {p : PaintM} (h : paintM p = true) (ho : onlyRch p) : onlyRch (endP p) :=
  (endP_keeps (P := fun q => paintM q = true ∧ onlyRch q) (fun q hq => ⟨paintM_step hq.1, onlyRch_step hq.1 hq.2⟩) ⟨h, ho⟩).2
/-- PaintStart and PaintFinish at once free exactly what cannot be reached. -/
theorem fresh_finish {p : PaintM} (h : paintM p = true) (ha : p.active = false) : (finishP (startP p)).1.store = dropM p.store (nots (reachM p.store)) ∧ (finishP (startP p)).2 = ((leakM p.store).length : Int) := by
  have hs := paintM_start h
  obtain ⟨-, l2, l3, -, -⟩ := law_PaintStart h
  have hv := (paintM_parts h).1
  obtain ⟨s1, s2, s3⟩ := endP_store (startP p)
  have hO := onlyRch_end hs (onlyRch_start h ha)
  have hcl : (endP (startP p)).colours.length = p.store.cells.length := by rw [s3]; rw [← l3]; exact (paintM_parts hs).2
  have e : whiteL (endP (startP p)).colours = nots (reachM p.store) := by
    apply List.ext_getElem?
    intro k
    by_cases hk : k < p.store.cells.length
    · have h1 := List.getElem?_eq_getElem (l := (endP (startP p)).colours) (i := k) (by omega)
      have h2 := List.getElem?_eq_getElem (l := reachM p.store) (i := k) (by rw [reachM_len]; exact hk)
      have hw : (whiteL (endP (startP p)).colours)[k]? = some ((endP (startP p)).colours[k]'(by omega) == 0) := by unfold whiteL; rw [List.getElem?_map, h1]; rfl
      rw [hw, nots_at h2]
      have hi := reach_iff hv k
      rw [getD_of h2] at hi
      rcases bool_ft ((reachM p.store)[k]'(by rw [reachM_len]; exact hk)) with e2 | e2
      · rw [e2]
        congr 1
        rcases Classical.em ((endP (startP p)).colours[k]'(by omega) = 0) with h9 | h9
        · rw [h9]; rfl
        · have := hO k _ h1 h9
          rw [s1, l3] at this
          rw [e2] at hi; exact absurd (hi.2 this) (by simp)
      · rw [e2]
        congr 1
        have h5 := end_white hs l2 (k := k) (by rw [l3]; exact hi.1 e2)
        rw [Bool.eq_false_iff] at h5
        show ((endP (startP p)).colours[k]'(by omega) == 0) = false
        rw [Bool.eq_false_iff]
        intro h6
        exact h5 (whiteL_at.2 (by rw [h1]; congr 1; simpa using h6))
    · rw [List.getElem?_eq_none (by rw [whiteL_len]; omega), List.getElem?_eq_none (by rw [nots_len, reachM_len]; omega)]
  rw [finishP_on l2, e, l3]
  exact ⟨rfl, by rw [freed_reach hv]⟩
theorem law_PaintFinish {p : PaintM} (h : paintM p = true) : paintM (finishP p).1 = true ∧ (finishP p).1.active = false ∧ sameViewM (finishP p).1.store p.store = true ∧ (finishP p).2 ≤ ((leakM p.store).length : Int) ∧
    (usedCellsM (finishP (startP (finishP p).1)).1.store).1 = (usedCellsM (finishP (startP (finishP p).1)).1.store).2 ∧ (finishP (startP (finishP p).1)).2 = ((leakM (finishP p).1.store).length : Int) := by
  obtain ⟨v1, v2, v3⟩ := finish_view h
  have hf := paintM_finish h
  have hv := (paintM_parts hf).1
  obtain ⟨f1, f2⟩ := fresh_finish hf v2
  refine ⟨hf, v2, v1, v3, ?_, f2⟩
  rw [f1, ← swept hv]
  have hs := collectSweep_valid hv
  unfold usedCellsM
  rw [if_pos hs, swept_usedC hv, reach_count hs]
  have := (swept_iso hv).liveN hv hs
  simp only; omega
/-! ### FnPaintEarly, FnPaintSweep -/
theorem law_PaintEarly {p : PaintM} (h : paintM p = true) : finishP (stepP p).1 = finishP p := by
  rcases bool_ft (stepP p).2 with e | e
  · rw [stepP_no e]
  · rcases bool_ft p.active with ha | ha
    · exfalso
      obtain ⟨-, h2, h3, -⟩ := paintM_iff.1 h
      rw [stepP_grey] at e
      unfold greyB at e
      obtain ⟨c, hc, h1⟩ := List.any_eq_true.1 e
      obtain ⟨k, hk⟩ := List.getElem?_of_mem hc
      have hkl := (List.getElem?_eq_some_iff.1 hk).1
      have h1' : c = 1 := by simpa using h1
      have := ((h3 k c _ hk (List.getElem?_eq_getElem (by omega))).2.1 (by omega)).2
      rw [ha] at this; cases this
    · rw [finishP_on ha, finishP_on ((stepP_store p).2.1.trans ha), ← endP_step e, (stepP_store p).1]
theorem paint_white {h : HeapM} (hv : validM h = true) : paintM ⟨h, List.replicate h.cells.length 0, false⟩ = true := by
  refine paintM_iff.2 ⟨hv, by simp, fun k col c h1 h2 => ?_, fun e => by cases e⟩
  have : col = 0 := List.eq_of_mem_replicate (List.mem_of_getElem? h1)
  subst this
  exact ⟨by omega, fun e => absurd rfl e, fun e => by omega⟩
theorem law_PaintSweep {h : HeapM} (hv : validM h = true) : (finishP (startP ⟨h, List.replicate h.cells.length 0, false⟩)).2 = (collectSweepM h).2 ∧ (finishP (startP ⟨h, List.replicate h.cells.length 0, false⟩)).1.store = (collectSweepM h).1 := by
  obtain ⟨f1, f2⟩ := fresh_finish (paint_white hv) rfl
  rw [f1, f2, collectSweep_ok hv]
  exact ⟨by simp only [freed_reach hv], rfl⟩
/-! ### FnRunPaint -/
theorem iso_stepsP {p : PaintM} : ∀ n, (stepsP n p).store = p.store
  | 0 => rfl
  | n + 1 => (stepP_store _).1.trans (iso_stepsP n)
theorem iso_pre {p : PaintM} (h : paintM p = true) (n : Int) : Iso p.store (preP p n).store := by
  unfold preP
  split
  · exact (sameView_iff.1 (finish_view h).1).2.2.symm
  · rw [iso_stepsP]
    rw [(law_PaintStart h).2.2.1]
    exact Iso.refl (paintM_parts h).1
theorem finish_len {p : PaintM} (h : paintM p = true) : (finishP p).1.store.cells.length = p.store.cells.length := by
  rcases bool_ft p.active with ha | ha
  · rw [finishP_off ha]
  · rw [finishP_on ha]
    exact dropCs_len (by rw [whiteL_len, (endP_store p).2.2]; exact (paintM_parts h).2)
theorem pre_len {p : PaintM} (h : paintM p = true) (n : Int) : (preP p n).store.cells.length = p.store.cells.length := by
  unfold preP
  split
  · exact finish_len h
  · rw [iso_stepsP, (law_PaintStart h).2.2.1]
theorem runP_iso (s : List Int) : ∀ (l : List CmdM) (p : PaintM) (g : HeapM) (k : Nat), (∀ o ∈ l, cmdOk o = true) → paintM p = true → validM g = true → Iso p.store g → p.store.cells.length + l.length ≤ 40 → g.cells.length + l.length ≤ 40 → paintM (runP s p l k) = true ∧ Iso (runP s p l k).store (runFrom g l) := by
  intro l
  induction l with
  | nil => intro p g k _ hp _ hs _ _; exact ⟨hp, hs⟩
  | cons o l ih =>
    intro p g k hok hp hg hs hl hgl
    have ho := hok o (by simp)
    simp only [List.length_cons] at hl hgl
    have hq := paintM_pre hp ((s[k % s.length]?).getD 0)
    have hqi := iso_pre hp ((s[k % s.length]?).getD 0)
    have hql := pre_len hp ((s[k % s.length]?).getD 0)
    show paintM (runP s (paintCmdM (preP p ((s[k % s.length]?).getD 0)) o).1 l (k + 1)) = true ∧ Iso (runP s (paintCmdM (preP p ((s[k % s.length]?).getD 0)) o).1 l (k + 1)).store (runFrom (stepM g o).1 l)
    generalize preP p ((s[k % s.length]?).getD 0) = q at *
    have hsg := stepM_len g o
    have s1 : Iso q.store g := hqi.symm.trans hs
    have hfl := freeAt_le q.store.cells
    rcases bool_ft (canF q.store o) with hc | hc
    · have hpo : possO q.store o = false := by
        unfold canF at hc
        rcases bool_ft (possO q.store o) with h9 | h9
        · exact h9
        · rw [h9] at hc
          simp only [Bool.true_and, Bool.not_eq_false', Bool.and_eq_true, decide_eq_true_eq] at hc
          omega
      have e : (paintCmdM q o).1 = q := by unfold paintCmdM; rw [hq, ho, hc]; rfl
      rw [e]
      refine ih q _ _ (fun x hx => hok x (by simp [hx])) hq (valid_step hg ho) ?_ (by omega) (by omega)
      rw [stepM_not hg ho (by rw [← s1.poss]; exact hpo)]; exact s1
    · have e : (paintCmdM q o).1 = paintDo q o := by unfold paintCmdM; rw [hq, ho, hc]; rfl
      rw [e]
      have hpo := (canF_parts hc).1
      refine ih _ _ _ (fun x hx => hok x (by simp [hx])) (paintM_do hq ho hc) (valid_step hg ho) ?_ ?_ (by omega)
      · exact iso_next s1 hg ho (by omega) (fun _ => ⟨_, freeTo_at _, rfl⟩) (fun h' => by rw [hpo] at h'; cases h')
      · show (execM q.store o (freeAt q.store.cells)).cells.length + l.length ≤ 40
        rw [exec_len]; split <;> omega
theorem law_RunPaint {l : List CmdM} {s : List Int} (hr : (runPaintM l s).roots.length ≠ 0) : sameViewM (runPaintM l s) (runM l) = true := by
  unfold runPaintM at hr ⊢
  rcases bool_ft (cmdsOk l && scriptOk s) with hb | hb
  · rw [hb] at hr; exact absurd rfl hr
  · rw [if_pos hb]
    have hb2 := Bool.and_eq_true_iff.1 hb
    obtain ⟨h1, h2⟩ := cmdsOk_iff.1 hb2.1
    obtain ⟨a1, a2⟩ := runP_iso s l emptyP emptyM 0 h2 paintM_empty valid_empty (Iso.refl valid_empty) (by simpa [emptyP, emptyM] using h1) (by simpa [emptyM] using h1)
    obtain ⟨f1, -, -⟩ := finish_view a1
    obtain ⟨g1, g2, g3⟩ := sameView_iff.1 f1
    refine sameView_iff.2 ⟨g1, valid_run hb2.1, ?_⟩
    unfold runM; rw [if_pos hb2.1]
    exact g3.trans a2
end Go.Proofs.Ytbnokkdhanlhpaa

/- Plain laws: heaps with generations. -/
namespace Go.Proofs.Ytbnokkdhanlhpaa
set_option linter.unusedVariables false
set_option linter.unusedSimpArgs false
theorem youngRef_iff {old : List Bool} {r : Int} : youngRef old r = true ↔ 0 ≤ r ∧ old.getD r.toNat false = false := by
  unfold youngRef; simp
/-- What makes a heap with generations valid. -/
structure AgedI (p : TwoM) : Prop where
  hv : validM p.store = true
  xl : p.x.length = p.store.cells.length
  yl : p.y.length = p.store.cells.length
  old : ∀ k, p.x.getD k false = true → ∃ c, p.store.cells[k]? = some c ∧ c.used = true
  noted : ∀ k, p.y.getD k false = true → p.x.getD k false = true
  refs : ∀ k, p.x.getD k false = true → p.y.getD k false = false → ∀ r ∈ refsAt p.store k, 0 ≤ r → p.x.getD r.toNat false = true
theorem agedM_iff {p : TwoM} : agedM p = true ↔ AgedI p := by
  unfold agedM
  simp only [Bool.and_eq_true, decide_eq_true_eq, all_range]
  constructor
  · rintro ⟨⟨⟨h1, h2⟩, h3⟩, h4, h5⟩
    have inr : ∀ k, p.x.getD k false = true → k < p.store.cells.length := fun k hk => by
      rcases Nat.lt_or_ge k p.store.cells.length with h | h
      · exact h
      · rw [getD_len (by omega)] at hk; cases hk
    have inr2 : ∀ k, p.y.getD k false = true → k < p.store.cells.length := fun k hk => by
      rcases Nat.lt_or_ge k p.store.cells.length with h | h
      · exact h
      · rw [getD_len (by omega)] at hk; cases hk
    refine ⟨h1, h2, h3, fun k hk => ?_, fun k hk => ?_, fun k hk hn r hr h0 => ?_⟩
    · have h6 := h4 k (inr k hk)
      have hc := List.getElem?_eq_getElem (inr k hk)
      unfold agedOk at h6
      rw [hk, usedN_at hc] at h6
      simp at h6
      exact ⟨_, hc, h6⟩
    · have h6 := h4 k (inr2 k hk)
      unfold agedOk at h6
      rw [hk] at h6
      simp at h6
      simpa using h6.2
    · have h6 := h5 k (inr k hk)
      have hc := List.getElem?_eq_getElem (inr k hk)
      unfold agedRefs at h6
      rw [hk, hn, hc] at h6
      simp at h6
      rw [refsAt_of hc] at hr
      have h7 := h6 r hr
      rcases bool_ft (p.x.getD r.toNat false) with e | e
      · rw [Bool.eq_false_iff] at h7
        exact absurd (youngRef_iff.2 ⟨h0, e⟩) h7
      · exact e
  · rintro ⟨h1, h2, h3, h4, h5, h6⟩
    refine ⟨⟨⟨h1, h2⟩, h3⟩, fun k hk => ?_, fun k hk => ?_⟩
    · have hc := List.getElem?_eq_getElem hk
      unfold agedOk
      rw [usedN_at hc]
      have a := h4 k
      have b := h5 k
      rcases bool_ft (p.x.getD k false) with e | e <;> rcases bool_ft (p.y.getD k false) with e2 | e2
      · rw [e, e2]; rfl
      · rw [b e2] at e; cases e
      · obtain ⟨c, hc2, hu⟩ := a e
        rw [hc] at hc2; injection hc2 with hc2
        rw [e, e2, hc2, hu]; rfl
      · obtain ⟨c, hc2, hu⟩ := a e
        rw [hc] at hc2; injection hc2 with hc2
        rw [e, e2, hc2, hu]; rfl
    · have hc := List.getElem?_eq_getElem hk
      unfold agedRefs
      rw [hc]
      rcases bool_ft (p.x.getD k false) with e | e <;> rcases bool_ft (p.y.getD k false) with e2 | e2
      · rw [e, e2]; rfl
      · rw [e, e2]; rfl
      · rw [e, e2]
        simp only [Bool.not_false, Bool.and_self, Bool.not_true, Bool.false_or, Bool.not_eq_true', List.any_eq_false]
        intro r hr hy
        obtain ⟨h0, hf⟩ := youngRef_iff.1 hy
        rw [h6 k e e2 r (by rw [refsAt_of hc]; exact hr) h0] at hf; cases hf
      · rw [e, e2]; rfl
/-! ### FnAgedValid -/
theorem getD_rep (n k : Nat) : (List.replicate n false).getD k false = false := by
  rw [List.getD, List.getElem?_replicate]; split <;> rfl
theorem aged_fresh {h : HeapM} (hv : validM h = true) : agedM ⟨h, List.replicate h.cells.length false, List.replicate h.cells.length false⟩ = true :=
  agedM_iff.2 ⟨hv, by simp, by simp, fun k hk => (by rw [getD_rep] at hk; cases hk), fun k hk => (by rw [getD_rep] at hk; cases hk), fun k hk => (by rw [getD_rep] at hk; cases hk)⟩
theorem law_AgedValid {p : TwoM} (h : agedM p = true) (hx : p.x.length ≠ 0) : agedM ⟨p.store, List.replicate p.store.cells.length false, List.replicate p.store.cells.length false⟩ = true ∧ agedM ⟨p.store, List.replicate p.store.cells.length false, (List.replicate p.store.cells.length false).set 0 true⟩ = false := by
  have hi := agedM_iff.1 h
  refine ⟨aged_fresh hi.hv, ?_⟩
  rw [Bool.eq_false_iff]
  intro h2
  have h3 := (agedM_iff.1 h2).noted 0
  have e : ((List.replicate p.store.cells.length false).set 0 true).getD 0 false = true := getD_of (List.getElem?_set_self (by simp; have := hi.xl; omega))
  have := h3 e
  rw [getD_rep] at this; cases this
/-! ### FnStepAged -/
theorem getD_app {l : List Bool} {k : Nat} : (l ++ [false]).getD k false = l.getD k false := by
  rcases Nat.lt_trichotomy k l.length with h | h | h
  · rw [List.getD, List.getD, List.getElem?_append_left h]
  · subst h; rw [getD_len (l := l) (Nat.le_refl _), List.getD]; simp
  · rw [getD_len (by simp; omega), getD_len (by omega)]
theorem getD_setT {l : List Bool} {i k : Nat} (hi : i < l.length) : (l.set i true).getD k false = (if k = i then true else l.getD k false) := by
  rw [List.getD, List.getElem?_set]
  by_cases e : i = k
  · subst e; simp [hi]
  · rw [if_neg e, if_neg (fun h => e h.symm)]; rfl
theorem canF_roomG {h : HeapM} {o : CmdM} (hv : validM h = true) (hc : canF h o = true) : possO h o = true ∧ (o.op = 1 → freeAt h.cells < 40) := by
  obtain ⟨h1, h2⟩ := canF_parts hc
  exact ⟨h1, fun e => by have := h2 e; have := freeAt_le h.cells; have := (validM_len hv).1; omega⟩
theorem exec_used {h : HeapM} {o : CmdM} (ho : cmdOk o = true) {k : Nat} {c : CellM} (hc : h.cells[k]? = some c) (hu : c.used = true) {p : Nat} (hf : freeTo h p) : ∃ c', (execM h o p).cells[k]? = some c' ∧ c'.used = true := by
  have hkp : k ≠ p := fun e => by have := hf.2 c (e ▸ hc); rw [hu] at this; cases this
  obtain ⟨o1, o2, -⟩ := cmdOk_parts ho
  unfold execM
  split
  · exact ⟨c, put_old hc hkp, hu⟩
  · split
    · exact ⟨c, hc, hu⟩
    · split
      · exact ⟨_, setRef_at hc, by split <;> exact hu⟩
      · split
        · exact ⟨c, hc, hu⟩
        · split
          · exact ⟨c, hc, hu⟩
          · exact ⟨_, setData_at hc, by split <;> exact hu⟩
theorem agedM_do {p : TwoM} {o : CmdM} (h : agedM p = true) (ho : cmdOk o = true) (hc : canF p.store o = true) : agedM (agedDo p o) = true := by
  have hi := agedM_iff.1 h
  obtain ⟨hp, hroom⟩ := canF_roomG hi.hv hc
  have hfl := freeAt_le p.store.cells
  have hft := freeTo_at p.store
  have hv' : validM (execM p.store o (freeAt p.store.cells)) = true := valid_exec hi.hv ho hp hfl hroom
  have hel := exec_len p.store o (freeAt p.store.cells)
  have hx0 : p.x.getD (freeAt p.store.cells) false = false := by
    rcases bool_ft (p.x.getD (freeAt p.store.cells) false) with e | e
    · exact e
    · obtain ⟨c, hc1, hu⟩ := hi.old _ e
      have := hft.2 c hc1; rw [hu] at this; cases this
  have hold : ∀ k, p.x.getD k false = true → ∃ c, (execM p.store o (freeAt p.store.cells)).cells[k]? = some c ∧ c.used = true := fun k hk => by
    obtain ⟨c, hc1, hu⟩ := hi.old k hk
    exact exec_used ho hc1 hu hft
  -- references of old cells
  have hrefs : ∀ (y : List Bool), (∀ k, p.y.getD k false = true → y.getD k false = true) → (o.op = 3 → noteB p o = true → y.getD (rootAt p.store o.a).toNat false = true) → ∀ k, p.x.getD k false = true → y.getD k false = false → ∀ r ∈ refsAt (execM p.store o (freeAt p.store.cells)) k, 0 ≤ r → p.x.getD r.toNat false = true := by
    intro y hy1 hy2 k hk hyk r hr h0
    have hyp : p.y.getD k false = false := by
      rcases bool_ft (p.y.getD k false) with e | e
      · exact e
      · rw [hy1 k e] at hyk; cases hyk
    obtain ⟨c, hc1, hu⟩ := hi.old k hk
    have hbase := hi.refs k hk hyp
    rw [refsAt_of hc1] at hbase
    have hkp : k ≠ freeAt p.store.cells := fun e => by have := hft.2 c (e ▸ hc1); rw [hu] at this; cases this
    obtain ⟨c', hc', -⟩ := hold k hk
    rw [refsAt_of hc'] at hr
    rcases exec_cells hfl hc' with ⟨-, h2, -⟩ | ⟨c2, hc2, -, -, h2⟩
    · exact absurd h2 hkp
    · rw [hc1] at hc2; injection hc2 with hc2; subst hc2
      rcases h2 r hr with h3 | ⟨e3, rfl⟩
      · exact hbase r h3 h0
      · by_cases ek : k = (rootAt p.store o.a).toNat
        · rcases bool_ft (p.x.getD (rootAt p.store o.b).toNat false) with e | e
          · have hn : noteB p o = true := by unfold noteB; rw [← ek, hk]; simp [youngRef_iff.2 ⟨h0, e⟩]
            rw [ek, hy2 e3 hn] at hyk; cases hyk
          · exact e
        · have e5 : (execM p.store o (freeAt p.store.cells)).cells[k]? = some c := by
            unfold execM
            rw [if_neg (by omega), if_neg (by omega), if_pos e3]
            have := setRef_at (j := o.c.toNat) (r := rootAt p.store o.b) (k := (rootAt p.store o.a).toNat) hc1
            rw [if_neg ek] at this; exact this
          rw [e5] at hc'; injection hc' with hc'; subst hc'
          exact hbase _ hr h0
  unfold agedDo
  rcases bool_ft (growB p o) with hg | hg
  · rw [if_neg (by rw [hg]; simp)]
    have hlen : (execM p.store o (freeAt p.store.cells)).cells.length = p.store.cells.length := by
      rw [hel, if_neg]
      intro ⟨e1, e2⟩
      unfold growB at hg
      simp [e1, e2] at hg
    have hyl : (noteM p o).length = p.y.length := by unfold noteM; split <;> simp
    refine agedM_iff.2 ⟨hv', by rw [hlen]; exact hi.xl, by rw [hlen, ← hi.yl]; exact hyl, hold, fun k hk => ?_, ?_⟩
    · have hk2 : (noteM p o).getD k false = true := hk
      unfold noteM at hk2
      split at hk2
      · next hh =>
        have hnb := hh.2
        unfold noteB at hnb
        simp only [Bool.and_eq_true] at hnb
        obtain ⟨c, hc1, -⟩ := hi.old _ hnb.1
        rw [getD_setT (by have := (List.getElem?_eq_some_iff.1 hc1).1; have := hi.yl; omega)] at hk2
        split at hk2
        · next e => rw [e]; exact hnb.1
        · exact hi.noted k hk2
      · exact hi.noted k hk2
    · refine hrefs _ (fun k hk => ?_) (fun e3 hn => ?_)
      · show (noteM p o).getD k false = true
        unfold noteM
        split
        · next hh =>
          have hnb := hh.2
          unfold noteB at hnb
          simp only [Bool.and_eq_true] at hnb
          obtain ⟨c, hc1, -⟩ := hi.old _ hnb.1
          rw [getD_setT (by have := (List.getElem?_eq_some_iff.1 hc1).1; have := hi.yl; omega)]
          split
          · rfl
          · exact hk
        · exact hk
      · show (noteM p o).getD _ false = true
        unfold noteM
        rw [if_pos ⟨e3, hn⟩]
        unfold noteB at hn
        simp only [Bool.and_eq_true] at hn
        obtain ⟨c, hc1, -⟩ := hi.old _ hn.1
        rw [getD_setT (by have := (List.getElem?_eq_some_iff.1 hc1).1; have := hi.yl; omega), if_pos rfl]
  · rw [if_pos hg]
    unfold growB at hg
    simp only [Bool.and_eq_true, decide_eq_true_eq] at hg
    have hlen : (execM p.store o (freeAt p.store.cells)).cells.length = p.store.cells.length + 1 := by rw [hel, if_pos hg]
    refine agedM_iff.2 ⟨hv', by rw [hlen, ← hi.xl]; simp, by rw [hlen, ← hi.yl]; simp, fun k hk => ?_, fun k hk => ?_, fun k hk hn r hr h0 => ?_⟩
    · have hk2 : (p.x ++ [false]).getD k false = true := hk
      rw [getD_app] at hk2; exact hold k hk2
    · have hk2 : (p.y ++ [false]).getD k false = true := hk
      show (p.x ++ [false]).getD k false = true
      rw [getD_app] at hk2 ⊢; exact hi.noted k hk2
    · have hk2 : (p.x ++ [false]).getD k false = true := hk
      have hn2 : (p.y ++ [false]).getD k false = false := hn
      show (p.x ++ [false]).getD r.toNat false = true
      rw [getD_app] at hk2 hn2 ⊢
      exact hrefs p.y (fun k hk => hk) (fun e3 => by omega) k hk2 hn2 r hr h0
theorem agedDo_store (p : TwoM) (o : CmdM) : (agedDo p o).store = execM p.store o (freeAt p.store.cells) := by unfold agedDo; split <;> rfl
theorem agedDo_old {p : TwoM} {o : CmdM} {k : Nat} {a : Bool} (ha : p.x[k]? = some a) : (agedDo p o).x[k]? = some a := by
  unfold agedDo; split
  · have hlt := (List.getElem?_eq_some_iff.1 ha).1
    show (p.x ++ [false])[k]? = _
    rw [List.getElem?_append_left hlt]; exact ha
  · exact ha
theorem law_StepAged {p : TwoM} {o : CmdM} (h : agedM p = true) (ho : cmdOk o = true) (hc : canF p.store o = true) : agedM (agedDo p o) = true ∧ ((stepM p.store o).2 = true → sameViewM (agedDo p o).store (stepM p.store o).1 = true) :=
  ⟨agedM_do h ho hc, fun hr => by rw [agedDo_store]; exact exec_view (agedM_iff.1 h).hv ho hc hr⟩
/-! ### FnCollectYoung -/
theorem youngL_iff {p : TwoM} (hi : AgedI p) (k : Nat) : (youngL p).getD k false = true ↔ Rch (refsAt p.store) (youngRef p.x) (fromM p p.store.cells.length) k := by
  by_cases hk : k < p.store.cells.length
  · exact rchL_at hk
  · constructor
    · intro h2; rw [getD_len (by unfold youngL; rw [rchL_len]; omega)] at h2; cases h2
    · intro h2
      exfalso
      have key : ∀ r : Int, leadsM p.store.cells r = true → youngRef p.x r = true → r.toNat < p.store.cells.length := fun r hr hy => by
        have := leadsM_lt hr; have := (youngRef_iff.1 hy).1; omega
      cases h2 with
      | start hr ho =>
        refine hk (key _ ?_ ho)
        unfold fromM at hr
        rcases List.mem_append.1 hr with hr | hr
        · exact (validM_leads hi.hv).2 _ hr
        · obtain ⟨j, -, hr⟩ := List.mem_flatMap.1 hr
          exact refsAt_leads hi.hv j _ hr
      | next _ hr ho => exact hk (key _ (refsAt_leads hi.hv _ _ hr) ho)
theorem keep_iff {p : TwoM} (hi : AgedI p) (k : Nat) : (keepM p).getD k false = true ↔ p.x.getD k false = true ∨ Rch (refsAt p.store) (youngRef p.x) (fromM p p.store.cells.length) k := by
  by_cases hk : k < p.store.cells.length
  · rw [keepM_at hi.xl hk, Bool.or_eq_true, youngL_iff hi]
  · constructor
    · intro h2; rw [getD_len (by rw [keepM_len hi.xl]; omega)] at h2; cases h2
    · intro h2
      exfalso
      rcases h2 with h2 | h2
      · rw [getD_len (by rw [hi.xl]; omega)] at h2; cases h2
      · have := (youngL_iff hi k).2 h2
        rw [getD_len (by unfold youngL; rw [rchL_len]; omega)] at this; cases this
theorem keep_used {p : TwoM} (hi : AgedI p) {k : Nat} (hk : (keepM p).getD k false = true) : ∃ c, p.store.cells[k]? = some c ∧ c.used = true := by
  rcases (keep_iff hi k).1 hk with h1 | h1
  · exact hi.old k h1
  · have key : ∀ r : Int, leadsM p.store.cells r = true → youngRef p.x r = true → ∃ c, p.store.cells[r.toNat]? = some c ∧ c.used = true := fun r hr hy => valid_used hr (youngRef_iff.1 hy).1
    cases h1 with
    | start hr ho =>
      refine key _ ?_ ho
      unfold fromM at hr
      rcases List.mem_append.1 hr with hr | hr
      · exact (validM_leads hi.hv).2 _ hr
      · obtain ⟨j, -, hr⟩ := List.mem_flatMap.1 hr
        exact refsAt_leads hi.hv j _ hr
    | next _ hr ho => exact key _ (refsAt_leads hi.hv _ _ hr) ho
/-- What a kept cell refers to is kept. -/
theorem keep_refs {p : TwoM} (hi : AgedI p) {k : Nat} (hk : (keepM p).getD k false = true) {r : Int} (hr : r ∈ refsAt p.store k) (h0 : 0 ≤ r) : (keepM p).getD r.toNat false = true := by
  rw [keep_iff hi]
  rcases bool_ft (p.x.getD r.toNat false) with e | e
  · have hy : youngRef p.x r = true := youngRef_iff.2 ⟨h0, e⟩
    refine .inr ?_
    rcases (keep_iff hi k).1 hk with h1 | h1
    · rcases bool_ft (p.y.getD k false) with e2 | e2
      · rw [hi.refs k h1 e2 r hr h0] at e; cases e
      · refine .start ?_ hy
        unfold fromM
        refine List.mem_append.2 (.inr (List.mem_flatMap.2 ⟨k, ?_, hr⟩))
        obtain ⟨c, hc, -⟩ := hi.old k h1
        simp only [List.mem_filter, List.mem_range]
        exact ⟨(List.getElem?_eq_some_iff.1 hc).1, e2⟩
    · exact .next h1 hr hy
  · exact .inl e
theorem keep_root {p : TwoM} (hi : AgedI p) {r : Int} (hr : r ∈ p.store.roots) (h0 : 0 ≤ r) : (keepM p).getD r.toNat false = true := by
  rw [keep_iff hi]
  rcases bool_ft (p.x.getD r.toNat false) with e | e
  · exact .inr (.start (by unfold fromM; exact List.mem_append.2 (.inl hr)) (youngRef_iff.2 ⟨h0, e⟩))
  · exact .inl e
theorem keep_reach {p : TwoM} (hi : AgedI p) {k : Nat} (hk : rch p.store k) : (keepM p).getD k false = true := by
  induction hk with
  | start hr ho => exact keep_root hi hr (by simpa [nonneg] using ho)
  | next _ hr ho ih => exact keep_refs hi ih hr (by simpa [nonneg] using ho)
theorem keep_out {p : TwoM} (hi : AgedI p) : outB p.store (keepM p) = false := by
  unfold outB
  rw [Bool.or_eq_false_iff, List.any_eq_false, List.any_eq_false]
  have key : ∀ r : Int, (0 ≤ r → (keepM p).getD r.toNat false = true) → ¬ outRef p.store (keepM p) r = true := fun r hr ho => by
    unfold outRef at ho
    simp only [Bool.and_eq_true, decide_eq_true_eq, Bool.not_eq_true'] at ho
    rw [hr ho.1] at ho; cases ho.2.2
  refine ⟨fun r hr => key r (keep_root hi hr), fun k hk ho => ?_⟩
  unfold outAt at ho
  simp only [Bool.and_eq_true] at ho
  obtain ⟨r, hr, h2⟩ := List.any_eq_true.1 ho.2
  exact key r (keep_refs hi ho.1 hr) h2
theorem dropK_at {h : HeapM} {marks : List Bool} (hl : marks.length = h.cells.length) {k : Nat} {c : CellM} (hc : h.cells[k]? = some c) : (dropM h (nots marks)).cells[k]? = some (if marks.getD k false then c else freeCell) := by
  have hk := (List.getElem?_eq_some_iff.1 hc).1
  have hm := List.getElem?_eq_getElem (l := marks) (i := k) (by omega)
  have := drop_at hc (nots_at hm)
  show (dropCs h.cells (nots marks))[k]? = _
  rw [this, getD_of hm]
  cases marks[k]'(by omega) <;> rfl
/-- Cells marked, closed under references: those that are kept are exactly the used ones, and old. -/
theorem aged_marks {h : HeapM} (hv : validM h = true) {marks : List Bool} (hl : marks.length = h.cells.length) (hu : ∀ k, marks.getD k false = true → ∃ c, h.cells[k]? = some c ∧ c.used = true) (hr : ∀ k, marks.getD k false = true → ∀ r ∈ refsAt h k, 0 ≤ r → marks.getD r.toNat false = true) (ho : outB h marks = false) :
    agedM ⟨dropM h (nots marks), marks, List.replicate h.cells.length false⟩ = true ∧ ∀ (k : Nat) (c : CellM), (dropM h (nots marks)).cells[k]? = some c → c.used = marks.getD k false := by
  have hdl : (dropM h (nots marks)).cells.length = h.cells.length := dropCs_len (by rw [nots_len, hl])
  have hv2 : validM (dropM h (nots marks)) = true := by rw [sweep_out hv hl, ho]; rfl
  refine ⟨agedM_iff.2 ⟨hv2, by rw [hdl]; exact hl, by rw [hdl]; simp, fun k hk => ?_, fun k hk => (by rw [getD_rep] at hk; cases hk), fun k hk _ r hrm h0 => ?_⟩, fun k c hc => ?_⟩
  · obtain ⟨c, hc, hcu⟩ := hu k hk
    refine ⟨c, ?_, hcu⟩
    have := dropK_at hl hc
    rw [show marks.getD k false = true from hk, if_pos rfl] at this; exact this
  · rw [drop_refs hl, if_pos hk] at hrm
    exact hr k hk r hrm h0
  · have hk := (List.getElem?_eq_some_iff.1 hc).1
    rw [hdl] at hk
    have hc0 := List.getElem?_eq_getElem (l := h.cells) (i := k) hk
    rw [dropK_at hl hc0] at hc
    injection hc with hc
    rcases bool_ft (marks.getD k false) with e | e
    · rw [e] at hc ⊢; rw [← hc]; rfl
    · rw [e] at hc ⊢
      obtain ⟨c2, hc2, hu2⟩ := hu k e
      rw [hc0] at hc2; injection hc2 with hc2
      rw [← hc, if_pos rfl, hc2]; exact hu2
theorem young_is {p : TwoM} (h : agedM p = true) : collectYoungM p = (⟨dropM p.store (nots (keepM p)), keepM p, List.replicate p.store.cells.length false⟩, (freedN p.store.cells (nots (keepM p)) : Int)) := by unfold collectYoungM; rw [if_pos h]
theorem law_CollectYoung {p : TwoM} (h : agedM p = true) : agedM (collectYoungM p).1 = true ∧ (∀ (k : Nat) (c : CellM), (collectYoungM p).1.store.cells[k]? = some c → c.used = (collectYoungM p).1.x.getD k false) ∧ sameViewM (collectYoungM p).1.store p.store = true ∧ (collectYoungM p).2 ≤ ((leakM p.store).length : Int) ∧ (collectYoungM p).1.x.length = p.x.length ∧ (collectYoungM p).1.y = List.replicate p.store.cells.length false ∧ (collectYoungM p).1.store.cells.length = p.store.cells.length := by
  have hi := agedM_iff.1 h
  have hkl := keepM_len hi.xl
  obtain ⟨a1, a2⟩ := aged_marks hi.hv hkl (fun k => keep_used hi) (fun k hk r hr h0 => keep_refs hi hk hr h0) (keep_out hi)
  have hd : ∀ k, rch p.store k → (nots (keepM p)).getD k false = false := fun k hk => by
    rw [nots_getD (by rw [hkl]; exact rch_lt hi.hv hk), keep_reach hi hk]; rfl
  have hnl : (nots (keepM p)).length = p.store.cells.length := by rw [nots_len, hkl]
  rw [young_is h]
  exact ⟨a1, a2, sameView_iff.2 ⟨(agedM_iff.1 a1).hv, hi.hv, (iso_drop hi.hv hd hnl).symm⟩, Int.ofNat_le.2 (freed_leak hi.hv hnl hd), by rw [hi.xl]; exact hkl, rfl, dropCs_len hnl⟩
/-! ### FnCollectAged -/
theorem aged_is {p : TwoM} (h : agedM p = true) : collectAgedM p = (⟨dropM p.store (nots (reachM p.store)), reachM p.store, List.replicate p.store.cells.length false⟩, (freedN p.store.cells (nots (reachM p.store)) : Int)) := by
  unfold collectAgedM
  rw [if_pos h, collectSweep_ok (agedM_iff.1 h).hv]
theorem swept_leak {h : HeapM} (hv : validM h = true) : leakM (dropM h (nots (reachM h))) = [] := by
  have hv2 := collectSweep_valid hv
  have e := swept_reach hv
  have hu := fun k c => swept_used (k := k) (c := c) hv
  rw [swept hv] at hv2 e hu
  unfold leakM
  rw [if_pos hv2, e]
  have : (List.range (dropM h (nots (reachM h))).cells.length).filter (leakB (dropM h (nots (reachM h))) (reachM h)) = [] := by
    rw [List.filter_eq_nil_iff]
    intro k hk
    have hk2 : k < (dropM h (nots (reachM h))).cells.length := by simpa using hk
    have hc := List.getElem?_eq_getElem hk2
    unfold leakB
    rw [usedN_at hc, hu k _ hc]
    cases (reachM h).getD k false <;> simp
  rw [this]; rfl
theorem law_CollectAged {p : TwoM} (h : agedM p = true) : agedM (collectAgedM p).1 = true ∧ sameViewM (collectAgedM p).1.store p.store = true ∧ leakM (collectAgedM p).1.store = [] ∧ (collectYoungM p).2 ≤ (collectAgedM p).2 ∧ (collectAgedM p).2 = ((leakM p.store).length : Int) := by
  have hi := agedM_iff.1 h
  have hy := (law_CollectYoung h).2.2.2.1
  have e : (collectAgedM p).2 = ((leakM p.store).length : Int) := by rw [aged_is h]; simp only [freed_reach hi.hv]
  rw [e]
  rw [aged_is h]
  obtain ⟨a1, -⟩ := aged_marks hi.hv (reachM_len p.store) (fun k hk => reach_leads hi.hv ((reach_iff hi.hv k).1 hk)) (fun k hk r hr h0 => by
    rw [reach_iff hi.hv] at hk ⊢
    exact .next hk hr (by simp [nonneg, h0])) (reach_out hi.hv)
  refine ⟨a1, sameView_iff.2 ⟨(agedM_iff.1 a1).hv, hi.hv, ?_⟩, swept_leak hi.hv, hy, rfl⟩
  have := swept_iso hi.hv
  rw [swept hi.hv] at this
  exact this.symm
/-! ### FnRunAged, FnAgedFull -/
theorem aged_empty : agedM emptyT = true := by decide
theorem runAged_iso {l : List CmdM} {every : Int} (hl : cmdsOk l = true) : ∀ k, k ≤ l.length → agedM (runAgedN every l k) = true ∧ Iso (runAgedN every l k).store (runFrom emptyM (l.take k)) ∧ (runAgedN every l k).store.cells.length ≤ k := by
  obtain ⟨h1, h2⟩ := cmdsOk_iff.1 hl
  intro k
  induction k with
  | zero => intro _; exact ⟨aged_empty, Iso.refl valid_empty, by simp [runAgedN, emptyT, emptyM]⟩
  | succ k ih =>
    intro hk
    obtain ⟨ha, hs, hn⟩ := ih (by omega)
    have hok := List.getElem?_eq_getElem (l := l) (i := k) (by omega)
    rw [runAgedN_succ hok, runFrom_snoc hok]
    generalize hoo : l[k]'(by omega) = o at hok ⊢
    have ho := h2 o (List.mem_of_getElem? hok)
    have hg : validM (runFrom emptyM (l.take k)) = true := valid_runFrom valid_empty fun x hx => h2 x (List.mem_of_mem_take hx)
    have hgl := runFrom_len (l.take k) emptyM
    have hgl2 : (runFrom emptyM (l.take k)).cells.length < 40 := by simp only [emptyM, List.length_nil, List.length_take] at hgl ⊢; omega
    generalize runFrom emptyM (l.take k) = g at *
    generalize runAgedN every l k = q at *
    have hi := agedM_iff.1 ha
    -- the instruction
    have step : agedM (agedCmdM q o).1 = true ∧ Iso (agedCmdM q o).1.store (stepM g o).1 ∧ (agedCmdM q o).1.store.cells.length ≤ k + 1 := by
      have hfl := freeAt_le q.store.cells
      rcases bool_ft (canF q.store o) with hc | hc
      · have hpo : possO q.store o = false := by
          unfold canF at hc
          rcases bool_ft (possO q.store o) with h9 | h9
          · exact h9
          · rw [h9] at hc
            simp only [Bool.true_and, Bool.not_eq_false', Bool.and_eq_true, decide_eq_true_eq] at hc
            omega
        have e : (agedCmdM q o).1 = q := by unfold agedCmdM; rw [ha, ho, hc]; rfl
        rw [e, stepM_not hg ho (by rw [← hs.poss]; exact hpo)]
        exact ⟨ha, hs, by omega⟩
      · have e : (agedCmdM q o).1 = agedDo q o := by unfold agedCmdM; rw [ha, ho, hc]; rfl
        have hpo := (canF_parts hc).1
        rw [e, agedDo_store]
        refine ⟨agedM_do ha ho hc, iso_next hs hg ho hgl2 (fun _ => ⟨_, freeTo_at _, rfl⟩) (fun h' => by rw [hpo] at h'; cases h'), ?_⟩
        rw [exec_len]; split <;> omega
    unfold agedTick
    split
    · obtain ⟨y1, -, y3, -, -, -, y7⟩ := law_CollectYoung step.1
      exact ⟨y1, (sameView_iff.1 y3).2.2.trans step.2.1, by rw [y7]; exact step.2.2⟩
    · exact step
theorem runAged_is {l : List CmdM} {every : Int} (hb : (cmdsOk l && inB 1 every 40) = true) : runAgedM l every = runAgedN every l l.length := by unfold runAgedM; rw [if_pos hb]
theorem law_RunAged {l : List CmdM} {every : Int} (hb : (cmdsOk l && inB 1 every 40) = true) : agedM (runAgedM l every) = true ∧ sameViewM (runAgedM l every).store (runM l) = true := by
  have hb2 := Bool.and_eq_true_iff.1 hb
  obtain ⟨h1, h2, h3⟩ := runAged_iso (every := every) hb2.1 l.length (Nat.le_refl _)
  rw [runAged_is hb]
  rw [List.take_length] at h2
  refine ⟨h1, sameView_iff.2 ⟨(agedM_iff.1 h1).hv, valid_run hb2.1, ?_⟩⟩
  unfold runM; rw [if_pos hb2.1]; exact h2
theorem law_AgedFull {l : List CmdM} {every : Int} (hr : (runAgedM l every).store.roots.length ≠ 0) : (usedCellsM (collectAgedM (runAgedM l every)).1.store).1 = (usedCellsM (runM l)).2 := by
  rcases bool_ft (cmdsOk l && inB 1 every 40) with hb | hb
  · unfold runAgedM at hr; rw [hb] at hr; exact absurd rfl hr
  · obtain ⟨h1, h2⟩ := law_RunAged hb
    obtain ⟨v1, v2, s⟩ := sameView_iff.1 h2
    have hs := collectSweep_valid v1
    rw [aged_is h1]
    show (usedCellsM (dropM _ (nots (reachM _)))).1 = _
    rw [← swept v1]
    unfold usedCellsM
    rw [if_pos hs, if_pos v2, swept_usedC v1, reach_count v2, s.liveN v1 v2]
end Go.Proofs.Ytbnokkdhanlhpaa
