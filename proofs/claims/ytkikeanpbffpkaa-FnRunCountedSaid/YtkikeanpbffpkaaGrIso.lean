/- Texts of one family, one behind the other: Iso, View, LawH, LawS, LawP, LawG. -/
import Derived.Test.YtkikeanpbffpkaaGrData
/- Heaps of which a program sees the same: cells that belong together, and what instructions do to them. -/
namespace Go.Proofs.Ytkikeanpbffpkaa
set_option linter.unusedVariables false
set_option linter.unusedSimpArgs false
/-- Two lists whose elements belong together. -/
inductive All2 {α β : Type} (R : α → β → Prop) : List α → List β → Prop
  | nil : All2 R [] []
  | cons {a : α} {b : β} {as : List α} {bs : List β} : R a b → All2 R as bs → All2 R (a :: as) (b :: bs)
theorem All2.len {α β : Type} {R : α → β → Prop} {as : List α} {bs : List β} (h : All2 R as bs) : as.length = bs.length := by
  induction h with
  | nil => rfl
  | cons _ _ ih => simp [ih]
theorem All2.at_ {α β : Type} {R : α → β → Prop} {as : List α} {bs : List β} (h : All2 R as bs) : ∀ {i : Nat} {a : α}, as[i]? = some a → ∃ b, bs[i]? = some b ∧ R a b := by
  induction h with
  | nil => intro i a h; simp at h
  | cons hr _ ih =>
    intro i a h
    cases i with
    | zero => simp at h; subst h; exact ⟨_, by simp, hr⟩
    | succ i => obtain ⟨b, hb, hr⟩ := ih (by simpa using h); exact ⟨b, by simpa using hb, hr⟩
theorem All2.of_at {α β : Type} {R : α → β → Prop} : ∀ {as : List α} {bs : List β}, as.length = bs.length → (∀ (i : Nat) (a : α) (b : β), as[i]? = some a → bs[i]? = some b → R a b) → All2 R as bs
  | [], [], _, _ => .nil
  | [], b :: bs, h, _ => by simp at h
  | a :: as, [], h, _ => by simp at h
  | a :: as, b :: bs, h, hr => .cons (hr 0 a b (by simp) (by simp)) (All2.of_at (by simpa using h) fun i x y hx hy => hr (i + 1) x y (by simpa using hx) (by simpa using hy))
theorem All2.imp {α β : Type} {R S : α → β → Prop} {as : List α} {bs : List β} (h : All2 R as bs) (hi : ∀ a b, R a b → S a b) : All2 S as bs := by
  induction h with
  | nil => exact .nil
  | cons hr _ ih => exact .cons (hi _ _ hr) ih
theorem All2.imp_mem {α β : Type} {R S : α → β → Prop} {as : List α} {bs : List β} (h : All2 R as bs) : (∀ a ∈ as, ∀ b ∈ bs, R a b → S a b) → All2 S as bs := by
  induction h with
  | nil => intro _; exact .nil
  | cons hr _ ih => intro hi; exact .cons (hi _ (by simp) _ (by simp) hr) (ih fun a ha b hb => hi a (by simp [ha]) b (by simp [hb]))
theorem All2.flip {α β : Type} {R : α → β → Prop} {as : List α} {bs : List β} (h : All2 R as bs) : All2 (fun b a => R a b) bs as := by
  induction h with
  | nil => exact .nil
  | cons hr _ ih => exact .cons hr ih
theorem All2.comp {α β γ : Type} {R : α → β → Prop} {S : β → γ → Prop} {as : List α} {bs : List β} (h : All2 R as bs) : ∀ {cs : List γ}, All2 S bs cs → All2 (fun a c => ∃ b, R a b ∧ S b c) as cs := by
  induction h with
  | nil => intro cs h; cases h; exact .nil
  | cons hr _ ih => intro cs h; cases h with | cons hs hl => exact .cons ⟨_, hr, hs⟩ (ih hl)
theorem All2.set {α β : Type} {R : α → β → Prop} {as : List α} {bs : List β} (h : All2 R as bs) {a : α} {b : β} (hr : R a b) : ∀ k, All2 R (as.set k a) (bs.set k b) := by
  induction h with
  | nil => intro k; exact .nil
  | cons hr2 hl ih =>
    intro k
    cases k with
    | zero => exact .cons hr hl
    | succ k => exact .cons hr2 (ih k)
theorem All2.append {α β : Type} {R : α → β → Prop} {as : List α} {bs : List β} (h : All2 R as bs) {cs : List α} {ds : List β} (h2 : All2 R cs ds) : All2 R (as ++ cs) (bs ++ ds) := by
  induction h with
  | nil => exact h2
  | cons hr _ ih => exact .cons hr ih
theorem All2.map_eq {α β γ : Type} {R : α → β → Prop} {f : α → γ} {g : β → γ} {as : List α} {bs : List β} (h : All2 R as bs) (hf : ∀ a b, R a b → f a = g b) : as.map f = bs.map g := by
  induction h with
  | nil => rfl
  | cons hr _ ih => simp [hf _ _ hr, ih]
theorem All2.of_map {α β γ : Type} {f : α → γ} {g : β → γ} : ∀ {as : List α} {bs : List β}, as.map f = bs.map g → All2 (fun a b => f a = g b) as bs
  | [], [], _ => .nil
  | [], b :: bs, h => by simp at h
  | a :: as, [], h => by simp at h
  | a :: as, b :: bs, h => by
    simp only [List.map_cons, List.cons.injEq] at h
    exact .cons h.1 (All2.of_map h.2)
theorem All2.self {α : Type} {R : α → α → Prop} {as : List α} (h : ∀ a ∈ as, R a a) : All2 R as as := All2.of_at rfl fun i a b ha hb => by
  rw [ha] at hb; injection hb with hb; subst hb; exact h a (List.mem_of_getElem? ha)
/-- Two references that belong together: none, or cells that belong together. -/
def relR (R : Nat → Nat → Prop) (r r' : Int) : Prop := (r = -1 ∧ r' = -1) ∨ (0 ≤ r ∧ 0 ≤ r' ∧ R r.toNat r'.toNat)
/-- Cells of two heaps belong together, one to one, and so do their references. -/
structure Sim (R : Nat → Nat → Prop) (h h' : HeapM) : Prop where
  fn : ∀ {a b b' : Nat}, R a b → R a b' → b = b'
  inj : ∀ {a a' b : Nat}, R a b → R a' b → a = a'
  cell : ∀ {k k' : Nat}, R k k' → ∃ d rs rs', h.cells[k]? = some ⟨true, d, rs⟩ ∧ h'.cells[k']? = some ⟨true, d, rs'⟩ ∧ All2 (relR R) rs rs'
  roots : All2 (relR R) h.roots h'.roots
/-- A program sees the same of both heaps. -/
def Iso (h h' : HeapM) : Prop := ∃ R, Sim R h h'
theorem relR_flip {R : Nat → Nat → Prop} {r r' : Int} (h : relR R r r') : relR (fun a b => R b a) r' r := by
  rcases h with ⟨h1, h2⟩ | ⟨h1, h2, h3⟩
  · exact .inl ⟨h2, h1⟩
  · exact .inr ⟨h2, h1, h3⟩
theorem relR_comp {R S : Nat → Nat → Prop} {r s t : Int} (h : relR R r s) (h2 : relR S s t) : relR (fun a c => ∃ b, R a b ∧ S b c) r t := by
  rcases h with ⟨h1, h3⟩ | ⟨h1, h3, h4⟩ <;> rcases h2 with ⟨g1, g3⟩ | ⟨g1, g3, g4⟩
  · exact .inl ⟨h1, g3⟩
  · omega
  · omega
  · exact .inr ⟨h1, g3, _, h4, g4⟩
theorem relR_imp {R S : Nat → Nat → Prop} (hi : ∀ a b, R a b → S a b) {r r' : Int} (h : relR R r r') : relR S r r' := by
  rcases h with h | ⟨h1, h2, h3⟩
  · exact .inl h
  · exact .inr ⟨h1, h2, hi _ _ h3⟩
theorem Sim.symm {R : Nat → Nat → Prop} {h h' : HeapM} (s : Sim R h h') : Sim (fun a b => R b a) h' h :=
  ⟨fun a b => s.inj a b, fun a b => s.fn a b, fun r => by
    obtain ⟨d, rs, rs', h1, h2, h3⟩ := s.cell r
    exact ⟨d, rs', rs, h2, h1, h3.flip.imp fun _ _ => relR_flip⟩, s.roots.flip.imp fun _ _ => relR_flip⟩
theorem Iso.symm {h h' : HeapM} (s : Iso h h') : Iso h' h := by obtain ⟨R, s⟩ := s; exact ⟨_, s.symm⟩
theorem Sim.trans {R S : Nat → Nat → Prop} {a b c : HeapM} (s : Sim R a b) (t : Sim S b c) : Sim (fun x z => ∃ y, R x y ∧ S y z) a c := by
  refine ⟨?_, ?_, ?_, ?_⟩
  · rintro x z z' ⟨y, h1, h2⟩ ⟨y', h3, h4⟩
    obtain rfl := s.fn h1 h3
    exact t.fn h2 h4
  · rintro x x' z ⟨y, h1, h2⟩ ⟨y', h3, h4⟩
    obtain rfl := t.inj h2 h4
    exact s.inj h1 h3
  · rintro x z ⟨y, h1, h2⟩
    obtain ⟨d, rs, rs', g1, g2, g3⟩ := s.cell h1
    obtain ⟨d2, qs, qs', f1, f2, f3⟩ := t.cell h2
    rw [g2] at f1
    simp only [Option.some.injEq, CellM.mk.injEq, true_and] at f1
    obtain ⟨rfl, rfl⟩ := f1
    exact ⟨d, rs, qs', g1, f2, (g3.comp f3).imp fun _ _ ⟨_, h, h'⟩ => relR_comp h h'⟩
  · exact (s.roots.comp t.roots).imp fun _ _ ⟨_, h, h'⟩ => relR_comp h h'
theorem Iso.trans {a b c : HeapM} (s : Iso a b) (t : Iso b c) : Iso a c := by
  obtain ⟨R, s⟩ := s; obtain ⟨S, t⟩ := t; exact ⟨_, s.trans t⟩
/-- Heaps whose cells that can be reached are the same. -/
theorem iso_same {h h' : HeapM} (hv : validM h = true) (hr : h'.roots = h.roots) (hc : ∀ (k : Nat) (c : CellM), Rch (refsAt h) nonneg h.roots k → h.cells[k]? = some c → h'.cells[k]? = some c) : Iso h h' := by
  refine ⟨fun a b => a = b ∧ Rch (refsAt h) nonneg h.roots a, ?_, ?_, ?_, ?_⟩
  · rintro a b b' ⟨rfl, -⟩ ⟨rfl, -⟩; rfl
  · rintro a b b' ⟨rfl, -⟩ ⟨rfl, -⟩; rfl
  · rintro k k' ⟨rfl, hk⟩
    obtain ⟨⟨u, d, rs⟩, hc1, hu⟩ := reach_leads hv hk
    have hu' : u = true := hu
    subst hu'
    refine ⟨d, rs, rs, hc1, hc k _ hk hc1, All2.self fun r hm => ?_⟩
    have hm2 : r ∈ refsAt h k := by rw [refsAt_of hc1]; exact hm
    rcases leadsM_iff.1 (refsAt_leads hv k r hm2) with h1 | ⟨h0, -⟩
    · exact .inl ⟨h1, h1⟩
    · exact .inr ⟨h0, h0, rfl, .next hk hm2 (by simp [nonneg, h0])⟩
  · rw [hr]
    refine All2.self fun r hm => ?_
    rcases leadsM_iff.1 ((validM_leads hv).2 r hm) with h1 | ⟨h0, -⟩
    · exact .inl ⟨h1, h1⟩
    · exact .inr ⟨h0, h0, rfl, .start hm (by simp [nonneg, h0])⟩
theorem Iso.refl {h : HeapM} (hv : validM h = true) : Iso h h := iso_same hv rfl fun _ _ _ hc => hc
/-- Cells that cannot be reached may be dropped. -/
theorem iso_drop {h : HeapM} (hv : validM h = true) {dead : List Bool} (hd : ∀ k, Rch (refsAt h) nonneg h.roots k → dead.getD k false = false) (hl : dead.length = h.cells.length) : Iso h (dropM h dead) := by
  refine iso_same hv rfl fun k c hk hc => ?_
  have hkl := (List.getElem?_eq_some_iff.1 hc).1
  have e := drop_at hc (List.getElem?_eq_getElem (l := dead) (i := k) (by omega))
  have e2 := hd k hk
  rw [getD_of (List.getElem?_eq_getElem (l := dead) (i := k) (by omega))] at e2
  rw [e2] at e
  exact e
/-! ### Instructions -/
theorem Sim.root {R : Nat → Nat → Prop} {h h' : HeapM} (s : Sim R h h') (a : Int) : relR R (rootAt h a) (rootAt h' a) := by
  unfold rootAt
  cases e : h.roots[a.toNat]? with
  | none =>
    have : h'.roots[a.toNat]? = none := by rw [List.getElem?_eq_none_iff] at e ⊢; rw [← s.roots.len]; exact e
    rw [this]; exact .inl ⟨rfl, rfl⟩
  | some x =>
    obtain ⟨y, hy, hr⟩ := s.roots.at_ e
    rw [hy]; exact hr
theorem Sim.refs {R : Nat → Nat → Prop} {h h' : HeapM} (s : Sim R h h') {k k' : Nat} (hr : R k k') : All2 (relR R) (refsAt h k) (refsAt h' k') := by
  obtain ⟨d, rs, rs', h1, h2, h3⟩ := s.cell hr
  rw [refsAt_of h1, refsAt_of h2]; exact h3
theorem Sim.place {R : Nat → Nat → Prop} {h h' : HeapM} (s : Sim R h h') (a c : Int) : placeOk h a c = placeOk h' a c := by
  unfold placeOk
  rcases s.root a with ⟨h1, h2⟩ | ⟨h1, h2, h3⟩
  · rw [h1, h2]; simp
  · have := (s.refs h3).len
    simp [h1, h2, this]
theorem Sim.refOf {R : Nat → Nat → Prop} {h h' : HeapM} (s : Sim R h h') {a c : Int} (hp : placeOk h a c = true) : relR R (refOf h a c) (refOf h' a c) := by
  unfold placeOk at hp
  simp only [Bool.and_eq_true, decide_eq_true_eq] at hp
  unfold Proofs.Ytkikeanpbffpkaa.refOf
  rcases s.root a with ⟨h1, h2⟩ | ⟨h1, h2, h3⟩
  · omega
  · cases e : (refsAt h (rootAt h a).toNat)[c.toNat]? with
    | none =>
      have : (refsAt h' (rootAt h' a).toNat)[c.toNat]? = none := by rw [List.getElem?_eq_none_iff] at e ⊢; rw [← (s.refs h3).len]; exact e
      rw [this]; exact .inl ⟨rfl, rfl⟩
    | some x =>
      obtain ⟨y, hy, hr⟩ := (s.refs h3).at_ e
      rw [hy]; exact hr
theorem Sim.poss {R : Nat → Nat → Prop} {h h' : HeapM} (s : Sim R h h') (o : CmdM) : possO h o = possO h' o := by
  unfold possO
  rw [s.place, s.place]
  have : decide (0 ≤ rootAt h o.a) = decide (0 ≤ rootAt h' o.a) := by
    rcases s.root o.a with ⟨h1, h2⟩ | ⟨h1, h2, h3⟩
    · rw [h1, h2]
    · simp [h1, h2]
  rw [this]
theorem Iso.poss {h h' : HeapM} (s : Iso h h') (o : CmdM) : possO h o = possO h' o := by obtain ⟨R, s⟩ := s; exact s.poss o
theorem put_old {cs : List CellM} {p k : Nat} {x c : CellM} (hc : cs[k]? = some c) (hk : k ≠ p) : (putCell cs p x)[k]? = some c := by
  have hlt := (List.getElem?_eq_some_iff.1 hc).1
  unfold putCell
  split
  · rw [List.getElem?_append_left hlt]; exact hc
  · rw [List.getElem?_set_ne (by omega)]; exact hc
theorem put_new {cs : List CellM} {p : Nat} {x : CellM} (hp : p ≤ cs.length) : (putCell cs p x)[p]? = some x := by
  unfold putCell
  split
  · next e => subst e; simp
  · rw [List.getElem?_set_self (by omega)]
/-- A place for a new cell: none, or one that is not used. -/
def freeTo (h : HeapM) (p : Nat) : Prop := p ≤ h.cells.length ∧ ∀ c, h.cells[p]? = some c → c.used = false
theorem freeTo_len (h : HeapM) : freeTo h h.cells.length := ⟨Nat.le_refl _, fun c hc => by simp at hc⟩
theorem freeTo_at (h : HeapM) : freeTo h (freeAt h.cells) := ⟨freeAt_le _, fun c hc => freeAt_free hc⟩
theorem setRef_at {cs : List CellM} {k j : Nat} {r : Int} {i : Nat} {c : CellM} (hc : cs[i]? = some c) : (setRef cs k j r)[i]? = some (if i = k then ⟨c.used, c.data, c.refs.set j r⟩ else c) := by
  have hlt := (List.getElem?_eq_some_iff.1 hc).1
  unfold setRef
  by_cases e : i = k
  · subst e
    rw [hc, if_pos rfl]
    simp only
    rw [List.getElem?_set_self hlt]
  · rw [if_neg e]
    split
    · rw [List.getElem?_set_ne (by omega)]; exact hc
    · exact hc
theorem setData_at {cs : List CellM} {k : Nat} {d : Int} {i : Nat} {c : CellM} (hc : cs[i]? = some c) : (setData cs k d)[i]? = some (if i = k then ⟨c.used, d, c.refs⟩ else c) := by
  have hlt := (List.getElem?_eq_some_iff.1 hc).1
  unfold setData
  by_cases e : i = k
  · subst e
    rw [hc, if_pos rfl]
    simp only
    rw [List.getElem?_set_self hlt]
  · rw [if_neg e]
    split
    · rw [List.getElem?_set_ne (by omega)]; exact hc
    · exact hc
/-- Cells that belong together after an instruction. -/
def relX (R : Nat → Nat → Prop) (o : CmdM) (p p' : Nat) (k k' : Nat) : Prop := R k k' ∨ (o.op = 1 ∧ k = p ∧ k' = p')
theorem Sim.exec {R : Nat → Nat → Prop} {h h' : HeapM} (s : Sim R h h') {o : CmdM} (ho : cmdOk o = true) (hp : possO h o = true) {p p' : Nat} (hf : freeTo h p) (hf' : freeTo h' p') : Sim (relX R o p p') (execM h o p) (execM h' o p') := by
  have hp' : possO h' o = true := by rw [← s.poss o]; exact hp
  obtain ⟨o1, o2, a1, a2, -⟩ := cmdOk_parts ho
  have hR0 : ∀ {k k'}, R k k' → k ≠ p := fun {k k'} hr e => by
    obtain ⟨d, rs, rs', h1, -⟩ := s.cell hr
    have := hf.2 _ (e ▸ h1); cases this
  have hR1 : ∀ {k k'}, R k k' → k' ≠ p' := fun {k k'} hr e => by
    obtain ⟨d, rs, rs', -, h1, -⟩ := s.cell hr
    have := hf'.2 _ (e ▸ h1); cases this
  have hmono : ∀ {r r'}, relR R r r' → relR (relX R o p p') r r' := fun h => relR_imp (fun _ _ => .inl) h
  refine ⟨?_, ?_, ?_, ?_⟩
  · rintro a b b' (h1 | ⟨e1, h1, h2⟩) (h3 | ⟨-, h3, h4⟩)
    · exact s.fn h1 h3
    · exact absurd h3 (hR0 h1)
    · exact absurd h1 (hR0 h3)
    · rw [h2, h4]
  · rintro a a' b (h1 | ⟨e1, h1, h2⟩) (h3 | ⟨-, h3, h4⟩)
    · exact s.inj h1 h3
    · exact absurd h4 (hR1 h1)
    · exact absurd h2 (hR1 h3)
    · rw [h1, h3]
  · rintro k k' (hr | ⟨e1, rfl, rfl⟩)
    · obtain ⟨d, rs, rs', h1, h2, h3⟩ := s.cell hr
      have h3' : All2 (relR (relX R o p p')) rs rs' := h3.imp fun _ _ h => hmono h
      unfold execM
      by_cases e1 : o.op = 1
      · simp only [e1, if_true]
        exact ⟨d, rs, rs', put_old h1 (hR0 hr), put_old h2 (hR1 hr), h3'⟩
      · by_cases e2 : o.op = 2
        · simp only [e2, if_true]
          exact ⟨d, rs, rs', h1, h2, h3'⟩
        · by_cases e3 : o.op = 3
          · simp only [e3, if_true]
            have hpl : placeOk h o.a o.c = true := by unfold possO at hp; simpa [e3] using hp
            unfold placeOk at hpl
            simp only [Bool.and_eq_true, decide_eq_true_eq] at hpl
            rcases s.root o.a with ⟨g1, -⟩ | ⟨g1, g2, g3⟩
            · omega
            · by_cases ek : k = (rootAt h o.a).toNat
              · have ek' : k' = (rootAt h' o.a).toNat := by rw [ek] at hr; exact s.fn hr g3
                exact ⟨d, rs.set o.c.toNat (rootAt h o.b), rs'.set o.c.toNat (rootAt h' o.b), by simpa [ek] using setRef_at (j := o.c.toNat) (r := rootAt h o.b) (k := (rootAt h o.a).toNat) h1, by simpa [ek'] using setRef_at (j := o.c.toNat) (r := rootAt h' o.b) (k := (rootAt h' o.a).toNat) h2, h3'.set (hmono (s.root o.b)) _⟩
              · have ek' : k' ≠ (rootAt h' o.a).toNat := fun e => ek (s.inj hr (e ▸ g3))
                exact ⟨d, rs, rs', by simpa [ek] using setRef_at (j := o.c.toNat) (r := rootAt h o.b) (k := (rootAt h o.a).toNat) h1, by simpa [ek'] using setRef_at (j := o.c.toNat) (r := rootAt h' o.b) (k := (rootAt h' o.a).toNat) h2, h3'⟩
          · by_cases e4 : o.op = 4
            · simp only [e4, if_true]
              exact ⟨d, rs, rs', h1, h2, h3'⟩
            · by_cases e5 : o.op = 5
              · simp only [e5, if_true]
                exact ⟨d, rs, rs', h1, h2, h3'⟩
              · have e6 : o.op = 6 := by omega
                have hpl : 0 ≤ rootAt h o.a := by unfold possO at hp; simpa [e6] using hp
                rcases s.root o.a with ⟨g1, -⟩ | ⟨g1, g2, g3⟩
                · omega
                · simp only [e1, e2, e3, e4, e5, if_false]
                  by_cases ek : k = (rootAt h o.a).toNat
                  · have ek' : k' = (rootAt h' o.a).toNat := by rw [ek] at hr; exact s.fn hr g3
                    exact ⟨o.b, rs, rs', by simpa [ek] using setData_at (d := o.b) (k := (rootAt h o.a).toNat) h1, by simpa [ek'] using setData_at (d := o.b) (k := (rootAt h' o.a).toNat) h2, h3'⟩
                  · have ek' : k' ≠ (rootAt h' o.a).toNat := fun e => ek (s.inj hr (e ▸ g3))
                    exact ⟨d, rs, rs', by simpa [ek] using setData_at (d := o.b) (k := (rootAt h o.a).toNat) h1, by simpa [ek'] using setData_at (d := o.b) (k := (rootAt h' o.a).toNat) h2, h3'⟩
    · unfold execM
      simp only [e1, if_true]
      exact ⟨o.c, _, _, put_new hf.1, put_new hf'.1, All2.self fun r hm => .inl (by rw [List.eq_of_mem_replicate hm]; exact ⟨rfl, rfl⟩)⟩
  · have hrt : All2 (relR (relX R o p p')) h.roots h'.roots := s.roots.imp fun _ _ h => hmono h
    unfold execM
    by_cases e1 : o.op = 1
    · simp only [e1, if_true]
      exact hrt.set (.inr ⟨by omega, by omega, .inr ⟨e1, by simp, by simp⟩⟩) _
    · by_cases e2 : o.op = 2
      · simp only [e2, if_true]
        have hpl : placeOk h o.b o.c = true := by unfold possO at hp; simpa [e2] using hp
        exact hrt.set (hmono (s.refOf hpl)) _
      · by_cases e3 : o.op = 3
        · simp only [e3, if_true]; exact hrt
        · by_cases e4 : o.op = 4
          · simp only [e4, if_true]
            exact hrt.set (hmono (s.root o.b)) _
          · by_cases e5 : o.op = 5
            · simp only [e5, if_true]
              exact hrt.set (.inl ⟨rfl, rfl⟩) _
            · simp only [e1, e2, e3, e4, e5, if_false]; exact hrt
theorem Iso.exec {h h' : HeapM} (s : Iso h h') {o : CmdM} (ho : cmdOk o = true) (hp : possO h o = true) {p p' : Nat} (hf : freeTo h p) (hf' : freeTo h' p') : Iso (execM h o p) (execM h' o p') := by
  obtain ⟨R, s⟩ := s; exact ⟨_, s.exec ho hp hf hf'⟩
end Go.Proofs.Ytkikeanpbffpkaa

/- What a program sees of a heap, as a plain function: the same exactly of heaps whose cells belong together. -/
namespace Go.Proofs.Ytkikeanpbffpkaa
set_option linter.unusedVariables false
set_option linter.unusedSimpArgs false
/-- What is met: sound, listed, and worked off below i. -/
structure OrdC (rf : Nat → List Int) (ok : Int → Bool) (fr : List Int) (i : Nat) (st : (Nat → Bool) × List Int) : Prop where
  sound : ∀ k, st.1 k = true → Rch rf ok fr k
  list : ∀ k, st.1 k = true → ∃ r ∈ st.2, r.toNat = k
  met : ∀ r ∈ st.2, ok r = true ∧ st.1 r.toNat = true
  start : ∀ r ∈ fr, ok r = true → st.1 r.toNat = true
  off : ∀ (j : Nat) (r : Int), j < i → st.2[j]? = some r → ∀ x ∈ rf r.toNat, ok x = true → st.1 x.toNat = true
theorem ordC {rf : Nat → List Int} {ok : Int → Bool} {fr : List Int} : ∀ i, OrdC rf ok fr i (ordIt rf ok fr i)
  | 0 => by
    obtain ⟨ns, h1, h2, h3⟩ := visL_work (ok := ok) fr (fun _ => false, [])
    show OrdC rf ok fr 0 (visL ok (fun _ => false, []) fr)
    refine ⟨fun k hk => ?_, fun k hk => ?_, fun r hr => ?_, fun r hr ho => visL_has fr _ r hr ho, fun j r hj => by omega⟩
    · rcases visL_only fr _ hk with h | ⟨r, hr, ho, rfl⟩
      · cases h
      · exact .start hr ho
    · rcases h3 k hk with h | ⟨r, hr, rfl⟩
      · cases h
      · exact ⟨r, by rw [h1]; simpa using hr, rfl⟩
    · rw [h1] at hr
      have hn : r ∈ ns := by simpa using hr
      exact ⟨(h2 r hn).1, visL_has fr _ r (h2 r hn).2.1 (h2 r hn).1⟩
  | i + 1 => by
    have ih := ordC (rf := rf) (ok := ok) (fr := fr) i
    show OrdC rf ok fr (i + 1) (ordStep rf ok i (ordIt rf ok fr i))
    generalize ordIt rf ok fr i = st at ih
    unfold ordStep
    cases e : st.2[i]? with
    | none =>
      refine ⟨ih.sound, ih.list, ih.met, ih.start, fun j r hj hr => ?_⟩
      have := List.getElem?_eq_none_iff.1 e
      have hr2 : st.2[j]? = some r := hr
      have := (List.getElem?_eq_some_iff.1 hr2).1
      exact ih.off j r (by omega) hr2
    | some x =>
      obtain ⟨ns, h1, h2, h3⟩ := visL_work (ok := ok) (rf x.toNat) st
      have hx := ih.met x (List.mem_of_getElem? e)
      simp only
      refine ⟨fun k hk => ?_, fun k hk => ?_, fun r hr => ?_, fun r hr ho => visL_mono _ _ (ih.start r hr ho), fun j r hj hr y hy ho => ?_⟩
      · rcases visL_only _ _ hk with h | ⟨r, hr, ho, rfl⟩
        · exact ih.sound k h
        · exact .next (ih.sound _ hx.2) hr ho
      · rcases h3 k hk with h | ⟨r, hr, rfl⟩
        · obtain ⟨r, hr, rfl⟩ := ih.list k h
          exact ⟨r, by rw [h1]; simp [hr], rfl⟩
        · exact ⟨r, by rw [h1]; simp [hr], rfl⟩
      · rw [h1] at hr
        rcases List.mem_append.1 hr with hr | hr
        · exact ⟨(ih.met r hr).1, visL_mono _ _ (ih.met r hr).2⟩
        · exact ⟨(h2 r hr).1, visL_has _ _ r (h2 r hr).2.1 (h2 r hr).1⟩
      · rw [h1] at hr
        have hil := (List.getElem?_eq_some_iff.1 e).1
        rw [List.getElem?_append_left (by omega)] at hr
        by_cases hj2 : j = i
        · subst hj2
          rw [e] at hr; injection hr with hr; subst hr
          exact visL_has _ _ y hy ho
        · exact visL_mono _ _ (ih.off j r (by omega) hr y hy ho)
/-- The order lists exactly what can be reached. -/
theorem ord_mem {h : HeapM} (hv : validM h = true) {r : Int} : r ∈ orderM h ↔ 0 ≤ r ∧ Rch (refsAt h) nonneg h.roots r.toNat := by
  have hc := ordC (rf := refsAt h) (ok := nonneg) (fr := h.roots) h.cells.length
  have hlen := (ord_ok hv h.cells.length).le
  unfold orderM
  have key : ∀ k, (ordIt (refsAt h) nonneg h.roots h.cells.length).1 k = true ↔ Rch (refsAt h) nonneg h.roots k := by
    intro k
    refine ⟨hc.sound k, fun hr => ?_⟩
    induction hr with
    | start hr ho => exact hc.start _ hr ho
    | next _ hr ho ih =>
      obtain ⟨x, hx, hxe⟩ := hc.list _ ih
      obtain ⟨j, hj⟩ := List.getElem?_of_mem hx
      have hjl := (List.getElem?_eq_some_iff.1 hj).1
      exact hc.off j x (by omega) hj _ (by rw [hxe]; exact hr) ho
  constructor
  · intro hr
    have := hc.met r hr
    exact ⟨by simpa [nonneg] using this.1, (key _).1 this.2⟩
  · rintro ⟨h0, hr⟩
    obtain ⟨x, hx, hxe⟩ := hc.list _ ((key _).2 hr)
    have h1 : 0 ≤ x := by simpa [nonneg] using (hc.met x hx).1
    obtain rfl : x = r := by omega
    exact hx
theorem ord_root {h : HeapM} (hv : validM h = true) {r : Int} (hr : r ∈ h.roots) : r = -1 ∨ r ∈ orderM h := by
  rcases leadsM_iff.1 ((validM_leads hv).2 r hr) with h1 | ⟨h0, -⟩
  · exact .inl h1
  · exact .inr ((ord_mem hv).2 ⟨h0, .start hr (by simp [nonneg, h0])⟩)
theorem ord_ref {h : HeapM} (hv : validM h = true) {k : Int} (hk : k ∈ orderM h) {r : Int} (hr : r ∈ refsAt h k.toNat) : r = -1 ∨ r ∈ orderM h := by
  rcases leadsM_iff.1 (refsAt_leads hv _ r hr) with h1 | ⟨h0, -⟩
  · exact .inl h1
  · exact .inr ((ord_mem hv).2 ⟨h0, .next ((ord_mem hv).1 hk).2 hr (by simp [nonneg, h0])⟩)
/-! ### Names -/
theorem nameM_nat (order : List Int) (r : Int) : (nameM order r = -1 ∧ r ∉ order) ∨ ∃ k : Nat, nameM order r = (k : Int) ∧ order[k]? = some r := by
  unfold nameM
  cases e : firstB (isR r) order with
  | none =>
    refine .inl ⟨rfl, fun hm => ?_⟩
    have := firstB_none_all e r hm
    simp [isR] at this
  | some k =>
    obtain ⟨x, hx, hp, -⟩ := firstB_at e
    have : x = r := by simpa [isR] using hp
    subst this
    exact .inr ⟨k, rfl, hx⟩
theorem nameM_of {order : List Int} (hnd : order.Pairwise fun a b => a ≠ b) {k : Nat} {r : Int} (hk : order[k]? = some r) : nameM order r = (k : Int) := by
  have hp := List.pairwise_iff_getElem.1 hnd
  refine nameM_some (fun i hi y hy => ?_) hk
  obtain ⟨hkl, rfl⟩ := List.getElem?_eq_some_iff.1 hk
  obtain ⟨hil, rfl⟩ := List.getElem?_eq_some_iff.1 hy
  have := hp i k hil hkl hi
  unfold isR; simpa using this
/-! ### Views -/
def recM (h : HeapM) (order : List Int) (r : Int) : List Int := match h.cells[r.toNat]? with | some c => c.data :: (c.refs.length : Int) :: c.refs.map (nameM order) | none => []
theorem recM_of {h : HeapM} {order : List Int} {r : Int} {c : CellM} (hc : h.cells[r.toNat]? = some c) : recM h order r = c.data :: (c.refs.length : Int) :: c.refs.map (nameM order) := by unfold recM; rw [hc]
def viewFrom (h : HeapM) (order : List Int) : List Int := h.roots.map (nameM order) ++ order.flatMap (recM h order)
def viewM (h : HeapM) : List Int := if validM h then viewFrom h (orderM h) else []
theorem viewM_ok {h : HeapM} (hv : validM h = true) : viewM h = viewFrom h (orderM h) := by unfold viewM; rw [if_pos hv]
def sameViewM (a b : HeapM) : Bool := validM a && (validM b && decide (viewM a = viewM b))
/-! Both orders in step -/
structure Lock (R : Nat → Nat → Prop) (st st' : (Nat → Bool) × List Int) : Prop where
  lst : All2 (fun r r' => 0 ≤ r ∧ 0 ≤ r' ∧ R r.toNat r'.toNat) st.2 st'.2
  met : ∀ k k', R k k' → st.1 k = st'.1 k'
theorem Lock.vis1 {R : Nat → Nat → Prop} {h h' : HeapM} (s : Sim R h h') {st st' : (Nat → Bool) × List Int} (l : Lock R st st') {r r' : Int} (hr : relR R r r') : Lock R (vis1 nonneg st r) (vis1 nonneg st' r') := by
  rcases hr with ⟨rfl, rfl⟩ | ⟨h1, h2, h3⟩
  · rw [vis1_no (.inl (by decide)), vis1_no (.inl (by decide))]; exact l
  · have hm := l.met _ _ h3
    rcases bool_ft (st.1 r.toNat) with hb | hb
    · rw [vis1_yes (by simp [nonneg, h1]) hb, vis1_yes (by simp [nonneg, h2]) (by rw [← hm]; exact hb)]
      refine ⟨l.lst.append (.cons ⟨h1, h2, h3⟩ .nil), fun k k' hk => ?_⟩
      simp only
      by_cases e : k = r.toNat
      · have e' : k' = r'.toNat := by rw [e] at hk; exact s.fn hk h3
        rw [if_pos e, if_pos e']
      · have e' : k' ≠ r'.toNat := fun e' => e (s.inj hk (e' ▸ h3))
        rw [if_neg e, if_neg e']; exact l.met _ _ hk
    · rw [vis1_no (.inr hb), vis1_no (.inr (by rw [← hm]; exact hb))]; exact l
theorem Lock.visL {R : Nat → Nat → Prop} {h h' : HeapM} (s : Sim R h h') {rs rs' : List Int} (hr : All2 (relR R) rs rs') : ∀ {st st' : (Nat → Bool) × List Int}, Lock R st st' → Lock R (visL nonneg st rs) (visL nonneg st' rs') := by
  induction hr with
  | nil => intro st st' l; exact l
  | cons hr _ ih => intro st st' l; exact ih (l.vis1 s hr)
theorem Lock.it {R : Nat → Nat → Prop} {h h' : HeapM} (s : Sim R h h') : ∀ i, Lock R (ordIt (refsAt h) nonneg h.roots i) (ordIt (refsAt h') nonneg h'.roots i)
  | 0 => Lock.visL s s.roots ⟨.nil, fun _ _ _ => rfl⟩
  | i + 1 => by
    have l := Lock.it s i
    show Lock R (ordStep (refsAt h) nonneg i _) (ordStep (refsAt h') nonneg i _)
    unfold ordStep
    cases e : (ordIt (refsAt h) nonneg h.roots i).2[i]? with
    | none =>
      have : (ordIt (refsAt h') nonneg h'.roots i).2[i]? = none := by rw [List.getElem?_eq_none_iff] at e ⊢; rw [← l.lst.len]; exact e
      rw [this]; exact l
    | some x =>
      obtain ⟨y, hy, -, -, hr⟩ := l.lst.at_ e
      rw [hy]; exact Lock.visL s (s.refs hr) l
theorem ord_far {h : HeapM} (hv : validM h = true) {n : Nat} (hn : h.cells.length ≤ n) : (ordIt (refsAt h) nonneg h.roots n).2 = orderM h := by
  have hlen := (ord_ok hv h.cells.length).le
  have := ordIt_stay (rf := refsAt h) (ok := nonneg) (fr := h.roots) (i := h.cells.length) (by omega) (n - h.cells.length)
  rw [show h.cells.length + (n - h.cells.length) = n by omega] at this
  rw [this]; rfl
theorem Sim.order {R : Nat → Nat → Prop} {h h' : HeapM} (s : Sim R h h') (hv : validM h = true) (hv' : validM h' = true) : All2 (fun r r' => 0 ≤ r ∧ 0 ≤ r' ∧ R r.toNat r'.toNat) (orderM h) (orderM h') := by
  have l := (Lock.it s 40).lst
  rwa [ord_far hv (validM_len hv).1, ord_far hv' (validM_len hv').1] at l
theorem Sim.name {R : Nat → Nat → Prop} {h h' : HeapM} (s : Sim R h h') {os os' : List Int} (ho : All2 (fun r r' => 0 ≤ r ∧ 0 ≤ r' ∧ R r.toNat r'.toNat) os os') {r r' : Int} (hr : relR R r r') : nameM os r = nameM os' r' := by
  have : firstB (isR r) os = firstB (isR r') os' := by
    induction ho with
    | nil => rfl
    | @cons a b _ _ hab _ ih =>
      have e : isR r a = isR r' b := by
        unfold isR
        obtain ⟨h1, h2, h3⟩ := hab
        rcases hr with ⟨rfl, rfl⟩ | ⟨g1, g2, g3⟩
        · rw [Bool.eq_iff_iff]; simp only [beq_iff_eq]; omega
        · rw [Bool.eq_iff_iff]; simp only [beq_iff_eq]
          constructor
          · rintro rfl; have := s.fn h3 g3; omega
          · rintro rfl; have := s.inj h3 g3; omega
      simp only [firstB, e, ih]
  unfold nameM; rw [this]
theorem Sim.view {R : Nat → Nat → Prop} {h h' : HeapM} (s : Sim R h h') (hv : validM h = true) (hv' : validM h' = true) : viewM h = viewM h' := by
  have ho := s.order hv hv'
  rw [viewM_ok hv, viewM_ok hv']
  unfold viewFrom
  have hn : ∀ r r', relR R r r' → nameM (orderM h) r = nameM (orderM h') r' := fun r r' hr => s.name ho hr
  generalize orderM h = os at *
  generalize orderM h' = os' at *
  rw [s.roots.map_eq hn]
  congr 1
  have : ∀ {l l' : List Int}, All2 (fun r r' => 0 ≤ r ∧ 0 ≤ r' ∧ R r.toNat r'.toNat) l l' → l.flatMap (recM h os) = l'.flatMap (recM h' os') := by
    intro l l' hl
    induction hl with
    | nil => rfl
    | cons hab _ ih =>
      obtain ⟨h1, h2, h3⟩ := hab
      obtain ⟨d, rs, rs', g1, g2, g3⟩ := s.cell h3
      simp only [List.flatMap_cons, ih, recM_of g1, recM_of g2, g3.map_eq hn, g3.len]
  exact this ho
theorem rec_inj {n : Nat} {a b : List Int} {d e : Int} {ns ms : List Int} {m : Nat} (hn : ns.length = n) (hm : ms.length = m) (h : (d :: (n : Int) :: ns) ++ a = (e :: (m : Int) :: ms) ++ b) : d = e ∧ ns = ms ∧ a = b := by
  simp only [List.cons_append, List.cons.injEq] at h
  obtain ⟨h1, h2, h3⟩ := h
  have h4 : n = m := by omega
  obtain ⟨h5, h6⟩ := List.append_inj h3 (by omega)
  exact ⟨h1, h5, h6⟩
theorem recs_inj {h h' : HeapM} {os os' : List Int} : ∀ {l l' : List Int}, (∀ r ∈ l, ∃ c, h.cells[r.toNat]? = some c) → (∀ r ∈ l', ∃ c, h'.cells[r.toNat]? = some c) → l.flatMap (recM h os) = l'.flatMap (recM h' os') → All2 (fun r r' => recM h os r = recM h' os' r') l l'
  | [], [], _, _, _ => .nil
  | [], r :: l, _, h2, e => by
    obtain ⟨c, hc⟩ := h2 r (by simp)
    rw [List.flatMap_nil, List.flatMap_cons, recM_of hc] at e; simp at e
  | r :: l, [], h1, _, e => by
    obtain ⟨c, hc⟩ := h1 r (by simp)
    rw [List.flatMap_nil, List.flatMap_cons, recM_of hc] at e; simp at e
  | r :: l, r' :: l', h1, h2, e => by
    obtain ⟨c, hc⟩ := h1 r (by simp)
    obtain ⟨c', hc'⟩ := h2 r' (by simp)
    rw [List.flatMap_cons, List.flatMap_cons, recM_of hc, recM_of hc'] at e
    obtain ⟨e1, e2, e3⟩ := rec_inj (by simp) (by simp) e
    refine .cons ?_ (recs_inj (fun x hx => h1 x (by simp [hx])) (fun x hx => h2 x (by simp [hx])) e3)
    rw [recM_of hc, recM_of hc', e1, e2]
    have := congrArg List.length e2
    simp only [List.length_map] at this
    rw [this]
/-- Equal views: cells belong together. -/
theorem iso_view {h h' : HeapM} (hv : validM h = true) (hv' : validM h' = true) (e : viewM h = viewM h') : Iso h h' := by
  rw [viewM_ok hv, viewM_ok hv'] at e
  unfold viewFrom at e
  obtain ⟨e1, e2⟩ := List.append_inj e (by simp [(validM_len hv).2, (validM_len hv').2])
  have hcell : ∀ {h : HeapM}, validM h = true → ∀ r ∈ orderM h, ∃ c, h.cells[r.toNat]? = some c := fun hv r hr => by
    obtain ⟨c, hc, -⟩ := reach_leads hv ((ord_mem hv).1 hr).2; exact ⟨c, hc⟩
  have e3 := recs_inj (hcell hv) (hcell hv') e2
  have nd := (order_ok hv).nd
  have nd' := (order_ok hv').nd
  have hpos : ∀ {h : HeapM}, validM h = true → ∀ {i : Nat} {r : Int}, (orderM h)[i]? = some r → ((r.toNat : Nat) : Int) = r := fun {g} hg {i r} hr => by
    have := ((ord_mem hg).1 (List.mem_of_getElem? hr)).1; omega
  have hrel : ∀ r r' : Int, (r = -1 ∨ r ∈ orderM h) → (r' = -1 ∨ r' ∈ orderM h') → nameM (orderM h) r = nameM (orderM h') r' → relR (fun k k' => ∃ i : Nat, (orderM h)[i]? = some (k : Int) ∧ (orderM h')[i]? = some (k' : Int)) r r' := by
    intro r r' h1 h2 hn
    have hm1 : ∀ {g : HeapM}, validM g = true → (-1 : Int) ∉ orderM g := fun {g} hg hm => by have := ((ord_mem hg).1 hm).1; omega
    rcases nameM_nat (orderM h) r with ⟨g1, g2⟩ | ⟨k, g1, g2⟩ <;> rcases nameM_nat (orderM h') r' with ⟨f1, f2⟩ | ⟨k', f1, f2⟩
    · exact .inl ⟨h1.resolve_right g2, h2.resolve_right f2⟩
    · omega
    · omega
    · have hk : k = k' := by omega
      subst hk
      have p1 := hpos hv g2
      have p2 := hpos hv' f2
      exact .inr ⟨by omega, by omega, k, by rw [p1]; exact g2, by rw [p2]; exact f2⟩
  refine ⟨fun k k' => ∃ i : Nat, (orderM h)[i]? = some (k : Int) ∧ (orderM h')[i]? = some (k' : Int), ?_, ?_, ?_, ?_⟩
  · rintro a b b' ⟨i, h1, h2⟩ ⟨j, h3, h4⟩
    have hij : i = j := by have := (nameM_of nd h1).symm.trans (nameM_of nd h3); omega
    subst hij
    rw [h2] at h4; injection h4 with h4; omega
  · rintro a a' b ⟨i, h1, h2⟩ ⟨j, h3, h4⟩
    have hij : i = j := by have := (nameM_of nd' h2).symm.trans (nameM_of nd' h4); omega
    subst hij
    rw [h1] at h3; injection h3 with h3; omega
  · rintro k k' ⟨i, h1, h2⟩
    obtain ⟨r', hr', hrec⟩ := e3.at_ h1
    rw [h2] at hr'; injection hr' with hr'; subst hr'
    have m1 := (ord_mem hv).1 (List.mem_of_getElem? h1)
    have m2 := (ord_mem hv').1 (List.mem_of_getElem? h2)
    obtain ⟨⟨u, d, rs⟩, hc, hu⟩ := reach_leads hv m1.2
    obtain ⟨⟨u', d', rs'⟩, hc', hu'⟩ := reach_leads hv' m2.2
    have hu2 : u = true := hu
    have hu2' : u' = true := hu'
    subst hu2 hu2'
    rw [recM_of hc, recM_of hc'] at hrec
    simp only [List.cons.injEq] at hrec
    obtain ⟨rfl, -, hn⟩ := hrec
    simp only [Int.toNat_natCast] at hc hc'
    refine ⟨d, rs, rs', hc, hc', (All2.of_map hn).imp_mem fun a ha b hb hab => hrel a b ?_ ?_ hab⟩
    · exact ord_ref hv (List.mem_of_getElem? h1) (by rw [Int.toNat_natCast, refsAt_of hc]; exact ha)
    · exact ord_ref hv' (List.mem_of_getElem? h2) (by rw [Int.toNat_natCast, refsAt_of hc']; exact hb)
  · exact (All2.of_map e1).imp_mem fun a ha b hb hab => hrel a b (ord_root hv ha) (ord_root hv' hb) hab
theorem view_iff {h h' : HeapM} (hv : validM h = true) (hv' : validM h' = true) : viewM h = viewM h' ↔ Iso h h' := ⟨iso_view hv hv', fun ⟨_, s⟩ => s.view hv hv'⟩
theorem sameView_iff {a b : HeapM} : sameViewM a b = true ↔ validM a = true ∧ validM b = true ∧ Iso a b := by
  unfold sameViewM
  simp only [Bool.and_eq_true, decide_eq_true_eq]
  constructor
  · rintro ⟨h1, h2, h3⟩; exact ⟨h1, h2, (view_iff h1 h2).1 h3⟩
  · rintro ⟨h1, h2, h3⟩; exact ⟨h1, h2, (view_iff h1 h2).2 h3⟩
/-- As many cells can be reached. -/
theorem Iso.live {h h' : HeapM} (s : Iso h h') (hv : validM h = true) (hv' : validM h' = true) : (orderM h).length = (orderM h').length := by
  obtain ⟨R, s⟩ := s; exact (s.order hv hv').len
/-! ### Cells gathered in an order -/
theorem slide_mem {h : HeapM} (hv : validM h = true) {k : Nat} (hk : Rch (refsAt h) nonneg h.roots k) : (k : Int) ∈ slideM h := by
  obtain ⟨c, hc, -⟩ := reach_leads hv hk
  unfold slideM slideN
  simp only [List.mem_map, List.mem_filter, List.mem_range]
  exact ⟨k, ⟨(List.getElem?_eq_some_iff.1 hc).1, (reach_iff hv k).2 hk⟩, rfl⟩
end Go.Proofs.Ytkikeanpbffpkaa

/- Plain laws: programs on heaps, freeing, moving; what a program sees stays. -/
namespace Go.Proofs.Ytkikeanpbffpkaa
set_option linter.unusedVariables false
set_option linter.unusedSimpArgs false
theorem stepM_poss {h : HeapM} {o : CmdM} (hv : validM h = true) (ho : cmdOk o = true) (hp : possO h o = true) (hl : o.op = 1 → h.cells.length < 40) : stepM h o = (execM h o h.cells.length, true) := by
  unfold stepM
  rw [hv, ho, hp]
  have : (decide (o.op = 1) && decide (h.cells.length = 40)) = false := by
    by_cases e : o.op = 1
    · have := hl e; simp [e]; omega
    · simp [e]
  rw [this]; rfl
theorem stepM_not {h : HeapM} {o : CmdM} (hv : validM h = true) (ho : cmdOk o = true) (hp : possO h o = false) : stepM h o = (h, false) := by
  unfold stepM; rw [hv, ho, hp]; rfl
theorem stepM_full {h : HeapM} {o : CmdM} (hv : validM h = true) (ho : cmdOk o = true) (h1 : o.op = 1) (hl : h.cells.length = 40) : stepM h o = (h, false) := by
  unfold stepM; rw [hv, ho, poss_new h1]; simp [h1, hl]
theorem stepM_inv {h : HeapM} {o : CmdM} (hb : (validM h && cmdOk o) = false) : stepM h o = (zeroH, false) := by
  unfold stepM; rw [hb]; rfl
theorem stepM_len (h : HeapM) (o : CmdM) : (stepM h o).1.cells.length ≤ h.cells.length + 1 := by
  unfold stepM
  split
  · split
    · simp only [exec_len]; split <;> omega
    · simp only; omega
  · simp [zeroH]
/-- A step beside a step of the reference's: the cells stay together. -/
theorem iso_next {h g h2 : HeapM} {o : CmdM} (s : Iso h g) (hg : validM g = true) (ho : cmdOk o = true) (hl : g.cells.length < 40) (hy : possO h o = true → ∃ p, freeTo h p ∧ h2 = execM h o p) (hn : possO h o = false → h2 = h) : Iso h2 (stepM g o).1 := by
  cases hp : possO h o
  · rw [stepM_not hg ho (by rw [← s.poss]; exact hp), hn hp]; exact s
  · obtain ⟨p, hf, rfl⟩ := hy hp
    rw [stepM_poss hg ho (by rw [← s.poss]; exact hp) (fun _ => hl)]
    exact s.exec ho hp hf (freeTo_len g)
theorem runFrom_len (l : List CmdM) : ∀ h : HeapM, (runFrom h l).cells.length ≤ h.cells.length + l.length := by
  induction l with
  | nil => intro h; exact Nat.le_refl _
  | cons o l ih => intro h; have h1 := ih (stepM h o).1; have h2 := stepM_len h o; show (runFrom (stepM h o).1 l).cells.length ≤ _; simp only [List.length_cons]; omega
theorem cmdsOk_iff {l : List CmdM} : cmdsOk l = true ↔ l.length ≤ 40 ∧ ∀ o ∈ l, cmdOk o = true := by unfold cmdsOk; simp
/-! ### FnRunHeap -/
/-! ### How many cells can be reached -/
def liveN (h : HeapM) : Nat := (orderM h).length
theorem nodup_len {a b : List Int} (ha : a.Pairwise fun x y => x ≠ y) (hs : ∀ x ∈ a, x ∈ b) : a.length ≤ b.length := by
  induction a generalizing b with
  | nil => simp
  | cons x a ih =>
    rw [List.pairwise_cons] at ha
    have hx := hs x (by simp)
    have := ih (b := b.erase x) ha.2 fun y hy => (List.mem_erase_of_ne fun e => ha.1 y hy e.symm).2 (hs y (by simp [hy]))
    rw [List.length_erase_of_mem hx] at this
    have := List.length_pos_of_mem hx
    simp only [List.length_cons]; omega
theorem slide_sub {h : HeapM} (hv : validM h = true) {r : Int} (hr : r ∈ slideM h) : 0 ≤ r ∧ Rch (refsAt h) nonneg h.roots r.toNat := by
  unfold slideM slideN at hr
  simp only [List.mem_map, List.mem_filter, List.mem_range] at hr
  obtain ⟨k, ⟨hk, h1⟩, rfl⟩ := hr
  exact ⟨by omega, by rw [Int.toNat_natCast]; exact (reach_iff hv k).1 h1⟩
theorem slide_live {h : HeapM} (hv : validM h = true) : (slideM h).length = liveN h := by
  apply Nat.le_antisymm
  · exact nodup_len (slide_ok h).nd fun r hr => (ord_mem hv).2 (slide_sub hv hr)
  · refine nodup_len (order_ok hv).nd fun r hr => ?_
    have h1 := (ord_mem hv).1 hr
    have := slide_mem hv h1.2
    rwa [Int.toNat_of_nonneg h1.1] at this
/-! ### Programs that move: RunCopy, RunSlide -/
theorem Iso.liveN {h g : HeapM} (s : Iso h g) (hv : validM h = true) (hg : validM g = true) : liveN h = liveN g := s.live hv hg
/-! ### FnCopySlide: both runs in step -/
end Go.Proofs.Ytkikeanpbffpkaa

/- Plain laws: sweeping, limits, copies of what is swept or slid. -/
namespace Go.Proofs.Ytkikeanpbffpkaa
set_option linter.unusedVariables false
set_option linter.unusedSimpArgs false
theorem swept {h : HeapM} (hv : validM h = true) : (collectSweepM h).1 = dropM h (nots (reachM h)) := by rw [collectSweep_ok hv]
/-! ### Copies -/
/-! ### Slid heaps -/
/-! How many cells are used -/
def usedC (h : HeapM) : Nat := (h.cells.filter (·.used)).length
/-- What UsedCells returns. -/
noncomputable def usedCellsM (h : HeapM) : Int × Int := if validM h then ((usedC h : Int), (((reachM h).filter id).length : Int)) else (-1, -1)
theorem reach_count {h : HeapM} (hv : validM h = true) : ((reachM h).filter id).length = liveN h := by
  rw [← slide_live hv]
  unfold slideM slideN
  rw [List.length_map]
  have : reachM h = (List.range h.cells.length).map fun k => (reachM h).getD k false := by
    apply List.ext_getElem?
    intro k
    by_cases hk : k < h.cells.length
    · have := List.getElem?_eq_getElem (l := reachM h) (i := k) (by rw [reachM_len]; exact hk)
      rw [List.getElem?_map, List.getElem?_range hk]
      show _ = some ((reachM h).getD k false)
      rw [getD_of this, this]
    · rw [List.getElem?_eq_none (by rw [reachM_len]; omega), List.getElem?_eq_none (by simp; omega)]
  conv => lhs; rw [this]
  rw [List.filter_map, List.length_map]
  rfl
/-! ### Slid heaps are swept heaps without gaps -/
end Go.Proofs.Ytkikeanpbffpkaa

/- Plain laws: painted heaps. -/
namespace Go.Proofs.Ytkikeanpbffpkaa
set_option linter.unusedVariables false
set_option linter.unusedSimpArgs false
/-! ### How many are freed, how many have leaked -/
def leakB (h : HeapM) (reach : List Bool) (k : Nat) : Bool := usedN h.cells k && !reach.getD k false
/-- The leaked cells. -/
noncomputable def leakM (h : HeapM) : List Int := if validM h then ((List.range h.cells.length).filter (leakB h (reachM h))).map fun k : Nat => (k : Int) else []
/-! ### FnPaintValid -/
/-! ### FnPaintStart, FnPaintStep -/
/-! ### FnPaintCommand -/
theorem canF_parts {h : HeapM} {o : CmdM} (hc : canF h o = true) : possO h o = true ∧ (o.op = 1 → freeAt h.cells ≠ 40) := by
  unfold canF at hc
  simp only [Bool.and_eq_true, Bool.not_eq_true', Bool.and_eq_false_iff, decide_eq_false_iff_not] at hc
  exact ⟨hc.1, fun e => by rcases hc.2 with h1 | h1; exact absurd e h1; exact h1⟩
theorem stepM_done {h : HeapM} {o : CmdM} (hr : (stepM h o).2 = true) : validM h = true ∧ cmdOk o = true ∧ possO h o = true ∧ stepM h o = (execM h o h.cells.length, true) := by
  rcases bool_ft (validM h && cmdOk o) with hb | hb
  · rw [stepM_inv hb] at hr; cases hr
  · have hb2 := Bool.and_eq_true_iff.1 hb
    rcases bool_ft (possO h o) with hp | hp
    · rw [stepM_not hb2.1 hb2.2 hp] at hr; cases hr
    · refine ⟨hb2.1, hb2.2, hp, stepM_poss hb2.1 hb2.2 hp fun e1 => ?_⟩
      rcases Nat.lt_or_ge h.cells.length 40 with h9 | h9
      · exact h9
      · rw [stepM_full hb2.1 hb2.2 e1 (by have := (validM_len hb2.1).1; omega)] at hr; cases hr
/-- The instruction with a free place, beside StepHeap. -/
theorem exec_view {h : HeapM} {o : CmdM} (hv : validM h = true) (ho : cmdOk o = true) (hc : canF h o = true) (hr : (stepM h o).2 = true) : sameViewM (execM h o (freeAt h.cells)) (stepM h o).1 = true := by
  obtain ⟨-, -, hp, e⟩ := stepM_done hr
  have hn := (canF_parts hc).2
  refine sameView_iff.2 ⟨valid_exec hv ho hp (freeAt_le _) (fun e1 => by have := hn e1; have := freeAt_le h.cells; have := (validM_len hv).1; omega), valid_step hv ho, ?_⟩
  rw [e]
  exact (Iso.refl hv).exec ho hp (freeTo_at h) (freeTo_len h)
/-! ### FnPaintFinish -/
/-! ### FnPaintEarly, FnPaintSweep -/
/-! ### FnRunPaint -/
end Go.Proofs.Ytkikeanpbffpkaa

/- Plain laws: heaps with generations. -/
namespace Go.Proofs.Ytkikeanpbffpkaa
set_option linter.unusedVariables false
set_option linter.unusedSimpArgs false
/-! ### FnAgedValid -/
/-! ### FnStepAged -/
/-! ### FnCollectYoung -/
theorem dropK_at {h : HeapM} {marks : List Bool} (hl : marks.length = h.cells.length) {k : Nat} {c : CellM} (hc : h.cells[k]? = some c) : (dropM h (nots marks)).cells[k]? = some (if marks.getD k false then c else freeCell) := by
  have hk := (List.getElem?_eq_some_iff.1 hc).1
  have hm := List.getElem?_eq_getElem (l := marks) (i := k) (by omega)
  have := drop_at hc (nots_at hm)
  show (dropCs h.cells (nots marks))[k]? = _
  rw [this, getD_of hm]
  cases marks[k]'(by omega) <;> rfl
/-! ### FnCollectAged -/
/-! ### FnRunAged, FnAgedFull -/
end Go.Proofs.Ytkikeanpbffpkaa
