/- Heaps of which a program sees the same: cells that belong together, and what instructions do to them. -/
import Derived.Test.YtngmkflmjjkjaaaGrData
namespace Go.Proofs.Ytngmkflmjjkjaaa
set_option linter.unusedVariables false
set_option linter.unusedSimpArgs false
/-- Two lists whose elements belong together. -/
inductive All2 {α β : Type} (R : α → β → Prop) : List α → List β → Prop
  | nil : All2 R [] []
  | cons {a : α} {b : β} {as : List α} {bs : List β} : R a b → All2 R as bs → All2 R (a :: as) (b :: bs)
theorem All2.len {α β : Type} {R : α → β → Prop} {as : List α} {bs : List β} (h : All2 R as bs) : as.length = bs.length := by
  induction h with
  | nil => rfl
  | cons _ _ ih => simp [ih]
theorem All2.at_ {α β : Type} {R : α → β → Prop} {as : List α} {bs : List β} (h : All2 R as bs) : ∀ {i : Nat} {a : α}, as[i]? = some a → ∃ b, bs[i]? = some b ∧ R a b := by
  induction h with
  | nil => intro i a h; simp at h
  | cons hr _ ih =>
    intro i a h
    cases i with
    | zero => simp at h; subst h; exact ⟨_, by simp, hr⟩
    | succ i => obtain ⟨b, hb, hr⟩ := ih (by simpa using h); exact ⟨b, by simpa using hb, hr⟩
theorem All2.of_at {α β : Type} {R : α → β → Prop} : ∀ {as : List α} {bs : List β}, as.length = bs.length → (∀ (i : Nat) (a : α) (b : β), as[i]? = some a → bs[i]? = some b → R a b) → All2 R as bs
  | [], [], _, _ => .nil
  | [], b :: bs, h, _ => by simp at h
  | a :: as, [], h, _ => by simp at h
  | a :: as, b :: bs, h, hr => .cons (hr 0 a b (by simp) (by simp)) (All2.of_at (by simpa using h) fun i x y hx hy => hr (i + 1) x y (by simpa using hx) (by simpa using hy))
theorem All2.imp {α β : Type} {R S : α → β → Prop} {as : List α} {bs : List β} (h : All2 R as bs) (hi : ∀ a b, R a b → S a b) : All2 S as bs := by
  induction h with
  | nil => exact .nil
  | cons hr _ ih => exact .cons (hi _ _ hr) ih
theorem All2.imp_mem {α β : Type} {R S : α → β → Prop} {as : List α} {bs : List β} (h : All2 R as bs) : (∀ a ∈ as, ∀ b ∈ bs, R a b → S a b) → All2 S as bs := by
  induction h with
  | nil => intro _; exact .nil
  | cons hr _ ih => intro hi; exact .cons (hi _ (by simp) _ (by simp) hr) (ih fun a ha b hb => hi a (by simp [ha]) b (by simp [hb]))
theorem All2.flip {α β : Type} {R : α → β → Prop} {as : List α} {bs : List β} (h : All2 R as bs) : All2 (fun b a => R a b) bs as := by
  induction h with
  | nil => exact .nil
  | cons hr _ ih => exact .cons hr ih
theorem All2.comp {α β γ : Type} {R : α → β → Prop} {S : β → γ → Prop} {as : List α} {bs : List β} (h : All2 R as bs) : ∀ {cs : List γ}, All2 S bs cs → All2 (fun a c => ∃ b, R a b ∧ S b c) as cs := by
  induction h with
  | nil => intro cs h; cases h; exact .nil
  | cons hr _ ih => intro cs h; cases h with | cons hs hl => exact .cons ⟨_, hr, hs⟩ (ih hl)
theorem All2.set {α β : Type} {R : α → β → Prop} {as : List α} {bs : List β} (h : All2 R as bs) {a : α} {b : β} (hr : R a b) : ∀ k, All2 R (as.set k a) (bs.set k b) := by
  induction h with
  | nil => intro k; exact .nil
  | cons hr2 hl ih =>
    intro k
    cases k with
    | zero => exact .cons hr hl
    | succ k => exact .cons hr2 (ih k)
theorem All2.append {α β : Type} {R : α → β → Prop} {as : List α} {bs : List β} (h : All2 R as bs) {cs : List α} {ds : List β} (h2 : All2 R cs ds) : All2 R (as ++ cs) (bs ++ ds) := by
  induction h with
  | nil => exact h2
  | cons hr _ ih => exact .cons hr ih
theorem All2.map_eq {α β γ : Type} {R : α → β → Prop} {f : α → γ} {g : β → γ} {as : List α} {bs : List β} (h : All2 R as bs) (hf : ∀ a b, R a b → f a = g b) : as.map f = bs.map g := by
  induction h with
  | nil => rfl
  | cons hr _ ih => simp [hf _ _ hr, ih]
theorem All2.of_map {α β γ : Type} {f : α → γ} {g : β → γ} : ∀ {as : List α} {bs : List β}, as.map f = bs.map g → All2 (fun a b => f a = g b) as bs
  | [], [], _ => .nil
  | [], b :: bs, h => by simp at h
  | a :: as, [], h => by simp at h
  | a :: as, b :: bs, h => by
    simp only [List.map_cons, List.cons.injEq] at h
    exact .cons h.1 (All2.of_map h.2)
theorem All2.self {α : Type} {R : α → α → Prop} {as : List α} (h : ∀ a ∈ as, R a a) : All2 R as as := All2.of_at rfl fun i a b ha hb => by
  rw [ha] at hb; injection hb with hb; subst hb; exact h a (List.mem_of_getElem? ha)
theorem All2.mapR {α β : Type} {R : α → β → Prop} {f : α → β} {as : List α} (h : ∀ a ∈ as, R a (f a)) : All2 R as (as.map f) := All2.of_at (by simp) fun i a b ha hb => by
  rw [List.getElem?_map, ha] at hb; injection hb with hb; subst hb; exact h a (List.mem_of_getElem? ha)

/-- Two references that belong together: none, or cells that belong together. -/
def relR (R : Nat → Nat → Prop) (r r' : Int) : Prop := (r = -1 ∧ r' = -1) ∨ (0 ≤ r ∧ 0 ≤ r' ∧ R r.toNat r'.toNat)
/-- Cells of two heaps belong together, one to one, and so do their references. -/
structure Sim (R : Nat → Nat → Prop) (h h' : HeapM) : Prop where
  fn : ∀ {a b b' : Nat}, R a b → R a b' → b = b'
  inj : ∀ {a a' b : Nat}, R a b → R a' b → a = a'
  cell : ∀ {k k' : Nat}, R k k' → ∃ d rs rs', h.cells[k]? = some ⟨true, d, rs⟩ ∧ h'.cells[k']? = some ⟨true, d, rs'⟩ ∧ All2 (relR R) rs rs'
  roots : All2 (relR R) h.roots h'.roots
/-- A program sees the same of both heaps. -/
def Iso (h h' : HeapM) : Prop := ∃ R, Sim R h h'
theorem relR_flip {R : Nat → Nat → Prop} {r r' : Int} (h : relR R r r') : relR (fun a b => R b a) r' r := by
  rcases h with ⟨h1, h2⟩ | ⟨h1, h2, h3⟩
  · exact .inl ⟨h2, h1⟩
  · exact .inr ⟨h2, h1, h3⟩
theorem relR_comp {R S : Nat → Nat → Prop} {r s t : Int} (h : relR R r s) (h2 : relR S s t) : relR (fun a c => ∃ b, R a b ∧ S b c) r t := by
  rcases h with ⟨h1, h3⟩ | ⟨h1, h3, h4⟩ <;> rcases h2 with ⟨g1, g3⟩ | ⟨g1, g3, g4⟩
  · exact .inl ⟨h1, g3⟩
  · omega
  · omega
  · exact .inr ⟨h1, g3, _, h4, g4⟩
theorem relR_imp {R S : Nat → Nat → Prop} (hi : ∀ a b, R a b → S a b) {r r' : Int} (h : relR R r r') : relR S r r' := by
  rcases h with h | ⟨h1, h2, h3⟩
  · exact .inl h
  · exact .inr ⟨h1, h2, hi _ _ h3⟩
theorem Sim.symm {R : Nat → Nat → Prop} {h h' : HeapM} (s : Sim R h h') : Sim (fun a b => R b a) h' h :=
  ⟨fun a b => s.inj a b, fun a b => s.fn a b, fun r => by
    obtain ⟨d, rs, rs', h1, h2, h3⟩ := s.cell r
    exact ⟨d, rs', rs, h2, h1, h3.flip.imp fun _ _ => relR_flip⟩, s.roots.flip.imp fun _ _ => relR_flip⟩
theorem Iso.symm {h h' : HeapM} (s : Iso h h') : Iso h' h := by obtain ⟨R, s⟩ := s; exact ⟨_, s.symm⟩
theorem Sim.trans {R S : Nat → Nat → Prop} {a b c : HeapM} (s : Sim R a b) (t : Sim S b c) : Sim (fun x z => ∃ y, R x y ∧ S y z) a c := by
  refine ⟨?_, ?_, ?_, ?_⟩
  · rintro x z z' ⟨y, h1, h2⟩ ⟨y', h3, h4⟩
    obtain rfl := s.fn h1 h3
    exact t.fn h2 h4
  · rintro x x' z ⟨y, h1, h2⟩ ⟨y', h3, h4⟩
    obtain rfl := t.inj h2 h4
    exact s.inj h1 h3
  · rintro x z ⟨y, h1, h2⟩
    obtain ⟨d, rs, rs', g1, g2, g3⟩ := s.cell h1
    obtain ⟨d2, qs, qs', f1, f2, f3⟩ := t.cell h2
    rw [g2] at f1
    simp only [Option.some.injEq, CellM.mk.injEq, true_and] at f1
    obtain ⟨rfl, rfl⟩ := f1
    exact ⟨d, rs, qs', g1, f2, (g3.comp f3).imp fun _ _ ⟨_, h, h'⟩ => relR_comp h h'⟩
  · exact (s.roots.comp t.roots).imp fun _ _ ⟨_, h, h'⟩ => relR_comp h h'
theorem Iso.trans {a b c : HeapM} (s : Iso a b) (t : Iso b c) : Iso a c := by
  obtain ⟨R, s⟩ := s; obtain ⟨S, t⟩ := t; exact ⟨_, s.trans t⟩
/-- Heaps whose cells that can be reached are the same. -/
theorem iso_same {h h' : HeapM} (hv : validM h = true) (hr : h'.roots = h.roots) (hc : ∀ (k : Nat) (c : CellM), Rch (refsAt h) nonneg h.roots k → h.cells[k]? = some c → h'.cells[k]? = some c) : Iso h h' := by
  refine ⟨fun a b => a = b ∧ Rch (refsAt h) nonneg h.roots a, ?_, ?_, ?_, ?_⟩
  · rintro a b b' ⟨rfl, -⟩ ⟨rfl, -⟩; rfl
  · rintro a b b' ⟨rfl, -⟩ ⟨rfl, -⟩; rfl
  · rintro k k' ⟨rfl, hk⟩
    obtain ⟨⟨u, d, rs⟩, hc1, hu⟩ := reach_leads hv hk
    have hu' : u = true := hu
    subst hu'
    refine ⟨d, rs, rs, hc1, hc k _ hk hc1, All2.self fun r hm => ?_⟩
    have hm2 : r ∈ refsAt h k := by rw [refsAt_of hc1]; exact hm
    rcases leadsM_iff.1 (refsAt_leads hv k r hm2) with h1 | ⟨h0, -⟩
    · exact .inl ⟨h1, h1⟩
    · exact .inr ⟨h0, h0, rfl, .next hk hm2 (by simp [nonneg, h0])⟩
  · rw [hr]
    refine All2.self fun r hm => ?_
    rcases leadsM_iff.1 ((validM_leads hv).2 r hm) with h1 | ⟨h0, -⟩
    · exact .inl ⟨h1, h1⟩
    · exact .inr ⟨h0, h0, rfl, .start hm (by simp [nonneg, h0])⟩
theorem Iso.refl {h : HeapM} (hv : validM h = true) : Iso h h := iso_same hv rfl fun _ _ _ hc => hc
/-- Cells that cannot be reached may be dropped. -/
theorem iso_drop {h : HeapM} (hv : validM h = true) {dead : List Bool} (hd : ∀ k, Rch (refsAt h) nonneg h.roots k → dead.getD k false = false) (hl : dead.length = h.cells.length) : Iso h (dropM h dead) := by
  refine iso_same hv rfl fun k c hk hc => ?_
  have hkl := (List.getElem?_eq_some_iff.1 hc).1
  have e := drop_at hc (List.getElem?_eq_getElem (l := dead) (i := k) (by omega))
  have e2 := hd k hk
  rw [getD_of (List.getElem?_eq_getElem (l := dead) (i := k) (by omega))] at e2
  rw [e2] at e
  exact e
/-! ### Instructions -/
theorem Sim.root {R : Nat → Nat → Prop} {h h' : HeapM} (s : Sim R h h') (a : Int) : relR R (rootAt h a) (rootAt h' a) := by
  unfold rootAt
  cases e : h.roots[a.toNat]? with
  | none =>
    have : h'.roots[a.toNat]? = none := by rw [List.getElem?_eq_none_iff] at e ⊢; rw [← s.roots.len]; exact e
    rw [this]; exact .inl ⟨rfl, rfl⟩
  | some x =>
    obtain ⟨y, hy, hr⟩ := s.roots.at_ e
    rw [hy]; exact hr
theorem Sim.refs {R : Nat → Nat → Prop} {h h' : HeapM} (s : Sim R h h') {k k' : Nat} (hr : R k k') : All2 (relR R) (refsAt h k) (refsAt h' k') := by
  obtain ⟨d, rs, rs', h1, h2, h3⟩ := s.cell hr
  rw [refsAt_of h1, refsAt_of h2]; exact h3
theorem Sim.place {R : Nat → Nat → Prop} {h h' : HeapM} (s : Sim R h h') (a c : Int) : placeOk h a c = placeOk h' a c := by
  unfold placeOk
  rcases s.root a with ⟨h1, h2⟩ | ⟨h1, h2, h3⟩
  · rw [h1, h2]; simp
  · have := (s.refs h3).len
    simp [h1, h2, this]
theorem Sim.refOf {R : Nat → Nat → Prop} {h h' : HeapM} (s : Sim R h h') {a c : Int} (hp : placeOk h a c = true) : relR R (refOf h a c) (refOf h' a c) := by
  unfold placeOk at hp
  simp only [Bool.and_eq_true, decide_eq_true_eq] at hp
  unfold Proofs.Ytngmkflmjjkjaaa.refOf
  rcases s.root a with ⟨h1, h2⟩ | ⟨h1, h2, h3⟩
  · omega
  · cases e : (refsAt h (rootAt h a).toNat)[c.toNat]? with
    | none =>
      have : (refsAt h' (rootAt h' a).toNat)[c.toNat]? = none := by rw [List.getElem?_eq_none_iff] at e ⊢; rw [← (s.refs h3).len]; exact e
      rw [this]; exact .inl ⟨rfl, rfl⟩
    | some x =>
      obtain ⟨y, hy, hr⟩ := (s.refs h3).at_ e
      rw [hy]; exact hr
theorem Sim.poss {R : Nat → Nat → Prop} {h h' : HeapM} (s : Sim R h h') (o : CmdM) : possO h o = possO h' o := by
  unfold possO
  rw [s.place, s.place]
  have : decide (0 ≤ rootAt h o.a) = decide (0 ≤ rootAt h' o.a) := by
    rcases s.root o.a with ⟨h1, h2⟩ | ⟨h1, h2, h3⟩
    · rw [h1, h2]
    · simp [h1, h2]
  rw [this]
theorem Iso.poss {h h' : HeapM} (s : Iso h h') (o : CmdM) : possO h o = possO h' o := by obtain ⟨R, s⟩ := s; exact s.poss o
theorem put_old {cs : List CellM} {p k : Nat} {x c : CellM} (hc : cs[k]? = some c) (hk : k ≠ p) : (putCell cs p x)[k]? = some c := by
  have hlt := (List.getElem?_eq_some_iff.1 hc).1
  unfold putCell
  split
  · rw [List.getElem?_append_left hlt]; exact hc
  · rw [List.getElem?_set_ne (by omega)]; exact hc
theorem put_new {cs : List CellM} {p : Nat} {x : CellM} (hp : p ≤ cs.length) : (putCell cs p x)[p]? = some x := by
  unfold putCell
  split
  · next e => subst e; simp
  · rw [List.getElem?_set_self (by omega)]
/-- A place for a new cell: none, or one that is not used. -/
def freeTo (h : HeapM) (p : Nat) : Prop := p ≤ h.cells.length ∧ ∀ c, h.cells[p]? = some c → c.used = false
theorem freeTo_len (h : HeapM) : freeTo h h.cells.length := ⟨Nat.le_refl _, fun c hc => by simp at hc⟩
theorem freeTo_at (h : HeapM) : freeTo h (freeAt h.cells) := ⟨freeAt_le _, fun c hc => freeAt_free hc⟩
theorem setRef_at {cs : List CellM} {k j : Nat} {r : Int} {i : Nat} {c : CellM} (hc : cs[i]? = some c) : (setRef cs k j r)[i]? = some (if i = k then ⟨c.used, c.data, c.refs.set j r⟩ else c) := by
  have hlt := (List.getElem?_eq_some_iff.1 hc).1
  unfold setRef
  by_cases e : i = k
  · subst e
    rw [hc, if_pos rfl]
    simp only
    rw [List.getElem?_set_self hlt]
  · rw [if_neg e]
    split
    · rw [List.getElem?_set_ne (by omega)]; exact hc
    · exact hc
theorem setData_at {cs : List CellM} {k : Nat} {d : Int} {i : Nat} {c : CellM} (hc : cs[i]? = some c) : (setData cs k d)[i]? = some (if i = k then ⟨c.used, d, c.refs⟩ else c) := by
  have hlt := (List.getElem?_eq_some_iff.1 hc).1
  unfold setData
  by_cases e : i = k
  · subst e
    rw [hc, if_pos rfl]
    simp only
    rw [List.getElem?_set_self hlt]
  · rw [if_neg e]
    split
    · rw [List.getElem?_set_ne (by omega)]; exact hc
    · exact hc
/-- Cells that belong together after an instruction. -/
def relX (R : Nat → Nat → Prop) (o : CmdM) (p p' : Nat) (k k' : Nat) : Prop := R k k' ∨ (o.op = 1 ∧ k = p ∧ k' = p')
theorem Sim.exec {R : Nat → Nat → Prop} {h h' : HeapM} (s : Sim R h h') {o : CmdM} (ho : cmdOk o = true) (hp : possO h o = true) {p p' : Nat} (hf : freeTo h p) (hf' : freeTo h' p') : Sim (relX R o p p') (execM h o p) (execM h' o p') := by
  have hp' : possO h' o = true := by rw [← s.poss o]; exact hp
  obtain ⟨o1, o2, a1, a2, -⟩ := cmdOk_parts ho
  have hR0 : ∀ {k k'}, R k k' → k ≠ p := fun {k k'} hr e => by
    obtain ⟨d, rs, rs', h1, -⟩ := s.cell hr
    have := hf.2 _ (e ▸ h1); cases this
  have hR1 : ∀ {k k'}, R k k' → k' ≠ p' := fun {k k'} hr e => by
    obtain ⟨d, rs, rs', -, h1, -⟩ := s.cell hr
    have := hf'.2 _ (e ▸ h1); cases this
  have hmono : ∀ {r r'}, relR R r r' → relR (relX R o p p') r r' := fun h => relR_imp (fun _ _ => .inl) h
  refine ⟨?_, ?_, ?_, ?_⟩
  · rintro a b b' (h1 | ⟨e1, h1, h2⟩) (h3 | ⟨-, h3, h4⟩)
    · exact s.fn h1 h3
    · exact absurd h3 (hR0 h1)
    · exact absurd h1 (hR0 h3)
    · rw [h2, h4]
  · rintro a a' b (h1 | ⟨e1, h1, h2⟩) (h3 | ⟨-, h3, h4⟩)
    · exact s.inj h1 h3
    · exact absurd h4 (hR1 h1)
    · exact absurd h2 (hR1 h3)
    · rw [h1, h3]
  · rintro k k' (hr | ⟨e1, rfl, rfl⟩)
    · obtain ⟨d, rs, rs', h1, h2, h3⟩ := s.cell hr
      have h3' : All2 (relR (relX R o p p')) rs rs' := h3.imp fun _ _ h => hmono h
      unfold execM
      by_cases e1 : o.op = 1
      · simp only [e1, if_true]
        exact ⟨d, rs, rs', put_old h1 (hR0 hr), put_old h2 (hR1 hr), h3'⟩
      · by_cases e2 : o.op = 2
        · simp only [e2, if_true]
          exact ⟨d, rs, rs', h1, h2, h3'⟩
        · by_cases e3 : o.op = 3
          · simp only [e3, if_true]
            have hpl : placeOk h o.a o.c = true := by unfold possO at hp; simpa [e3] using hp
            unfold placeOk at hpl
            simp only [Bool.and_eq_true, decide_eq_true_eq] at hpl
            rcases s.root o.a with ⟨g1, -⟩ | ⟨g1, g2, g3⟩
            · omega
            · by_cases ek : k = (rootAt h o.a).toNat
              · have ek' : k' = (rootAt h' o.a).toNat := by rw [ek] at hr; exact s.fn hr g3
                exact ⟨d, rs.set o.c.toNat (rootAt h o.b), rs'.set o.c.toNat (rootAt h' o.b), by simpa [ek] using setRef_at (j := o.c.toNat) (r := rootAt h o.b) (k := (rootAt h o.a).toNat) h1, by simpa [ek'] using setRef_at (j := o.c.toNat) (r := rootAt h' o.b) (k := (rootAt h' o.a).toNat) h2, h3'.set (hmono (s.root o.b)) _⟩
              · have ek' : k' ≠ (rootAt h' o.a).toNat := fun e => ek (s.inj hr (e ▸ g3))
                exact ⟨d, rs, rs', by simpa [ek] using setRef_at (j := o.c.toNat) (r := rootAt h o.b) (k := (rootAt h o.a).toNat) h1, by simpa [ek'] using setRef_at (j := o.c.toNat) (r := rootAt h' o.b) (k := (rootAt h' o.a).toNat) h2, h3'⟩
          · by_cases e4 : o.op = 4
            · simp only [e4, if_true]
              exact ⟨d, rs, rs', h1, h2, h3'⟩
            · by_cases e5 : o.op = 5
              · simp only [e5, if_true]
                exact ⟨d, rs, rs', h1, h2, h3'⟩
              · have e6 : o.op = 6 := by omega
                have hpl : 0 ≤ rootAt h o.a := by unfold possO at hp; simpa [e6] using hp
                rcases s.root o.a with ⟨g1, -⟩ | ⟨g1, g2, g3⟩
                · omega
                · simp only [e1, e2, e3, e4, e5, if_false]
                  by_cases ek : k = (rootAt h o.a).toNat
                  · have ek' : k' = (rootAt h' o.a).toNat := by rw [ek] at hr; exact s.fn hr g3
                    exact ⟨o.b, rs, rs', by simpa [ek] using setData_at (d := o.b) (k := (rootAt h o.a).toNat) h1, by simpa [ek'] using setData_at (d := o.b) (k := (rootAt h' o.a).toNat) h2, h3'⟩
                  · have ek' : k' ≠ (rootAt h' o.a).toNat := fun e => ek (s.inj hr (e ▸ g3))
                    exact ⟨d, rs, rs', by simpa [ek] using setData_at (d := o.b) (k := (rootAt h o.a).toNat) h1, by simpa [ek'] using setData_at (d := o.b) (k := (rootAt h' o.a).toNat) h2, h3'⟩
    · unfold execM
      simp only [e1, if_true]
      exact ⟨o.c, _, _, put_new hf.1, put_new hf'.1, All2.self fun r hm => .inl (by rw [List.eq_of_mem_replicate hm]; exact ⟨rfl, rfl⟩)⟩
  · have hrt : All2 (relR (relX R o p p')) h.roots h'.roots := s.roots.imp fun _ _ h => hmono h
    unfold execM
    by_cases e1 : o.op = 1
    · simp only [e1, if_true]
      exact hrt.set (.inr ⟨by omega, by omega, .inr ⟨e1, by simp, by simp⟩⟩) _
    · by_cases e2 : o.op = 2
      · simp only [e2, if_true]
        have hpl : placeOk h o.b o.c = true := by unfold possO at hp; simpa [e2] using hp
        exact hrt.set (hmono (s.refOf hpl)) _
      · by_cases e3 : o.op = 3
        · simp only [e3, if_true]; exact hrt
        · by_cases e4 : o.op = 4
          · simp only [e4, if_true]
            exact hrt.set (hmono (s.root o.b)) _
          · by_cases e5 : o.op = 5
            · simp only [e5, if_true]
              exact hrt.set (.inl ⟨rfl, rfl⟩) _
            · simp only [e1, e2, e3, e4, e5, if_false]; exact hrt
theorem Iso.exec {h h' : HeapM} (s : Iso h h') {o : CmdM} (ho : cmdOk o = true) (hp : possO h o = true) {p p' : Nat} (hf : freeTo h p) (hf' : freeTo h' p') : Iso (execM h o p) (execM h' o p') := by
  obtain ⟨R, s⟩ := s; exact ⟨_, s.exec ho hp hf hf'⟩
end Go.Proofs.Ytngmkflmjjkjaaa
