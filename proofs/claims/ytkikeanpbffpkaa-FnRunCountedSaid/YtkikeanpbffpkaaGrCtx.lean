/- Texts of one family, one behind the other: Ctx, Env, Rel. -/
import Derived.Test.YtkikeanpbffpkaaChecked
import Derived.Test.YtkikeanpbffpkaaGrMark
import Derived.RegionTactic
/- Facts that stay while calls make memory of their own. -/
namespace Go.Proofs.Ytkikeanpbffpkaa
open Go.RowKit
/-- A fact that holds now and stays. -/
def Stb (p : World → Prop) (w : World) : Prop := ∀ W, Below w.heap.size w W → p W
section
variable {p q : World → Prop} {w w' : World}
theorem Stb.now (h : Stb p w) : p w := h w (Below.refl _ _)
theorem Stb.step (h : Stb p w) (hB : Below w.heap.size w w') : Stb p w' := fun W hW => h W (hB.trans (hW.mono hB.size))
theorem Stb.and (h : Stb p w) (k : Stb q w) : Stb (fun W => p W ∧ q W) w := fun W hW => ⟨h W hW, k W hW⟩
theorem Stb.rh {v : Value} {h : HeapM} (hh : RH w v h) : Stb (fun W => RH W v h) w := fun _ hW => hh.below hW
theorem Stb.ro {A : Option Addr} {l : List CmdM} (hh : RO w A l) : Stb (fun W => RO W A l) w := fun _ hW => hh.below hW
theorem Stb.below {w0 : World} (h : Below w0.heap.size w0 w) : Stb (fun W => Below w0.heap.size w0 W) w := fun _ hW => h.trans (hW.mono h.size)
theorem Stb.cell {a : Addr} {v : Value} (h : w.cell? a = some v) : Stb (fun W => W.cell? a = some v) w := fun _ hW => cell_below h hW
end
/-- Whatever the world at a call is: what is known of it serves. -/
theorem Calls.gen {P : Program} {f : FuncId} {args : Array Value} {w : World} {Q : Ending → World → Prop} (F : World → Prop) (hF : F w) (h : ∀ W, F W → Calls P f args W Q) : Calls P f args w Q := h w hF
theorem Code.gen {P : Program} {cd : Code} {Q : Exit → Act → World → Prop} {a : Act} {w : World} (F : World → Prop) (hF : F w) (h : ∀ W, F W → cd.wp P Q a W) : cd.wp P Q a w := h w hF
theorem RH.parts {w : World} {v : Value} {h : HeapM} (hh : RH w v h) : ∃ A c A' c', v = .agg #[.slice A h.cells.length c, .slice A' h.roots.length c'] := by
  obtain ⟨A, c, A', c', e, -⟩ := hh
  exact ⟨A, c, A', c', e⟩
theorem RH.inv {w : World} {A A' : Option Addr} {m c m' c' : Nat} {h : HeapM} (hh : RH w (.agg #[.slice A m c, .slice A' m' c']) h) : RC w A h.cells ∧ RF fi w A' h.roots ∧ h.cells.length ≤ 9223372036854775807 ∧ h.roots.length ≤ 9223372036854775807 := by
  obtain ⟨B, d, B', d', e, h1, h2, h3, h4⟩ := hh
  simp only [Value.agg.injEq, Array.mk.injEq, List.cons.injEq, Value.slice.injEq] at e
  obtain ⟨⟨rfl, -, -⟩, ⟨rfl, -, -⟩, -⟩ := e
  exact ⟨h1, h2, h3, h4⟩
/-- A box of values of the call's own. -/
structure Bx (W : World) (b : Nat) (vs : List Value) : Prop where
  c : ∀ i v, vs[i]? = some v → W.cell? ⟨b, i, none⟩ = some v
  f : ∀ o, W.frozen? ⟨b, o, none⟩ = false
  lt : b < W.heap.size
section
variable {W W' : World} {b : Nat} {vs : List Value}
theorem Bx.new (W : World) (vs : List Value) (T : TypeId) : Bx (W.alloc (.cells vs.toArray T (0, 0))) W.heap.size vs :=
  ⟨fun i v h => by
    rw [World.cell?_alloc_at _ _ _ i rfl]
    simpa using h, fun o => by simp [go_sem], by simp⟩
theorem Bx.keep (h : Bx W b vs) (hk : W'.heap[b]? = W.heap[b]?) (hz : W.heap.size ≤ W'.heap.size) : Bx W' b vs :=
  ⟨fun i v hi => (World.cell?_of_block (a := ⟨b, i, none⟩) hk).trans (h.c i v hi), fun o => (World.frozen?_of_block (a := ⟨b, o, none⟩) hk).trans (h.f o), Nat.lt_of_lt_of_le h.lt hz⟩
theorem Bx.below (h : Bx W b vs) (hB : Below W.heap.size W W') : Bx W' b vs := h.keep (hB.block b h.lt) hB.size
theorem Bx.only {S : List Nat} (h : Bx W b vs) (hO : Only S W W') (hs : b ∉ S) : Bx W' b vs := h.keep (hO.block b h.lt hs) hO.size
end
end Go.Proofs.Ytkikeanpbffpkaa

/- Facts that stay, one beside the other: the state of a law's walk. -/
namespace Go.Proofs.Ytkikeanpbffpkaa
open Go.RowKit
section
variable {p q : World → Prop} {w w' : World}
theorem Stb.bx {b : Nat} {vs : List Value} (h : Bx w b vs) : Stb (fun W => Bx W b vs) w := fun _ hW => h.below hW
theorem Stb.rct {v : Value} {p : CountM} (h : RCt w v p) : Stb (fun W => RCt W v p) w := fun _ hW => h.below hW
theorem Stb.rf {α : Type} {f : α → Value} {A : Option Addr} {xs : List α} (h : RF f w A xs) : Stb (fun W => RF f W A xs) w := fun _ hW => h.below hW
theorem Stb.refl (w : World) : Stb (fun W => Below w.heap.size w W) w := fun _ hW => hW
/-- What is known at the beginning. -/
theorem Stb.here {w0 : World} (hB : Below w0.heap.size w0 w) : Stb (fun W => Below w0.heap.size w0 W) w := Stb.below hB
end
theorem RPt.parts {w : World} {v : Value} {p : PaintM} (h : RPt w v p) : ∃ A c A' c' A2 c2, v = .agg #[.slice A p.store.cells.length c, .slice A' p.store.roots.length c', .slice A2 p.colours.length c2, .bool p.active] := by
  obtain ⟨A, c, A', c', A2, c2, e, -⟩ := h
  exact ⟨A, c, A', c', A2, c2, e⟩
theorem RTw.parts {w : World} {v : Value} {p : TwoM} (h : RTw w v p) : ∃ A c A' c' A2 c2 A3 c3, v = .agg #[.slice A p.store.cells.length c, .slice A' p.store.roots.length c', .slice A2 p.x.length c2, .slice A3 p.y.length c3] := by
  obtain ⟨A, c, A', c', A2, c2, A3, c3, e, -⟩ := h
  exact ⟨A, c, A', c', A2, c2, A3, c3, e⟩
theorem RCt.parts {w : World} {v : Value} {p : CountM} (h : RCt w v p) : ∃ A c A' c' A2 c2, v = .agg #[.slice A p.store.cells.length c, .slice A' p.store.roots.length c', .slice A2 p.counts.length c2] := by
  obtain ⟨A, c, A', c', A2, c2, e, -⟩ := h
  exact ⟨A, c, A', c', A2, c2, e⟩
section
variable {w : World} {A A' A2 A3 : Option Addr} {m c m' c' m2 c2 m3 c3 : Nat} {b : Bool}
theorem RPt.inv {p : PaintM} (h : RPt w (.agg #[.slice A m c, .slice A' m' c', .slice A2 m2 c2, .bool b]) p) : RHs w A A' p.store ∧ RF fi w A2 p.colours ∧ p.colours.length ≤ 9223372036854775807 ∧ m = p.store.cells.length ∧ m' = p.store.roots.length := by
  obtain ⟨B, d, B', d', B2, d2, e, h1, h2, h3⟩ := h
  simp only [Value.agg.injEq, Array.mk.injEq, List.cons.injEq, Value.slice.injEq] at e
  obtain ⟨⟨rfl, e1, -⟩, ⟨rfl, e2, -⟩, ⟨rfl, -, -⟩, -⟩ := e
  exact ⟨h1, h2, h3, e1, e2⟩
theorem RPt.st {p : PaintM} (h : RPt w (.agg #[.slice A m c, .slice A' m' c', .slice A2 m2 c2, .bool b]) p) : RH w (.agg #[.slice A m c, .slice A' m' c']) p.store := by
  obtain ⟨h1, -, -, rfl, rfl⟩ := h.inv
  exact h1.rh _ _
theorem RPt.co {p : PaintM} (h : RPt w (.agg #[.slice A m c, .slice A' m' c', .slice A2 m2 c2, .bool b]) p) : RF fi w A2 p.colours := h.inv.2.1
theorem RPt.ln {p : PaintM} (h : RPt w (.agg #[.slice A m c, .slice A' m' c', .slice A2 m2 c2, .bool b]) p) : p.colours.length ≤ 9223372036854775807 := h.inv.2.2.1
theorem RTw.inv {p : TwoM} (h : RTw w (.agg #[.slice A m c, .slice A' m' c', .slice A2 m2 c2, .slice A3 m3 c3]) p) : RHs w A A' p.store ∧ RF fb w A2 p.x ∧ p.x.length ≤ 9223372036854775807 ∧ RF fb w A3 p.y ∧ p.y.length ≤ 9223372036854775807 ∧ m = p.store.cells.length ∧ m' = p.store.roots.length := by
  obtain ⟨B, d, B', d', B2, d2, B3, d3, e, h1, h2, h3, h4, h5⟩ := h
  simp only [Value.agg.injEq, Array.mk.injEq, List.cons.injEq, Value.slice.injEq] at e
  obtain ⟨⟨rfl, e1, -⟩, ⟨rfl, e2, -⟩, ⟨rfl, -, -⟩, ⟨rfl, -, -⟩, -⟩ := e
  exact ⟨h1, h2, h3, h4, h5, e1, e2⟩
theorem RTw.st {p : TwoM} (h : RTw w (.agg #[.slice A m c, .slice A' m' c', .slice A2 m2 c2, .slice A3 m3 c3]) p) : RH w (.agg #[.slice A m c, .slice A' m' c']) p.store := by
  obtain ⟨h1, -, -, -, -, rfl, rfl⟩ := h.inv
  exact h1.rh _ _
theorem RCt.inv {p : CountM} (h : RCt w (.agg #[.slice A m c, .slice A' m' c', .slice A2 m2 c2]) p) : RHs w A A' p.store ∧ RF fi w A2 p.counts ∧ p.counts.length ≤ 9223372036854775807 ∧ m = p.store.cells.length ∧ m' = p.store.roots.length := by
  obtain ⟨B, d, B', d', B2, d2, e, h1, h2, h3⟩ := h
  simp only [Value.agg.injEq, Array.mk.injEq, List.cons.injEq, Value.slice.injEq] at e
  obtain ⟨⟨rfl, e1, -⟩, ⟨rfl, e2, -⟩, ⟨rfl, -, -⟩, -⟩ := e
  exact ⟨h1, h2, h3, e1, e2⟩
theorem RCt.st {p : CountM} (h : RCt w (.agg #[.slice A m c, .slice A' m' c', .slice A2 m2 c2]) p) : RH w (.agg #[.slice A m c, .slice A' m' c']) p.store := by
  obtain ⟨h1, -, -, rfl, rfl⟩ := h.inv
  exact h1.rh _ _
theorem RCt.co {p : CountM} (h : RCt w (.agg #[.slice A m c, .slice A' m' c', .slice A2 m2 c2]) p) : RF fi w A2 p.counts := h.inv.2.1
theorem RCt.ln {p : CountM} (h : RCt w (.agg #[.slice A m c, .slice A' m' c', .slice A2 m2 c2]) p) : p.counts.length ≤ 9223372036854775807 := h.inv.2.2.1
end
end Go.Proofs.Ytkikeanpbffpkaa

/- A region that draws its order, by one fact for each operation: each operation, in whatever world and whatever else has been done, yields a value of which its fact holds, and all facts stay. -/
namespace Go.Proofs.Ytkikeanpbffpkaa
open Go
/-- The value of one more operation. -/
def upd (x : Nat → Value) (i : Nat) (v : Value) : Nat → Value := fun k => bif Nat.beq k i then v else x k
theorem upd_self (x : Nat → Value) (i : Nat) (v : Value) : upd x i v i = v := by simp [upd]
theorem upd_ne {x : Nat → Value} {i k : Nat} {v : Value} (h : k ≠ i) : upd x i v k = x k := by
  have : Nat.beq k i = false := by rw [Bool.eq_false_iff]; intro h9; exact h (Nat.eq_of_beq_eq_true h9)
  simp [upd, this]
/-- Operations that have not been done. -/
def unl (l : List Bool) : Nat := (l.filter (fun b => !b)).length
theorem unl_set : ∀ (l : List Bool) (i : Nat), l[i]? = some false → unl (l.set i true) + 1 = unl l
  | [], _, h => by simp at h
  | b :: l, 0, h => by simp at h; subst h; simp [unl]
  | b :: l, i + 1, h => by
    have h9 := unl_set l i (by simpa using h)
    cases b <;> simp [unl] at h9 ⊢ <;> omega
theorem unl_pos : ∀ (l : List Bool) (i : Nat), l[i]? = some false → 0 < unl l := fun l i h => by have := unl_set l i h; omega
/-- The frame: the slots that operations fill, by the operations' values. -/
def fill (sl : List (Nat × Nat)) (x : Nat → Value) : Nat → List Value → List Value
  | _, [] => []
  | k, u :: us => (match sl.lookup k with | some i => x i | none => u) :: fill sl x (k + 1) us
theorem fill_get (sl : List (Nat × Nat)) (x : Nat → Value) : ∀ (us : List Value) (k j : Nat), (fill sl x k us)[j]? = us[j]?.map (fun u => match sl.lookup (k + j) with | some i => x i | none => u)
  | [], _, _ => by simp [fill]
  | u :: us, k, 0 => by simp [fill]
  | u :: us, k, j + 1 => by
    simp only [fill, List.getElem?_cons_succ]
    rw [fill_get sl x us (k + 1) j, show k + 1 + j = k + (j + 1) by omega]
def frOf (a : Act) (sl : List (Nat × Nat)) (x : Nat → Value) : Act := ⟨(fill sl x 0 a.tmps.toList).toArray, a.defers⟩
def bit (l : Array Bool) (i : Nat) : Bool := l.getD i false
theorem bit_set {l : Array Bool} {i j : Nat} (hi : i < l.size) : bit (l.setIfInBounds i true) j = (if i = j then true else bit l j) := by
  unfold bit
  simp only [Array.getD_eq_getD_getElem?, Array.getElem?_setIfInBounds]
  split <;> simp_all
def direct (o : Oper) : List Nat := o.after.toList.filterMap fun e => if Region.binds .any e then some e.on else none
/-- What the text of the region must show. -/
def relChk (ops : Array Oper) (L0 L1 : Array Bool) (rs : List Nat) (D : List (Nat × List Nat)) (sl : List (Nat × Nat)) : Bool :=
  L0.size == ops.size && L1.size == ops.size &&
  (List.range ops.size).all fun i =>
    match ops[i]? with
    | none => false
    | some o =>
      let nd := direct o
      nd.all (fun e => Nat.blt e i) &&
      (!bit L0 i || bit L1 i) &&
      (!(bit L1 i && !bit L0 i) || rs.contains i) &&
      (((D.lookup i).getD []).all fun d => nd.contains d || nd.any fun e => ((D.lookup e).getD []).contains d) &&
      (!bit L0 i || ((D.lookup i).getD []).isEmpty) &&
      (((D.lookup i).getD []).all fun d => !bit L0 d) &&
      (bit L1 i || (List.range ops.size).all fun j => !bit L1 j || bit L0 j || ((D.lookup i).getD []).contains j) &&
      (bit L0 i || !bit L1 i || (match o.dst with | some d => (sl.lookup d == some i) && sl.all (fun p => (p.2 != i) || (p.1 == d)) | none => sl.all (fun p => p.2 != i)))
section
variable {P : Program} {ops : Array Oper} {Q : Exit → Act → World → Prop}
theorem frOf_put {a : Act} {sl : List (Nat × Nat)} {x : Nat → Value} {dst : Option Tmp} {i : Nat} {v : Value}
    (h : ∀ d, dst = some d → sl.lookup d = some i) (hn : ∀ p ∈ sl, p.2 = i → dst = some p.1) : (frOf a sl x).put dst v = frOf a sl (upd x i v) := by
  have key : ∀ k j : Nat, sl.lookup k = some j → (k, j) ∈ sl := by
    intro k j
    induction sl with
    | nil => simp
    | cons p ps ih =>
      intro h9
      obtain ⟨p1, p2⟩ := p
      simp only [List.lookup_cons] at h9
      split at h9
      · rename_i he; simp at he; injection h9 with h9; subst he; subst h9; simp
      · exact List.mem_cons_of_mem _ (by
          clear ih h hn
          revert h9
          induction ps with
          | nil => simp
          | cons q qs ih2 =>
            intro h9
            obtain ⟨q1, q2⟩ := q
            simp only [List.lookup_cons] at h9
            split at h9
            · rename_i he; simp at he; injection h9 with h9; subst he; subst h9; simp
            · exact List.mem_cons_of_mem _ (ih2 h9))
  have hval : ∀ k u, (match sl.lookup k with | some j => upd x i v j | none => u) = if dst = some k then v else (match sl.lookup k with | some j => x j | none => u) := by
    intro k u
    by_cases hk : dst = some k
    · rw [if_pos hk, h k hk]; simp [upd_self]
    · rw [if_neg hk]
      cases hl : sl.lookup k with
      | none => rfl
      | some j =>
        have : j ≠ i := fun e => hk (hn _ (key k j hl) e)
        simp [upd_ne this]
  unfold frOf
  cases dst with
  | none =>
    simp only [Act.put]
    congr 2
    apply List.ext_getElem?
    intro j
    rw [fill_get, fill_get]
    congr 1
    funext u
    rw [hval]; simp
  | some d =>
    simp only [Act.put]
    congr 1
    rw [List.setIfInBounds_toArray]
    congr 1
    apply List.ext_getElem?
    intro j
    rw [List.getElem?_set, fill_get, fill_get]
    simp only [Nat.zero_add]
    by_cases hd : d = j
    · subst hd
      simp only [if_true]
      cases hu : a.tmps.toList[d]? with
      | none =>
        have hlen : ¬ d < (fill sl x 0 a.tmps.toList).length := by
          intro hlt
          have h9 := fill_get sl x a.tmps.toList 0 d
          rw [List.getElem?_eq_getElem hlt, hu] at h9
          simp at h9
        simp only [hlen]
        simp
      | some u =>
        have hlen : d < (fill sl x 0 a.tmps.toList).length := by
          apply Nat.lt_of_not_le
          intro hge
          have h9 := fill_get sl x a.tmps.toList 0 d
          rw [List.getElem?_eq_none hge, hu] at h9
          simp at h9
        simp only [hlen, if_true, Option.map_some]
        rw [h d rfl]
        simp [upd_self]
    · rw [if_neg hd]
      congr 1
      funext u
      rw [hval]
      simp [hd]
/-- One operation. -/
def RStep (P : Program) (ops : Array Oper) (Q : Exit → Act → World → Prop) (fr : (Nat → Value) → Act) (I : Nat → World → Prop) (V : Nat → Value → World → Prop) (G : World → World → Prop) (D : List (Nat × List Nat)) (i : Nat) : Prop :=
  ∀ (x : Nat → Value) (W : World) (f : Nat), I (f + 1) W → (∀ d ∈ (D.lookup i).getD [], V d (x d) W) →
    wpOp P ops Q i (fun a' W' => ∃ (v : Value) (o : Oper), ops[i]? = some o ∧ a' = (fr x).put o.dst v ∧ G W W' ∧ I f W' ∧ V i v W') (fr x) W
theorem range_all {n : Nat} {p : Nat → Bool} (h : (List.range n).all p = true) {i : Nat} (hi : i < n) : p i = true := by
  rw [List.all_eq_true] at h; exact h i (List.mem_range.2 hi)
theorem bit_lt {l : Array Bool} {i : Nat} (h : bit l i = true) : i < l.size := by
  apply Nat.lt_of_not_le; intro hge
  simp [bit, Array.getD_eq_getD_getElem?, Array.getElem?_eq_none hge] at h
theorem bit_getD {l : Array Bool} {i : Nat} (hi : i < l.size) : l.getD i true = bit l i := by
  simp [bit, Array.getD_eq_getD_getElem?, Array.getElem?_eq_getElem hi]
theorem ready_iff {i : Nat} {listed : Array Bool} (hs : listed.size = ops.size) :
    i ∈ Region.ready .any ops listed ↔ ∃ o, ops[i]? = some o ∧ bit listed i = false ∧ ∀ e ∈ direct o, bit listed e = true := by
  unfold Region.ready
  rw [List.mem_filter, List.mem_range]
  constructor
  · rintro ⟨hi, h⟩
    refine ⟨ops[i], Array.getElem?_eq_getElem hi, ?_, ?_⟩
    · rw [bit_getD (by omega)] at h
      simp at h
      exact h.1
    · rw [Array.getElem?_eq_getElem hi] at h
      simp only [Option.map_some, Option.getD_some, Bool.and_eq_true] at h
      have h2 := h.2
      intro e he
      unfold direct at he
      rw [List.mem_filterMap] at he
      obtain ⟨ed, hed, h3⟩ := he
      split at h3
      · rename_i hb
        injection h3 with h3
        subst h3
        rw [Array.all_eq_true_iff_forall_mem] at h2
        have h4 := h2 ed (by simpa using hed)
        simpa [hb, bit] using h4
      · cases h3
  · rintro ⟨o, ho, h1, h2⟩
    have hi : i < ops.size := by
      apply Nat.lt_of_not_le; intro hge; rw [Array.getElem?_eq_none hge] at ho; cases ho
    refine ⟨hi, ?_⟩
    rw [bit_getD (by omega), h1, ho]
    simp only [Option.map_some, Option.getD_some, Bool.and_eq_true]
    refine ⟨rfl, ?_⟩
    rw [Array.all_eq_true_iff_forall_mem]
    intro ed hed
    by_cases hb : Region.binds .any ed = true
    · have := h2 ed.on (by unfold direct; rw [List.mem_filterMap]; exact ⟨ed, by simpa using hed, by simp [hb]⟩)
      unfold bit at this
      simp [hb, this]
    · simp [hb]
theorem wpAny_rel {sl : List (Nat × Nat)} {a : Act} {I : Nat → World → Prop} {V : Nat → Value → World → Prop} {G : World → World → Prop} {D : List (Nat × List Nat)} {L0 L1 : Array Bool} {rs : List Nat}
    (hchk : relChk ops L0 L1 rs D sl = true)
    (hmono : ∀ i v W W', G W W' → V i v W → V i v W')
    (hstep : ∀ i ∈ rs, RStep P ops Q (frOf a sl) I V G D i)
    (hend : ∀ x W, I (unl L1.toList) W → (∀ i, bit L1 i = true → bit L0 i = false → V i (x i) W) → wpAny P .any ops Q (unl L1.toList) L1 (frOf a sl x) W) :
    ∀ (f : Nat) (listed : Array Bool) (x : Nat → Value) (W : World), listed.size = ops.size → unl listed.toList = f → (∀ j, bit L0 j = true → bit listed j = true) → (∀ j, bit listed j = true → bit L1 j = true) →
      (∀ j, bit listed j = true → ∀ d ∈ (D.lookup j).getD [], bit listed d = true) → I f W → (∀ j, bit listed j = true → bit L0 j = false → V j (x j) W) →
      wpAny P .any ops Q f listed (frOf a sl x) W := by
  unfold relChk at hchk
  simp only [Bool.and_eq_true] at hchk
  obtain ⟨⟨hz0, hz1⟩, hall⟩ := hchk
  have hz0 : L0.size = ops.size := by simpa using hz0
  have hz1 : L1.size = ops.size := by simpa using hz1
  have hop : ∀ i o, ops[i]? = some o → _ := fun i o ho => range_all hall (i := i) (by
    apply Nat.lt_of_not_le; intro hge; rw [Array.getElem?_eq_none hge] at ho; cases ho)
  intro f
  induction f with
  | zero =>
    intro listed x W hs hu h0 h1 hc hI hV
    have hfull : ∀ j, j < ops.size → bit listed j = true := by
      intro j hj
      cases hb : bit listed j with
      | true => rfl
      | false =>
        exfalso
        have := unl_pos listed.toList j (by
          unfold bit at hb
          rw [Array.getElem?_toList, Array.getElem?_eq_getElem (by omega)]
          rw [Array.getD_eq_getD_getElem?, Array.getElem?_eq_getElem (by omega)] at hb
          simpa using hb)
        omega
    have hL : listed = L1 := by
      apply Array.ext (by omega)
      intro j hj1 hj2
      have e1 := hfull j (by omega)
      have e2 := h1 j e1
      unfold bit at e1 e2
      rw [Array.getD_eq_getD_getElem?, Array.getElem?_eq_getElem hj1] at e1
      rw [Array.getD_eq_getD_getElem?, Array.getElem?_eq_getElem hj2] at e2
      simp at e1 e2
      rw [e1, e2]
    subst hL
    have h9 := hend x W (by rw [hu]; exact hI) hV
    rw [hu] at h9
    exact h9
  | succ f ih =>
    intro listed x W hs hu h0 h1 hc hI hV
    by_cases hdone : ∀ j, bit L1 j = true → bit listed j = true
    · have hL : listed = L1 := by
        apply Array.ext (by omega)
        intro j hj1 hj2
        have e1 := h1 j
        have e2 := hdone j
        unfold bit at e1 e2
        simp only [Array.getD_eq_getD_getElem?, Array.getElem?_eq_getElem hj1, Array.getElem?_eq_getElem hj2, Option.getD_some] at e1 e2
        rw [Bool.eq_iff_iff]
        exact ⟨e1, e2⟩
      subst hL
      have h9 := hend x W (by rw [hu]; exact hI) hV
      rw [hu] at h9
      exact h9
    · have hex : ∃ j, bit L1 j = true ∧ bit listed j = false := by
        apply Classical.byContradiction
        intro hno
        apply hdone
        intro j hj
        cases hb : bit listed j with
        | true => rfl
        | false => exact absurd ⟨j, hj, hb⟩ hno
      obtain ⟨j1, hj1, hj1f⟩ := hex
      have hj1lt : j1 < ops.size := by have := bit_lt hj1; omega
      have htailno : ∀ i o, ops[i]? = some o → (∀ d ∈ (D.lookup i).getD [], bit listed d = true) → bit L1 i = true := by
        intro i o ho hD
        have hq := hop i o ho
        simp only [ho, Bool.and_eq_true] at hq
        obtain ⟨⟨_, hq⟩, _⟩ := hq
        cases hb : bit L1 i with
        | true => rfl
        | false =>
          exfalso
          rw [hb, Bool.false_or] at hq
          have h9 := range_all hq hj1lt
          rw [hj1] at h9
          simp only [Bool.not_true, Bool.false_or, Bool.or_eq_true] at h9
          rcases h9 with h9 | h9
          · have := h0 j1 h9; rw [hj1f] at this; cases this
          · have := hD j1 (by simpa using h9); rw [hj1f] at this; cases this
      have hDready : ∀ i o, ops[i]? = some o → (∀ e ∈ direct o, bit listed e = true) → ∀ d ∈ (D.lookup i).getD [], bit listed d = true := by
        intro i o ho hdir d hd
        have hq := hop i o ho
        simp only [ho, Bool.and_eq_true] at hq
        obtain ⟨⟨⟨⟨⟨⟨⟨_, _⟩, _⟩, hq⟩, _⟩, _⟩, _⟩, _⟩ := hq
        rw [List.all_eq_true] at hq
        have h9 := hq d hd
        simp only [Bool.or_eq_true, List.any_eq_true] at h9
        rcases h9 with h9 | ⟨e, he, h9⟩
        · exact hdir d (by simpa using h9)
        · exact hc e (hdir e he) d (by simpa using h9)
      have hrne : Region.ready .any ops listed ≠ [] := by
        -- the least one that has not been done
        have hleast : ∀ k, k ≤ ops.size → (∀ j, j < k → bit listed j = true) ∨ ∃ j, j < k ∧ j ∈ Region.ready .any ops listed := by
          intro k
          induction k with
          | zero => intro _; exact .inl (fun j hj => by omega)
          | succ k ihk =>
            intro hk
            rcases ihk (by omega) with h9 | ⟨j, hj, h9⟩
            · cases hb : bit listed k with
              | true => exact .inl (fun j hj => by
                  by_cases h8 : j = k
                  · subst h8; exact hb
                  · exact h9 j (by omega))
              | false =>
                refine .inr ⟨k, by omega, (ready_iff hs).2 ⟨ops[k], Array.getElem?_eq_getElem (by omega), hb, ?_⟩⟩
                have hq := hop k ops[k] (Array.getElem?_eq_getElem (by omega))
                simp only [Array.getElem?_eq_getElem (show k < ops.size by omega), Bool.and_eq_true] at hq
                obtain ⟨⟨⟨⟨⟨⟨⟨hq, _⟩, _⟩, _⟩, _⟩, _⟩, _⟩, _⟩ := hq
                rw [List.all_eq_true] at hq
                intro e he
                have h8 := hq e he
                exact h9 e (by simpa using h8)
            · exact .inr ⟨j, by omega, h9⟩
        rcases hleast ops.size (Nat.le_refl _) with h9 | ⟨j, _, h9⟩
        · have := h9 j1 hj1lt; rw [hj1f] at this; cases this
        · intro e; rw [e] at h9; cases h9
      refine ⟨fun e => absurd e hrne, fun i hi => ?_⟩
      obtain ⟨o, ho, hbi, hdir⟩ := (ready_iff hs).1 hi
      have hilt : i < ops.size := by
        apply Nat.lt_of_not_le; intro hge; rw [Array.getElem?_eq_none hge] at ho; cases ho
      have hDl := hDready i o ho hdir
      have hi1 := htailno i o ho hDl
      have hi0 : bit L0 i = false := by
        cases hb : bit L0 i with
        | false => rfl
        | true => have := h0 i hb; rw [hbi] at this; cases this
      have hq := hop i o ho
      simp only [ho, Bool.and_eq_true] at hq
      obtain ⟨⟨⟨⟨⟨⟨⟨_, _⟩, hqrs⟩, _⟩, _⟩, hqD0⟩, _⟩, hqsl⟩ := hq
      have hirs : i ∈ rs := by
        rw [hi1, hi0] at hqrs
        simpa using hqrs
      rw [List.all_eq_true] at hqD0
      refine wpOp_mono ?_ (hstep i hirs x W f hI (fun d hd => hV d (hDl d hd) (by have := hqD0 d hd; simpa using this)))
      rintro a' W' ⟨v, o', ho', rfl, hG, hI', hVi⟩
      rw [ho] at ho'
      injection ho' with ho'
      subst ho'
      rw [frOf_put (i := i) ?_ ?_]
      · refine ih (listed.setIfInBounds i true) (upd x i v) W' (by simpa using hs) ?_ ?_ ?_ ?_ hI' ?_
        · have h9 := unl_set listed.toList i (by
            unfold bit at hbi
            rw [Array.getElem?_toList, Array.getElem?_eq_getElem (by omega)]
            rw [Array.getD_eq_getD_getElem?, Array.getElem?_eq_getElem (by omega)] at hbi
            simpa using hbi)
          rw [Array.toList_setIfInBounds]
          omega
        · intro j hj
          rw [bit_set (by omega)]
          split
          · rfl
          · exact h0 j hj
        · intro j hj
          rw [bit_set (by omega)] at hj
          split at hj
          · rename_i he; subst he; exact hi1
          · exact h1 j hj
        · intro j hj d hd
          rw [bit_set (by omega)] at hj ⊢
          split
          · rfl
          · split at hj
            · rename_i he; subst he; exact hDl d hd
            · exact hc j hj d hd
        · intro j hj hj0
          rw [bit_set (by omega)] at hj
          by_cases he : i = j
          · subst he; rw [upd_self]; exact hVi
          · rw [if_neg he] at hj
            rw [upd_ne (fun e => he e.symm)]
            exact hmono j _ W W' hG (hV j hj hj0)
      · intro d hd
        rw [hd, hi0, hi1] at hqsl
        simp at hqsl
        exact hqsl.1
      · intro p hp hpi
        rw [hi0, hi1] at hqsl
        cases hd : o.dst with
        | none =>
          rw [hd] at hqsl
          simp at hqsl
          exact absurd hpi (hqsl p.1 p.2 hp)
        | some d =>
          rw [hd] at hqsl
          simp at hqsl
          have := (hqsl.2 p.1 p.2 hp).resolve_left (fun h => h hpi)
          rw [this]
theorem lookup_mem {sl : List (Nat × Nat)} {k j : Nat} : sl.lookup k = some j → (k, j) ∈ sl := by
  induction sl with
  | nil => simp
  | cons p ps ih =>
    intro h9
    obtain ⟨p1, p2⟩ := p
    simp only [List.lookup_cons] at h9
    split at h9
    · rename_i he; simp at he; injection h9 with h9; subst he; subst h9; simp
    · exact List.mem_cons_of_mem _ (ih h9)
theorem frOf_self (a : Act) (sl : List (Nat × Nat)) (h : (sl.all fun p => sl.all fun q => p.2 != q.2 || p.1 == q.1) = true) : ∃ x, frOf a sl x = a := by
  refine ⟨fun i => match sl.find? (fun p => p.2 == i) with | some p => a.tmps.getD p.1 undef | none => undef, ?_⟩
  unfold frOf
  obtain ⟨tm, df⟩ := a
  simp only [Act.mk.injEq, and_true]
  apply Array.toList_inj.1
  simp only
  apply List.ext_getElem?
  intro j
  rw [fill_get]
  cases hu : tm.toList[j]? with
  | none => rfl
  | some u =>
    simp only [Option.map_some, Nat.zero_add, Option.some.injEq]
    cases hl : sl.lookup j with
    | none => rfl
    | some i =>
      have hm := lookup_mem hl
      simp only
      cases hf : sl.find? (fun p => p.2 == i) with
      | none =>
        rw [List.find?_eq_none] at hf
        exact absurd (hf _ hm) (by simp)
      | some p =>
        have h1 := List.find?_some hf
        have h2 := List.mem_of_find?_eq_some hf
        rw [List.all_eq_true] at h
        have h3 := h _ h2
        rw [List.all_eq_true] at h3
        have h4 := h3 _ hm
        have h5 : p.2 = i := by simpa using h1
        have h6 : p.1 = j := by simpa [h5] using h4
        simp only [h6]
        rw [Array.getD_eq_getD_getElem?, ← Array.getElem?_toList, hu]
        rfl
theorem RStep.of {fr : (Nat → Value) → Act} {I : Nat → World → Prop} {V : Nat → Value → World → Prop} {G : World → World → Prop} {D : List (Nat × List Nat)} {i : Nat} {o : Oper} (ho : ops[i]? = some o)
    (h : ∀ (x : Nat → Value) (W : World) (f : Nat), I (f + 1) W → (∀ d ∈ (D.lookup i).getD [], V d (x d) W) → ∀ K : Act → World → Prop, (∀ v a' W', a' = (fr x).put o.dst v → G W W' → I f W' → V i v W' → K a' W') →
      if Region.wanted o (yielded ops (fr x).tmps) = true then Oper.wp P o (fr x) W K Q else K ((fr x).put o.dst undef) W) : RStep P ops Q fr I V G D i := by
  intro x W f hI hD
  exact wpOp_step ho fun K hK => h x W f hI hD K fun v a' W' ha hG hI' hV => hK _ _ ⟨v, o, ho, ha, hG, hI', hV⟩
theorem Steps.nil {p : Nat → Prop} : ∀ i ∈ ([] : List Nat), p i := fun _ h => by cases h
theorem Steps.cons {p : Nat → Prop} {i : Nat} {rs : List Nat} (h : p i) (hs : ∀ j ∈ rs, p j) : ∀ j ∈ i :: rs, p j := fun j hj => by
  rcases List.mem_cons.1 hj with rfl | hj
  · exact h
  · exact hs j hj
/-- The facts, one for each operation, as a list. -/
def VV (VL : List (Value → World → Prop)) (i : Nat) (v : Value) (W : World) : Prop := match VL[i]? with | some p => p v W | none => True
def tt : Value → World → Prop := fun _ _ => True
theorem Pm.nil {G : World → World → Prop} : ∀ p ∈ ([] : List (Value → World → Prop)), ∀ v W W', G W W' → p v W → p v W' := fun _ h => by cases h
theorem Pm.cons {G : World → World → Prop} {p : Value → World → Prop} {VL : List (Value → World → Prop)} (h : ∀ v W W', G W W' → p v W → p v W') (hs : ∀ p ∈ VL, ∀ v W W', G W W' → p v W → p v W') : ∀ q ∈ p :: VL, ∀ v W W', G W W' → q v W → q v W' := fun q hq => by
  rcases List.mem_cons.1 hq with rfl | hq
  · exact h
  · exact hs q hq
/-- A region that draws its order, from a state on in which some operations have been done. -/
theorem rel_at {R : Nat → Array Bool → Act → World → Prop} (hR : R = wpAny P .any ops Q) {f0 : Nat} {L0 : Array Bool} {a : Act} {W0 : World}
    (I : Nat → World → Prop) (VL : List (Value → World → Prop)) (G : World → World → Prop) (D : List (Nat × List Nat)) (sl : List (Nat × Nat)) (rs : List Nat) (L1 : Array Bool) (n0 k1 : Nat)
    {fr : (Nat → Value) → Act} (hchk : (relChk ops L0 L1 rs D sl && (rs.all fun i => bit L1 i && !bit L0 i) && (sl.all fun p => sl.all fun q => p.2 != q.2 || p.1 == q.1) && (unl L1.toList == k1) && (unl L0.toList == n0)) = true) (hn0 : f0 = n0)
    (hfr : ∀ x, frOf a sl x = fr x) (h0 : I n0 W0) (hmono : ∀ p ∈ VL, ∀ v W W', G W W' → p v W → p v W')
    (hsteps : ∀ i ∈ rs, RStep P ops Q fr I (VV VL) G D i)
    (hend : ∀ x W, I k1 W → (∀ i ∈ rs, VV VL i (x i) W) → R k1 L1 (fr x) W) : R f0 L0 a W0 := by
  subst hR
  subst hn0
  simp only [Bool.and_eq_true] at hchk
  obtain ⟨⟨⟨⟨hchk, hrs⟩, hsl⟩, hk⟩, hk0⟩ := hchk
  have hk : unl L1.toList = k1 := by simpa using hk
  have hk0 : unl L0.toList = f0 := by simpa using hk0
  have hfe : frOf a sl = fr := funext hfr
  subst hfe
  obtain ⟨x0, hx0⟩ := frOf_self a sl hsl
  have hmono' : ∀ i v W W', G W W' → VV VL i v W → VV VL i v W' := by
    intro i v W W' hG h
    unfold VV at h ⊢
    cases hp : VL[i]? with
    | none => trivial
    | some p => rw [hp] at h; exact hmono p (List.mem_of_getElem? hp) v W W' hG h
  have hL : ∀ j, bit L0 j = true → ((D.lookup j).getD []) = [] ∧ bit L1 j = true := by
    intro j hj
    have hc := hchk
    unfold relChk at hc
    simp only [Bool.and_eq_true] at hc
    obtain ⟨⟨hz0, hz1⟩, hall⟩ := hc
    have hz0 : L0.size = ops.size := by simpa using hz0
    have hjl : j < ops.size := by have := bit_lt hj; omega
    have hq := range_all hall hjl
    simp only [Array.getElem?_eq_getElem hjl, Bool.and_eq_true] at hq
    obtain ⟨⟨⟨⟨⟨⟨⟨_, h1⟩, _⟩, _⟩, h2⟩, _⟩, _⟩, _⟩ := hq
    rw [hj] at h1 h2
    exact ⟨by simpa using h2, by simpa using h1⟩
  have hz0 : L0.size = ops.size := by
    have hc := hchk
    unfold relChk at hc
    simp only [Bool.and_eq_true] at hc
    simpa using hc.1.1
  have h9 := wpAny_rel (P := P) (Q := Q) (a := a) (I := I) (L0 := L0) (L1 := L1) hchk hmono' hsteps
    (fun x W hI hV => by
      rw [hk] at hI ⊢
      refine hend x W hI (fun i hi => ?_)
      rw [List.all_eq_true] at hrs
      have := hrs i hi
      simp only [Bool.and_eq_true, Bool.not_eq_true'] at this
      exact hV i this.1 this.2)
    f0 L0 x0 W0 hz0 hk0 (fun j hj => hj) (fun j hj => (hL j hj).2) (fun j hj d hd => by rw [(hL j hj).1] at hd; cases hd) h0 (fun j hj hj0 => by rw [hj0] at hj; cases hj)
  rw [hx0] at h9
  exact h9
/-- A region that draws its order: its ways and its world under names. -/
theorem wp_region_R {id : Nat} {a : Act} {w : World} (hm : P.follows .mixedOrders = true)
    (h : ∀ (R : Nat → Array Bool → Act → World → Prop) (wd : World), R = wpAny P .any ops Q → wd = w.drew → R ops.size (Array.replicate ops.size false) a wd) : (Code.region id ops true).wp P Q a w :=
  wp_region_any hm (h _ _ rfl rfl)
end
/-- The frame written out. -/
theorem R_norm {R : Nat → Array Bool → Act → World → Prop} {f : Nat} {L : Array Bool} {a a' : Act} {w : World} (ha : a = a') (h : R f L a' w) : R f L a w := by subst ha; exact h
end Go.Proofs.Ytkikeanpbffpkaa
