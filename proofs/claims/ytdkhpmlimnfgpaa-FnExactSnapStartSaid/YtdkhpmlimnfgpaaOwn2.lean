/- Stores into rows of cells of the call's own that leave all other rows as they are; what lies in a span of blocks. No condition. -/
import Derived.Test.YtdkhpmlimnfgpaaChecked
import Derived.Test.YtdkhpmlimnfgpaaOwn
namespace Go.Proofs.Ytdkhpmlimnfgpaa
open Go.RowKit
/-- All blocks outside of lo .. hi - 1 are as they were. -/
structure Span (lo hi : Nat) (w w' : World) : Prop where
  os : w'.os = w.os
  tape : w'.tape = w.tape
  output : w'.output = w.output
  size : w.heap.size ≤ w'.heap.size
  block : ∀ k, k < w.heap.size → (k < lo ∨ hi ≤ k) → w'.heap[k]? = w.heap[k]?
theorem Only.span {S : List Nat} {lo hi : Nat} {w w' : World} (h : Only S w w') (hs : ∀ g ∈ S, lo ≤ g ∧ g < hi) : Span lo hi w w' :=
  ⟨h.os, h.tape, h.output, h.size, fun k hk hb => h.block k hk fun hc => by have := hs k hc; omega⟩
theorem Span.below {lo hi : Nat} {w w' : World} (h : Span lo hi w w') {B : Nat} (hB : B ≤ lo) (hw : B ≤ w.heap.size) : Below B w w' :=
  ⟨h.os, h.tape, h.output, h.size, fun k hk => h.block k (by omega) (by omega)⟩
theorem Span.cell {lo hi : Nat} {a b : World} (h : Span lo hi a b) {p : Addr} {v : Value} (hc : a.cell? p = some v) (hs : p.block < lo ∨ hi ≤ p.block) : b.cell? p = some v :=
  (World.cell?_of_block (w := a) (h.block p.block (World.block_lt_of_cell? a p hc) hs)).trans hc
theorem OF.some_ {α : Type} {T : TypeId} {f : α → Value} {w : World} {A : Option Addr} {c : Nat} {xs : List α} (h : OF T f w A c xs) {j : Nat} (hj : j < xs.length) : ∃ g, A = some ⟨g, 0, none⟩ ∧ g < w.heap.size := by
  rcases ownsRow_block h with ⟨_, h0, _⟩ | ⟨g, cur, rfl, hg, _⟩
  · omega
  · exact ⟨g, rfl, (Array.getElem?_eq_some_iff.1 hg).1⟩
theorem OF.cell {α : Type} {T : TypeId} {f : α → Value} {w : World} {g c : Nat} {xs : List α} (h : OF T f w (some ⟨g, 0, none⟩) c xs) {j : Nat} {x : α} (hx : xs[j]? = some x) : w.cell? ⟨g, j, none⟩ = some (f x) := by
  obtain ⟨b, o, y, h1, h2, h3⟩ := h.rf j (List.getElem?_eq_some_iff.1 hx).1
  injection h1 with h1
  injection h1 with h1 h4
  subst h1; subst h4
  rw [hx] at h2
  injection h2 with h2
  subst h2
  simpa using h3
theorem OF.ne_ {α : Type} {T : TypeId} {f : α → Value} {w : World} {A : Option Addr} {c : Nat} {xs : List α} (h : OF T f w A c xs) {p : Addr} {u : Value} (hp : p.block ∉ blk A) : OF T f (w.setCell p u) A c xs :=
  h.keep fun g hg => Below.heap_setCell w p u g fun e => hp (e ▸ hg)
theorem OF.alloc_ {α : Type} {T : TypeId} {f : α → Value} {w : World} {A : Option Addr} {c : Nat} {xs : List α} (h : OF T f w A c xs) (o : Obj) : OF T f (w.alloc o) A c xs :=
  h.below ((Below.refl _ _).alloc (Nat.le_refl _) o)
theorem OF.of_blkn {α : Type} {T : TypeId} {f : α → Value} {w : World} {g c : Nat} {xs : List α} (hn : c = xs.length) (h : w.heap[g]? = some (.cells (rowF f xs) T (0, 0))) (hl : xs.length ≤ maxLen) : OF T f w (some ⟨g, 0, none⟩) c xs := by
  subst hn; exact OF.of_blk h hl
theorem OF.drew {α : Type} {T : TypeId} {f : α → Value} {w : World} {A : Option Addr} {c : Nat} {xs : List α} (h : OF T f w A c xs) : OF T f w.drew A c xs := h.keep fun _ _ => rfl
theorem flat2_set (os : List OCell) : ∀ (k : Nat) (o : OCell) (u : Bool) (d : Int), os[k]? = some o →
    ((os.flatMap cellVals).set (k * 3) (.bool u)).set (k * 3 + 1) (.int .i64 d) = (os.set k ⟨⟨u, d, o.c.refs⟩, o.A, o.cap⟩).flatMap cellVals := by
  induction os with
  | nil => intro k o u d h; simp at h
  | cons a os ih =>
    intro k o u d h
    cases k with
    | zero => simp at h; subst h; simp [cellVals]
    | succ k =>
      have h' := ih k o u d (by simpa using h)
      have e : (a :: os).flatMap cellVals = .bool a.c.used :: .int .i64 a.c.data :: .slice a.A a.c.refs.length a.cap :: os.flatMap cellVals := by simp [cellVals]
      have e2 : (a :: os.set k ⟨⟨u, d, o.c.refs⟩, o.A, o.cap⟩).flatMap cellVals = .bool a.c.used :: .int .i64 a.c.data :: .slice a.A a.c.refs.length a.cap :: (os.set k ⟨⟨u, d, o.c.refs⟩, o.A, o.cap⟩).flatMap cellVals := by simp [cellVals]
      rw [List.set_cons_succ, e, e2, ← h', show (k + 1) * 3 = k * 3 + 1 + 1 + 1 by omega]
      rfl
theorem flatset_aux (os : List OCell) : ∀ (k : Nat) (o : OCell) (rs : List Int), os[k]? = some o → rs.length = o.c.refs.length → (os.set k ⟨⟨o.c.used, o.c.data, rs⟩, o.A, o.cap⟩).flatMap cellVals = os.flatMap cellVals := by
  induction os with
  | nil => intro k o rs h _; simp at h
  | cons a os ih =>
    intro k o rs h hl
    cases k with
    | zero => simp at h; subst h; simp [cellVals, hl]
    | succ k => simp only [List.set_cons_succ, List.flatMap_cons, ih k o rs (by simpa using h) hl]
theorem blks_set {os : List OCell} : ∀ {k : Nat} {o p : OCell}, os[k]? = some o → p.A = o.A → blks (os.set k p) = blks os := by
  induction os with
  | nil => intro k o p h; simp at h
  | cons a os ih =>
    intro k o p h hA
    cases k with
    | zero => simp at h; subst h; simp [blks, hA]
    | succ k =>
      have h' := ih (k := k) (by simpa using h) hA
      simp only [blks, List.set_cons_succ, List.flatMap_cons] at h' ⊢
      rw [h']
theorem blks_ne {os : List OCell} (hnd : (blks os).Nodup) : ∀ {i j : Nat} {o p : OCell}, os[i]? = some o → os[j]? = some p → i ≠ j → ∀ g ∈ blk o.A, g ∉ blk p.A := by
  induction os with
  | nil => intro i j o p h; simp at h
  | cons a os ih =>
    intro i j o p hi hj hne g hg hg'
    simp only [blks, List.flatMap_cons, List.nodup_append] at hnd
    cases i with
    | zero =>
      cases j with
      | zero => omega
      | succ j =>
        simp at hi hj
        subst hi
        exact hnd.2.2 g hg g (mem_blks (List.mem_of_getElem? hj) hg') rfl
    | succ i =>
      cases j with
      | zero =>
        simp at hi hj
        subst hj
        exact hnd.2.2 g hg' g (mem_blks (List.mem_of_getElem? hi) hg) rfl
      | succ j => exact ih hnd.2.1 (by simpa using hi) (by simpa using hj) (by omega) g hg hg'
theorem mem_set_at {α : Type} {l : List α} {k : Nat} {x y : α} (h : y ∈ l.set k x) : (y = x ∧ k < l.length) ∨ ∃ i, i ≠ k ∧ l[i]? = some y := by
  obtain ⟨i, hi⟩ := List.mem_iff_getElem?.1 h
  rw [List.getElem?_set] at hi
  split at hi
  · split at hi
    · injection hi with hi; exact .inl ⟨hi.symm, by omega⟩
    · cases hi
  · exact .inr ⟨i, by omega, hi⟩
section
variable {w w' : World} {c g : Nat} {os : List OCell}
theorem OC.some_ {A : Option Addr} (h : OC w A c os) {j : Nat} (hj : j < os.length) : ∃ g, A = some ⟨g, 0, none⟩ ∧ g < w.heap.size := by
  obtain ⟨g, hA, _, _, _, hg⟩ := h.at_ (List.getElem?_eq_getElem hj)
  exact ⟨g, hA, hg⟩
/-- The flag and the number of cell k are stored. -/
theorem OC.set2 (h : OC w (some ⟨g, 0, none⟩) c os) (k : Nat) (o : OCell) (u : Bool) (d : Int) (hk : os[k]? = some o) :
    OC ((w.setCell ⟨g, k * 3, none⟩ (.bool u)).setCell ⟨g, k * 3 + 1, none⟩ (.int .i64 d)) (some ⟨g, 0, none⟩) c (os.set k ⟨⟨u, d, o.c.refs⟩, o.A, o.cap⟩) := by
  have h1 := (World.ownsRow.stored (w := w) h.1 (k * 3) (.bool u)).1
  have h2 := (World.ownsRow.stored h1 (k * 3 + 1) (.int .i64 d)).1
  rw [flat2_set os k o u d hk] at h2
  have key : ∀ {A' : Option Addr} {c' : Nat} {xs : List Int}, OF 3 fi w A' c' xs →
      OF 3 fi ((w.setCell ⟨g, k * 3, none⟩ (.bool u)).setCell ⟨g, k * 3 + 1, none⟩ (.int .i64 d)) A' c' xs := by
    intro A' c' xs hx
    refine hx.keep fun i hi => ?_
    have hn : i ≠ g := fun e => h.apart hx i hi (by simp [blk, e])
    rw [heap_setCell_ne _ _ _ hn, heap_setCell_ne _ _ _ hn]
  have ho := h.2 o (List.mem_of_getElem? hk)
  refine ⟨by rw [List.length_set]; exact h2, fun o' ho' => ?_⟩
  rcases List.mem_or_eq_of_mem_set ho' with ho' | rfl
  · exact ⟨key (h.2 o' ho').1, (h.2 o' ho').2⟩
  · exact ⟨key ho.1, ho.2⟩
/-- The references of cell k are written. -/
theorem OC.refs_ {A : Option Addr} (h : OC w A c os) (hnd : (blks os).Nodup) (k : Nat) (o : OCell) (hk : os[k]? = some o) {rs : List Int} (hlen : rs.length = o.c.refs.length) (hO : Only (blk o.A) w w')
    (hr : OF 3 fi w' o.A o.cap rs) : OC w' A c (os.set k ⟨⟨o.c.used, o.c.data, rs⟩, o.A, o.cap⟩) := by
  have ho := h.2 o (List.mem_of_getElem? hk)
  have hkl := (List.getElem?_eq_some_iff.1 hk).1
  have e := flatset_aux os k o rs hk hlen
  refine ⟨?_, fun p hp => ?_⟩
  · rw [List.length_set, e]
    exact ownsRow_keep h.1 fun i hi => hO.block i (ownsRow_lt h.1 i hi) fun hc => h.apart ho.1 i hc hi
  · rcases mem_set_at hp with ⟨rfl, _⟩ | ⟨i, hne, hi⟩
    · exact ⟨hr, by rw [hlen]; exact ho.2⟩
    · have hp := h.2 p (List.mem_of_getElem? hi)
      exact ⟨hp.1.only hO (blks_ne hnd hi hk hne), hp.2⟩
end
end Go.Proofs.Ytdkhpmlimnfgpaa
