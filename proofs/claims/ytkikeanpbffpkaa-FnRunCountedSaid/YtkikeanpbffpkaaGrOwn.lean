/- Texts of one family, one behind the other: Mem, Own, Own2. -/
import Derived.WalkKit
import Derived.WalkSpells
import Derived.WalkLawsBesides
import Derived.Deep.QuietTactic
import Derived.BigQuiet
import Derived.StillTailTactics
import Derived.Outline
import Derived.Lib.Hide
import Derived.Handy
import Derived.Test.YtkikeanpbffpkaaGrData
import Derived.Test.YtkikeanpbffpkaaChecked
/- How lists, cells and heaps of this program read in the memory of the model; that these readings survive what does not touch them. No condition. -/
namespace Go.Proofs.Ytkikeanpbffpkaa
open Go.RowKit


theorem ret_bool {a b : Bool} (h : a = b) : Ending.returned (.bool a) = .returned (.bool b) := by rw [h]
theorem ret_int {k : IntKind} {a b : Int} (h : a = b) : Ending.returned (.int k a) = .returned (.int k b) := by rw [h]

/-- A slice that reads as a list: element i, by the function f, in the cell i behind the slice's beginning. -/
def RF {α : Type} (f : α → Value) (w : World) (A : Option Addr) (xs : List α) : Prop :=
  ∀ i, i < xs.length → ∃ b o x, A = some ⟨b, o, none⟩ ∧ xs[i]? = some x ∧ w.cell? ⟨b, o + i, none⟩ = some (f x)
def fi : Int → Value := Value.int .i64
def fb : Bool → Value := Value.bool
/-- A slice of cells. -/
def RC (w : World) (A : Option Addr) (cs : List CellM) : Prop :=
  ∀ i, i < cs.length → ∃ b o c Ar cr, A = some ⟨b, o, none⟩ ∧ cs[i]? = some c ∧ w.cell? ⟨b, o + i * 3, none⟩ = some (.bool c.used) ∧
    w.cell? ⟨b, o + i * 3 + 1, none⟩ = some (.int .i64 c.data) ∧ w.cell? ⟨b, o + i * 3 + 2, none⟩ = some (.slice Ar c.refs.length cr) ∧ RF fi w Ar c.refs ∧ c.refs.length ≤ 9223372036854775807
/-- A slice of commands. -/
def RO (w : World) (A : Option Addr) (os : List CmdM) : Prop :=
  ∀ i, i < os.length → ∃ b o c, A = some ⟨b, o, none⟩ ∧ os[i]? = some c ∧ w.cell? ⟨b, o + i * 4, none⟩ = some (.int .i64 c.op) ∧
    w.cell? ⟨b, o + i * 4 + 1, none⟩ = some (.int .i64 c.a) ∧ w.cell? ⟨b, o + i * 4 + 2, none⟩ = some (.int .i64 c.b) ∧ w.cell? ⟨b, o + i * 4 + 3, none⟩ = some (.int .i64 c.c)
/-- A heap, as a value. -/
def RH (w : World) (v : Value) (h : HeapM) : Prop :=
  ∃ A c A' c', v = .agg #[.slice A h.cells.length c, .slice A' h.roots.length c'] ∧ RC w A h.cells ∧ RF fi w A' h.roots ∧ h.cells.length ≤ 9223372036854775807 ∧ h.roots.length ≤ 9223372036854775807

section
variable {w w' : World} {A : Option Addr}
theorem cell_below {a : Addr} {v : Value} (h : w.cell? a = some v) (hb : Below w.heap.size w w') : w'.cell? a = some v :=
  (hb.cell (World.block_lt_of_cell? w a h)).trans h
theorem bcell (hb : Below w.heap.size w w') : (∀ b o, b < w.heap.size → w'.cell? ⟨b, o, none⟩ = w.cell? ⟨b, o, none⟩) ∧ (∀ b o, b < w.heap.size → w'.frozen? ⟨b, o, none⟩ = w.frozen? ⟨b, o, none⟩) ∧ w.heap.size ≤ w'.heap.size :=
  ⟨fun b o h => hb.cell (p := ⟨b, o, none⟩) h, fun b o h => hb.frozen (p := ⟨b, o, none⟩) h, hb.size⟩
theorem Below.step {B : Nat} {a : World} (h : Below B a w) (hb : Below w.heap.size w w') (hB : B ≤ w.heap.size) : Below B a w' := h.trans (hb.mono hB)
theorem Below.stepp {B : Nat} {a : World} (hb : Below w.heap.size w w') (hB : B ≤ w.heap.size) (h : Below B a w) : Below B a w' := h.trans (hb.mono hB)
theorem Below.setc {B : Nat} {a : World} {p : Addr} (hp : B ≤ p.block) (h : Below B a w) (u : Value) : Below B a (w.setCell p u) := h.setCell hp u
theorem Below.allocc {B : Nat} {a : World} (hB : B ≤ w.heap.size) (h : Below B a w) (o : Obj) : Below B a (w.alloc o) := h.alloc hB o
theorem Below.drewn {B : Nat} {a : World} {n : Nat} (h : Below B a w) : Below B a (w.drewN n) := ⟨h.os, h.tape, h.output, h.size, h.block⟩
theorem blw_ {P : Prop} (h : P := by exact (by repeat (first | ((with_reducible refine Below.setc ?_ ?_ _); focus (first | omega | (simp; done) | (simp; omega))) | ((with_reducible refine Below.allocc ?_ ?_ _); focus (first | omega | (simp; done) | (simp; omega))) | (with_reducible refine Below.drew ?_) | (with_reducible refine Below.drewn ?_) | (with_reducible assumption) | (with_reducible exact Below.refl _ _) | ((with_reducible refine Below.stepp (by with_reducible assumption) ?_ ?_); focus (first | omega | (simp; done) | (simp; omega)))))) : P := h
theorem RF.below {α : Type} {f : α → Value} {xs : List α} (h : RF f w A xs) (hb : Below w.heap.size w w') : RF f w' A xs := by
  intro i hi
  obtain ⟨b, o, x, h1, h3, h4⟩ := h i hi
  exact ⟨b, o, x, h1, h3, cell_below h4 hb⟩
theorem RC.below {cs : List CellM} (h : RC w A cs) (hb : Below w.heap.size w w') : RC w' A cs := by
  intro i hi
  obtain ⟨b, o, c, Ar, cr, h1, h3, h4, h5, h6, h7, h8⟩ := h i hi
  exact ⟨b, o, c, Ar, cr, h1, h3, cell_below h4 hb, cell_below h5 hb, cell_below h6 hb, h7.below hb, h8⟩
theorem RO.below {cs : List CmdM} (h : RO w A cs) (hb : Below w.heap.size w w') : RO w' A cs := by
  intro i hi
  obtain ⟨b, o, c, h1, h3, h4, h5, h6, h7⟩ := h i hi
  exact ⟨b, o, c, h1, h3, cell_below h4 hb, cell_below h5 hb, cell_below h6 hb, cell_below h7 hb⟩
theorem RH.below {v : Value} {h : HeapM} (hh : RH w v h) (hb : Below w.heap.size w w') : RH w' v h := by
  obtain ⟨A, c, A', c', rfl, h1, h2, h3, h4⟩ := hh
  exact ⟨A, c, A', c', rfl, h1.below hb, h2.below hb, h3, h4⟩
/-- Element k, with the block's bound. -/
theorem RF.at_ {α : Type} {f : α → Value} {xs : List α} (h : RF f w A xs) {k : Nat} (hk : k < xs.length) :
    ∃ b o x, A = some ⟨b, o, none⟩ ∧ xs[k]? = some x ∧ w.cell? ⟨b, o + k, none⟩ = some (f x) ∧ b < w.heap.size := by
  obtain ⟨b, o, x, h1, h2, h3⟩ := h k hk
  exact ⟨b, o, x, h1, h2, h3, World.block_lt_of_cell? w _ h3⟩
theorem RC.at_ {cs : List CellM} (h : RC w A cs) {k : Nat} (hk : k < cs.length) :
    ∃ b o c Ar cr, A = some ⟨b, o, none⟩ ∧ cs[k]? = some c ∧ w.cell? ⟨b, o + k * 3, none⟩ = some (.bool c.used) ∧
    w.cell? ⟨b, o + k * 3 + 1, none⟩ = some (.int .i64 c.data) ∧ w.cell? ⟨b, o + k * 3 + 2, none⟩ = some (.slice Ar c.refs.length cr) ∧ RF fi w Ar c.refs ∧ c.refs.length ≤ 9223372036854775807 ∧ b < w.heap.size := by
  obtain ⟨b, o, c, Ar, cr, h1, h3, h4, h5, h6, h7, h8⟩ := h k hk
  exact ⟨b, o, c, Ar, cr, h1, h3, h4, h5, h6, h7, h8, World.block_lt_of_cell? w _ h4⟩
theorem RO.at_ {cs : List CmdM} (h : RO w A cs) {k : Nat} (hk : k < cs.length) :
    ∃ b o c, A = some ⟨b, o, none⟩ ∧ cs[k]? = some c ∧ w.cell? ⟨b, o + k * 4, none⟩ = some (.int .i64 c.op) ∧
    w.cell? ⟨b, o + k * 4 + 1, none⟩ = some (.int .i64 c.a) ∧ w.cell? ⟨b, o + k * 4 + 2, none⟩ = some (.int .i64 c.b) ∧ w.cell? ⟨b, o + k * 4 + 3, none⟩ = some (.int .i64 c.c) ∧ b < w.heap.size := by
  obtain ⟨b, o, c, h1, h3, h4, h5, h6, h7⟩ := h k hk
  exact ⟨b, o, c, h1, h3, h4, h5, h6, h7, World.block_lt_of_cell? w _ h4⟩
end
/-- A quiet call behind draws that the walk has joined already. -/
theorem quiet_add_same {P : Program} {f : FuncId} {args : Array Value} {w : World} {a n : Nat} {v : Value}
    (h : Calls P f args (w.drewN (a + n)) fun e w' => e = .returned v ∧ w' = w.drewN (a + n)) :
    Calls P f args (w.drewN (a + n)) fun e w'' => e = .returned v ∧ ∃ m, w'' = w.drewN (a + m) :=
  h.mono fun _ _ ⟨he, hm⟩ => ⟨he, n, hm⟩
theorem quiet_add {P : Program} {f : FuncId} {args : Array Value} {w : World} {a n : Nat} {v : Value}
    (h : Calls P f args (w.drewN (a + n)) fun e w' => e = .returned v ∧ ∃ m, w' = (w.drewN (a + n)).drewN m) :
    Calls P f args (w.drewN (a + n)) fun e w'' => e = .returned v ∧ ∃ m, w'' = w.drewN (a + m) :=
  h.mono fun _ _ ⟨he, m, hm⟩ => ⟨he, n + m, by rw [hm, World.drewN_drewN, Nat.add_assoc]⟩
section
variable {α : Type}
theorem take_eq_step {xs ys : List α} {k : Nat} {x y : α} (h : xs.take k = ys.take k) (hx : xs[k]? = some x) (hy : ys[k]? = some y) (e : x = y) : xs.take (k + 1) = ys.take (k + 1) := by
  rw [take_snoc_of hx, take_snoc_of hy, h, e]
theorem ne_of_get {xs ys : List α} {k : Nat} {x y : α} (hx : xs[k]? = some x) (hy : ys[k]? = some y) (e : x ≠ y) : xs ≠ ys := by
  rintro rfl
  rw [hx] at hy
  injection hy with hy
  exact e hy
end
end Go.Proofs.Ytkikeanpbffpkaa

/- What a call itself has made: rows of ints, bools and cells in blocks of its own, no two in one block; how they read, and what keeps them. No condition. -/
namespace Go.Proofs.Ytkikeanpbffpkaa
open Go.RowKit

/-- The cells of a row. -/
def rowF {α : Type} (f : α → Value) (xs : List α) : Array Value := (xs.map f).toArray
theorem rowF_size {α : Type} (f : α → Value) (xs : List α) : (rowF f xs).size = xs.length := by simp [rowF]
theorem rowF_made {α : Type} (f : α → Value) (z : α) (n : Nat) (h : (f z).cells = #[f z]) : madeCells (f z).cells n = rowF f (List.replicate n z) := by
  rw [h]
  apply Array.toList_inj.1
  rw [toList_madeCells_one]
  simp [rowF]

/-- A row of one-cell elements of the call's own. -/
def OF {α : Type} (T : TypeId) (f : α → Value) (w : World) (A : Option Addr) (c : Nat) (xs : List α) : Prop :=
  w.ownsRow 0 T 1 (.slice A xs.length c) xs.length (xs.map f)
structure OCell where
  c : CellM
  A : Option Addr
  cap : Nat
def cellVals (o : OCell) : List Value := [.bool o.c.used, .int .i64 o.c.data, .slice o.A o.c.refs.length o.cap]
/-- A row of cells of the call's own, each with a row of references of its own. -/
def OC (w : World) (A : Option Addr) (c : Nat) (os : List OCell) : Prop :=
  w.ownsRow 0 38 3 (.slice A os.length c) os.length (os.flatMap cellVals) ∧ ∀ o ∈ os, OF 3 fi w o.A o.cap o.c.refs ∧ o.c.refs.length ≤ 9223372036854775807
def blk (A : Option Addr) : List Nat := A.toList.map (·.block)
def blks (os : List OCell) : List Nat := os.flatMap fun o => blk o.A

/-- All but some blocks are as they were. -/
structure Only (S : List Nat) (w w' : World) : Prop where
  os : w'.os = w.os
  tape : w'.tape = w.tape
  output : w'.output = w.output
  size : w.heap.size ≤ w'.heap.size
  block : ∀ k, k < w.heap.size → k ∉ S → w'.heap[k]? = w.heap[k]?
theorem Only.refl (S : List Nat) (w : World) : Only S w w := ⟨rfl, rfl, rfl, Nat.le_refl _, fun _ _ _ => rfl⟩
theorem Only.trans {S : List Nat} {a b c : World} (h : Only S a b) (k : Only S b c) : Only S a c :=
  ⟨k.os.trans h.os, k.tape.trans h.tape, k.output.trans h.output, Nat.le_trans h.size k.size, fun i hi hs => (k.block i (Nat.lt_of_lt_of_le hi h.size) hs).trans (h.block i hi hs)⟩
theorem Only.mono {S S' : List Nat} {a b : World} (h : Only S a b) (hs : ∀ k ∈ S, k ∈ S') : Only S' a b :=
  ⟨h.os, h.tape, h.output, h.size, fun i hi hn => h.block i hi (fun hc => hn (hs _ hc))⟩
theorem Only.of_below {S : List Nat} {a b : World} (h : Below a.heap.size a b) : Only S a b := ⟨h.os, h.tape, h.output, h.size, fun i hi _ => h.block i hi⟩
theorem Only.below {S : List Nat} {a b : World} {B : Nat} (h : Only S a b) (hB : B ≤ a.heap.size) (hs : ∀ k ∈ S, B ≤ k) : Below B a b :=
  ⟨h.os, h.tape, h.output, h.size, fun i hi => h.block i (by omega) (fun hc => by have := hs i hc; omega)⟩
theorem Only.alloc {S : List Nat} {a b : World} (h : Only S a b) (o : Obj) : Only S a (b.alloc o) :=
  h.trans (.of_below ((Below.refl _ _).alloc (Nat.le_refl _) o))
theorem Only.drew {S : List Nat} {a b : World} (h : Only S a b) : Only S a b.drew := ⟨h.os, h.tape, h.output, h.size, h.block⟩
theorem Only.setCell {S : List Nat} {a b : World} (h : Only S a b) {p : Addr} (hp : p.block ∈ S ∨ a.heap.size ≤ p.block) (u : Value) : Only S a (b.setCell p u) :=
  ⟨h.os, h.tape, h.output, by simpa [World.setCell] using h.size, fun i hi hn => by
    rw [Below.heap_setCell b p u i (by rintro rfl; rcases hp with hp | hp; exact hn hp; omega)]
    exact h.block i hi hn⟩
theorem Only.cell {S : List Nat} {a b : World} (h : Only S a b) {p : Addr} {v : Value} (hc : a.cell? p = some v) (hs : p.block ∉ S) : b.cell? p = some v :=
  (World.cell?_of_block (w := a) (h.block p.block (World.block_lt_of_cell? a p hc) hs)).trans hc

section
variable {α : Type} {T : TypeId} {f : α → Value} {w w' : World} {A : Option Addr} {c : Nat} {xs : List α}
theorem ownsRow_block {base : Nat} {e : TypeId} {size n : Nat} {vs : List Value} (h : w.ownsRow base e size (.slice A n c) n vs) :
    (A = none ∧ n = 0 ∧ c = 0) ∨ ∃ g cur, A = some ⟨g, 0, none⟩ ∧ w.heap[g]? = some (.cells cur e (0, 0)) ∧ n ≤ c ∧ c ≤ maxLen ∧ cur.size = c * size ∧ cur.toList.take (n * size) = vs := by
  rcases h.2 with ⟨h1, h2⟩ | ⟨g, cap, cur, h1, _, h3, h4, h5, h6, h7⟩
  · injection h1 with h1 h2' h3; exact .inl ⟨h1, h2, h3⟩
  · injection h1 with h1 h2' h3; subst h3; exact .inr ⟨g, cur, h1, h3, h4, h5, h6, h7⟩
theorem ownsRow_keep {base : Nat} {e : TypeId} {size n : Nat} {vs : List Value} (h : w.ownsRow base e size (.slice A n c) n vs) (hk : ∀ g ∈ blk A, w'.heap[g]? = w.heap[g]?) :
    w'.ownsRow base e size (.slice A n c) n vs := by
  refine ⟨h.1, ?_⟩
  rcases h.2 with h1 | ⟨g, cap, cur, h1, h2, h3, r⟩
  · exact .inl h1
  · injection h1 with h1 h2' h3'
    subst h1; subst h3'
    exact .inr ⟨g, c, cur, rfl, h2, by rw [hk g (by simp [blk])]; exact h3, r⟩
theorem ownsRow_lt {base : Nat} {e : TypeId} {size n : Nat} {vs : List Value} (h : w.ownsRow base e size (.slice A n c) n vs) : ∀ g ∈ blk A, g < w.heap.size := by
  rcases ownsRow_block h with ⟨rfl, _⟩ | ⟨g, cur, rfl, hg, _⟩
  · simp [blk]
  · simp only [blk, Option.toList, List.map_cons, List.map_nil, List.mem_singleton]
    rintro _ rfl
    exact (Array.getElem?_eq_some_iff.1 hg).1
theorem OF.keep (h : OF T f w A c xs) (hk : ∀ g ∈ blk A, w'.heap[g]? = w.heap[g]?) : OF T f w' A c xs := ownsRow_keep h hk
theorem OF.lt (h : OF T f w A c xs) : ∀ g ∈ blk A, g < w.heap.size := ownsRow_lt h
theorem OF.below (h : OF T f w A c xs) (hb : Below w.heap.size w w') : OF T f w' A c xs := h.keep fun g hg => hb.block g (h.lt g hg)
theorem OF.only {S : List Nat} (h : OF T f w A c xs) (hb : Only S w w') (hs : ∀ g ∈ blk A, g ∉ S) : OF T f w' A c xs := h.keep fun g hg => hb.block g (h.lt g hg) (hs g hg)
theorem OF.of_blk {g : Nat} (h : w.heap[g]? = some (.cells (rowF f xs) T (0, 0))) (hl : xs.length ≤ maxLen) : OF T f w (some ⟨g, 0, none⟩) xs.length xs :=
  ⟨by simp, .inr ⟨g, xs.length, rowF f xs, rfl, Nat.zero_le _, h, Nat.le_refl _, hl, by simp [rowF], by simp [rowF, ← List.map_take]⟩⟩
theorem OF.nil : OF T f w none 0 ([] : List α) := World.ownsRow_nil w 0 T 1
theorem OF.rf (h : OF T f w A c xs) : RF f w A xs := by
  intro i hi
  rcases ownsRow_block h with ⟨_, hn, _⟩ | ⟨g, cur, rfl, hg, hnc, _, hs, ht⟩
  · omega
  · refine ⟨g, 0, xs[i], rfl, List.getElem?_eq_getElem hi, ?_⟩
    have h1 : (cur.toList.take (xs.length * 1))[i]? = some (f xs[i]) := by rw [ht]; simp [hi]
    rw [List.getElem?_take] at h1
    split at h1
    · rw [show 0 + i = i by omega, cell_of_row w g i cur T (0, 0) hg]
      simpa using h1
    · cases h1
/-- A store into a row of the call's own. -/
theorem OF.set_ {g : Nat} (h : OF T f w (some ⟨g, 0, none⟩) c xs) (k : Nat) (x : α) : OF T f (w.setCell ⟨g, k, none⟩ (f x)) (some ⟨g, 0, none⟩) c (xs.set k x) := by
  have h2 := World.ownsRow.stored (w := w) h k (f x)
  unfold OF
  rw [List.map_set, List.length_set]
  exact h2.1
theorem OF.frozen {g : Nat} (h : OF T f w (some ⟨g, 0, none⟩) c xs) (k : Nat) : w.frozen? ⟨g, k, none⟩ = false := World.ownsRow.frozenAt h k
end

theorem flat3 (os : List OCell) : ∀ (i : Nat) (o : OCell), os[i]? = some o →
    (os.flatMap cellVals)[i * 3]? = some (.bool o.c.used) ∧ (os.flatMap cellVals)[i * 3 + 1]? = some (.int .i64 o.c.data) ∧ (os.flatMap cellVals)[i * 3 + 2]? = some (.slice o.A o.c.refs.length o.cap) := by
  induction os with
  | nil => intro i o h; simp at h
  | cons a os ih =>
    intro i o h
    cases i with
    | zero =>
      simp only [List.getElem?_cons_zero, Option.some.injEq] at h
      subst h
      simp [cellVals]
    | succ i =>
      have h' := ih i o (by simpa using h)
      have e : (a :: os).flatMap cellVals = [.bool a.c.used, .int .i64 a.c.data, .slice a.A a.c.refs.length a.cap] ++ os.flatMap cellVals := by simp [cellVals]
      rw [e]
      refine ⟨?_, ?_, ?_⟩
      · rw [show (i + 1) * 3 = (i * 3) + 3 by omega, List.getElem?_append_right (by simp)]
        simpa using h'.1
      · rw [show (i + 1) * 3 + 1 = (i * 3 + 1) + 3 by omega, List.getElem?_append_right (by simp)]
        simpa using h'.2.1
      · rw [show (i + 1) * 3 + 2 = (i * 3 + 2) + 3 by omega, List.getElem?_append_right (by simp)]
        simpa using h'.2.2
theorem flat3_len (os : List OCell) : (os.flatMap cellVals).length = os.length * 3 := by
  induction os with
  | nil => rfl
  | cons a os ih => simp only [List.flatMap_cons, List.length_append, ih, List.length_cons]; simp [cellVals]; omega

section
variable {w w' : World} {A A' : Option Addr} {c c' : Nat} {os : List OCell} {rs : List Int}
theorem mem_blks {o : OCell} (ho : o ∈ os) {g : Nat} (hg : g ∈ blk o.A) : g ∈ blks os := List.mem_flatMap.2 ⟨o, ho, hg⟩
theorem OC.keep (h : OC w A c os) (hk : ∀ g ∈ blk A ++ blks os, w'.heap[g]? = w.heap[g]?) : OC w' A c os :=
  ⟨ownsRow_keep h.1 fun g hg => hk g (List.mem_append.2 (.inl hg)), fun o ho => ⟨(h.2 o ho).1.keep fun g hg => hk g (List.mem_append.2 (.inr (mem_blks ho hg))), (h.2 o ho).2⟩⟩
theorem OC.lt (h : OC w A c os) : ∀ g ∈ blk A ++ blks os, g < w.heap.size := by
  intro g hg
  rcases List.mem_append.1 hg with hg | hg
  · exact ownsRow_lt h.1 g hg
  · obtain ⟨o, ho, hg⟩ := List.mem_flatMap.1 hg
    exact (h.2 o ho).1.lt g hg
/-- Cell i of a row of cells of the call's own. -/
theorem OC.at_ (h : OC w A c os) {i : Nat} {o : OCell} (hi : os[i]? = some o) : ∃ g, A = some ⟨g, 0, none⟩ ∧ w.cell? ⟨g, i * 3, none⟩ = some (.bool o.c.used) ∧
    w.cell? ⟨g, i * 3 + 1, none⟩ = some (.int .i64 o.c.data) ∧ w.cell? ⟨g, i * 3 + 2, none⟩ = some (.slice o.A o.c.refs.length o.cap) ∧ g < w.heap.size := by
  have hl : i < os.length := (List.getElem?_eq_some_iff.1 hi).1
  rcases ownsRow_block h.1 with ⟨_, hn, _⟩ | ⟨g, cur, rfl, hg, hnc, _, hs, ht⟩
  · omega
  · obtain ⟨f1, f2, f3⟩ := flat3 os i o hi
    rw [← ht] at f1 f2 f3
    rw [List.getElem?_take] at f1 f2 f3
    rw [if_pos (by omega)] at f1 f2 f3
    refine ⟨g, rfl, ?_, ?_, ?_, (Array.getElem?_eq_some_iff.1 hg).1⟩
    · rw [cell_of_row w g _ cur _ (0, 0) hg]; simpa using f1
    · rw [cell_of_row w g _ cur _ (0, 0) hg]; simpa using f2
    · rw [cell_of_row w g _ cur _ (0, 0) hg]; simpa using f3
theorem OC.rc (h : OC w A c os) : RC w A (os.map (·.c)) := by
  intro i hi
  rw [List.length_map] at hi
  have ho := List.getElem?_eq_getElem hi
  obtain ⟨g, hA, h1, h2, h3, _⟩ := h.at_ ho
  obtain ⟨hr, hl⟩ := h.2 _ (List.getElem_mem hi)
  exact ⟨g, 0, os[i].c, os[i].A, os[i].cap, hA, by rw [List.getElem?_map, ho]; rfl, by simpa using h1, by simpa using h2, by simpa using h3, hr.rf, hl⟩
end

theorem flat3_set (os : List OCell) : ∀ (k : Nat) (o : OCell), k < os.length →
    (((os.flatMap cellVals).set (k * 3) (.bool o.c.used)).set (k * 3 + 1) (.int .i64 o.c.data)).set (k * 3 + 2) (.slice o.A o.c.refs.length o.cap) = (os.set k o).flatMap cellVals := by
  induction os with
  | nil => intro k o h; simp at h
  | cons a os ih =>
    intro k o h
    cases k with
    | zero => simp [cellVals]
    | succ k =>
      have h' := ih k o (by simpa using h)
      have e : (a :: os).flatMap cellVals = .bool a.c.used :: .int .i64 a.c.data :: .slice a.A a.c.refs.length a.cap :: os.flatMap cellVals := by simp [cellVals]
      have e2 : (a :: os.set k o).flatMap cellVals = .bool a.c.used :: .int .i64 a.c.data :: .slice a.A a.c.refs.length a.cap :: (os.set k o).flatMap cellVals := by simp [cellVals]
      rw [List.set_cons_succ, e, e2, ← h', show (k + 1) * 3 = k * 3 + 1 + 1 + 1 by omega]
      rfl
theorem ownsRow_type_ne {w : World} {A A' : Option Addr} {c c' n n' : Nat} {b b' : Nat} {e e' s s' : Nat} {vs vs' : List Value} (h : w.ownsRow b e s (.slice A n c) n vs) (h' : w.ownsRow b' e' s' (.slice A' n' c') n' vs')
    (hne : e ≠ e') : ∀ g ∈ blk A, g ∉ blk A' := by
  intro g hg hg'
  rcases ownsRow_block h with ⟨rfl, _⟩ | ⟨g1, cur, rfl, h1, _⟩
  · simp [blk] at hg
  · rcases ownsRow_block h' with ⟨rfl, _⟩ | ⟨g2, cur2, rfl, h2, _⟩
    · simp [blk] at hg'
    · simp [blk] at hg hg'
      subst hg; subst hg'
      rw [h1] at h2
      injection h2 with h2
      injection h2 with _ h2
      exact hne h2
section
variable {w w' : World} {A : Option Addr} {c : Nat} {os : List OCell} {g : Nat}
theorem OC.apart (h : OC w A c os) {A' : Option Addr} {c' : Nat} {xs : List Int} (h' : OF 3 fi w A' c' xs) : ∀ g ∈ blk A', g ∉ blk A :=
  ownsRow_type_ne h' h.1 (by decide)
theorem heap_setCell_ne (w : World) (p : Addr) (u : Value) {k : Nat} (h : k ≠ p.block) : (w.setCell p u).heap[k]? = w.heap[k]? := Below.heap_setCell w p u k h
/-- A cell is stored over cell k of a row of cells of the call's own. -/
theorem OC.set_ (h : OC w (some ⟨g, 0, none⟩) c os) (k : Nat) (o : OCell) (hk : k < os.length) (ho : OF 3 fi w o.A o.cap o.c.refs) (hl : o.c.refs.length ≤ 9223372036854775807) :
    OC (((w.setCell ⟨g, k * 3, none⟩ (.bool o.c.used)).setCell ⟨g, k * 3 + 1, none⟩ (.int .i64 o.c.data)).setCell ⟨g, k * 3 + 2, none⟩ (.slice o.A o.c.refs.length o.cap)) (some ⟨g, 0, none⟩) c (os.set k o) := by
  have h1 := (World.ownsRow.stored (w := w) h.1 (k * 3) (.bool o.c.used)).1
  have h2 := (World.ownsRow.stored h1 (k * 3 + 1) (.int .i64 o.c.data)).1
  have h3 := (World.ownsRow.stored h2 (k * 3 + 2) (.slice o.A o.c.refs.length o.cap)).1
  rw [flat3_set os k o hk] at h3
  have key : ∀ {A' : Option Addr} {c' : Nat} {xs : List Int}, OF 3 fi w A' c' xs →
      OF 3 fi (((w.setCell ⟨g, k * 3, none⟩ (.bool o.c.used)).setCell ⟨g, k * 3 + 1, none⟩ (.int .i64 o.c.data)).setCell ⟨g, k * 3 + 2, none⟩ (.slice o.A o.c.refs.length o.cap)) A' c' xs := by
    intro A' c' xs hx
    refine hx.keep fun i hi => ?_
    have hn : i ≠ g := fun e => h.apart hx i hi (by simp [blk, e])
    rw [heap_setCell_ne _ _ _ hn, heap_setCell_ne _ _ _ hn, heap_setCell_ne _ _ _ hn]
  refine ⟨by rw [List.length_set]; exact h3, fun o' ho' => ?_⟩
  rcases List.mem_or_eq_of_mem_set ho' with ho' | rfl
  · exact ⟨key (h.2 o' ho').1, (h.2 o' ho').2⟩
  · exact ⟨key ho, hl⟩
theorem OC.frozen (h : OC w (some ⟨g, 0, none⟩) c os) (k : Nat) : w.frozen? ⟨g, k, none⟩ = false := World.ownsRow.frozenAt h.1 k
theorem OC.below (h : OC w A c os) (hb : Below w.heap.size w w') : OC w' A c os := h.keep fun g hg => hb.block g (h.lt g hg)
end

def rowC (os : List OCell) : Array Value := (os.flatMap cellVals).toArray
def zc : OCell := ⟨⟨false, 0, []⟩, none, 0⟩
theorem flat3_zero : ∀ (n i : Nat), i < n * 3 → ((List.replicate n zc).flatMap cellVals)[i]? = some ((#[Value.bool false, .int .i64 0, .slice none 0 0] : Array Value)[i % 3]!)
  | 0, i, h => by omega
  | n + 1, i, h => by
    have e : (List.replicate (n + 1) zc).flatMap cellVals = [Value.bool false, .int .i64 0, .slice none 0 0] ++ (List.replicate n zc).flatMap cellVals := by simp [List.replicate_succ, cellVals, zc]
    rw [e]
    rcases Nat.lt_or_ge i 3 with h3 | h3
    · rw [List.getElem?_append_left (by simpa using h3)]
      rcases (by omega : i = 0 ∨ i = 1 ∨ i = 2) with rfl | rfl | rfl <;> rfl
    · rw [List.getElem?_append_right (by simpa using h3)]
      have h' := flat3_zero n (i - 3) (by omega)
      simp only [List.length_cons, List.length_nil]
      rw [h', show (i - 3) % 3 = i % 3 by omega]
theorem rowC_made (n : Nat) : madeCells #[Value.bool false, .int .i64 0, .slice none 0 0] (n * 3) = rowC (List.replicate n zc) := by
  apply Array.ext_getElem?
  intro i
  rcases Nat.lt_or_ge i (n * 3) with h | h
  · have h1 := flat3_zero n i h
    simp only [rowC, List.getElem?_toArray, h1]
    simp [madeCells, h]
  · rw [Array.getElem?_eq_none (by simp [size_madeCells, h]), Array.getElem?_eq_none (by simp only [rowC, List.size_toArray, flat3_len, List.length_replicate]; omega)]
theorem OC.of_blk {w : World} {g : Nat} {os : List OCell} (h : w.heap[g]? = some (.cells (rowC os) 38 (0, 0))) (hl : os.length ≤ maxLen) (ho : ∀ o ∈ os, OF 3 fi w o.A o.cap o.c.refs ∧ o.c.refs.length ≤ 9223372036854775807) :
    OC w (some ⟨g, 0, none⟩) os.length os :=
  ⟨⟨flat3_len os, .inr ⟨g, os.length, rowC os, rfl, Nat.zero_le _, h, Nat.le_refl _, hl, by simp only [rowC, List.size_toArray, flat3_len], by rw [rowC, ← flat3_len, List.take_length]⟩⟩, ho⟩
theorem blks_append (a b : List OCell) : blks (a ++ b) = blks a ++ blks b := by simp [blks]
/-- The parts of a heap of the call's own. -/
structure OHs (w : World) (A : Option Addr) (c : Nat) (A' : Option Addr) (c' : Nat) (os : List OCell) (rs : List Int) : Prop where
  cells : OC w A c os
  roots : OF 3 fi w A' c' rs
  nodup : (blk A ++ blks os ++ blk A').Nodup
  clen : os.length ≤ 9223372036854775807
  rlen : rs.length ≤ 9223372036854775807
def hblks (A : Option Addr) (os : List OCell) (A' : Option Addr) : List Nat := blk A ++ blks os ++ blk A'
/-- A heap of the call's own, as a value; its blocks are from lo on. -/
def OH (lo : Nat) (w : World) (v : Value) (h : HeapM) : Prop :=
  ∃ A c A' c' os, v = .agg #[.slice A h.cells.length c, .slice A' h.roots.length c'] ∧ os.map (·.c) = h.cells ∧ OHs w A c A' c' os h.roots ∧ ∀ g ∈ hblks A os A', lo ≤ g

section
variable {w w' : World} {A A' : Option Addr} {c c' : Nat} {os : List OCell} {rs : List Int}
theorem OHs.lt (h : OHs w A c A' c' os rs) : ∀ g ∈ hblks A os A', g < w.heap.size := by
  intro g hg
  rcases List.mem_append.1 hg with hg | hg
  · exact h.cells.lt g hg
  · exact h.roots.lt g hg
theorem OHs.keep (h : OHs w A c A' c' os rs) (hk : ∀ g ∈ hblks A os A', w'.heap[g]? = w.heap[g]?) : OHs w' A c A' c' os rs :=
  ⟨h.cells.keep fun g hg => hk g (List.mem_append.2 (.inl hg)), h.roots.keep fun g hg => hk g (List.mem_append.2 (.inr hg)), h.nodup, h.clen, h.rlen⟩
theorem OHs.below (h : OHs w A c A' c' os rs) (hb : Below w.heap.size w w') : OHs w' A c A' c' os rs := h.keep fun g hg => hb.block g (h.lt g hg)
theorem OHs.only {S : List Nat} (h : OHs w A c A' c' os rs) (hb : Only S w w') (hs : ∀ g ∈ hblks A os A', g ∉ S) : OHs w' A c A' c' os rs := h.keep fun g hg => hb.block g (h.lt g hg) (hs g hg)
theorem OH.rh {lo : Nat} {v : Value} {h : HeapM} (hh : OH lo w v h) : RH w v h := by
  obtain ⟨A, c, A', c', os, rfl, hm, ho, hlo⟩ := hh
  refine ⟨A, c, A', c', rfl, hm ▸ ho.cells.rc, ho.roots.rf, ?_, ho.rlen⟩
  rw [← hm, List.length_map]
  exact ho.clen
theorem OH.below {lo : Nat} {v : Value} {h : HeapM} (hh : OH lo w v h) (hb : Below w.heap.size w w') : OH lo w' v h := by
  obtain ⟨A, c, A', c', os, rfl, hm, ho, hlo⟩ := hh
  exact ⟨A, c, A', c', os, rfl, hm, ho.below hb, hlo⟩
theorem OH.lo_ {lo lo' : Nat} {v : Value} {h : HeapM} (hh : OH lo w v h) (hl : lo' ≤ lo) : OH lo' w v h := by
  obtain ⟨A, c, A', c', os, rfl, hm, ho, hlo⟩ := hh
  exact ⟨A, c, A', c', os, rfl, hm, ho, fun g hg => Nat.le_trans hl (hlo g hg)⟩
theorem OH.lt {lo : Nat} {v : Value} {h : HeapM} (hh : OH lo w v h) {p : Addr} (u : Value) (hp : p.block < lo) : OH lo (w.setCell p u) v h := by
  obtain ⟨A, c, A', c', os, rfl, hm, ho, hlo⟩ := hh
  exact ⟨A, c, A', c', os, rfl, hm, ho.keep fun g hg => heap_setCell_ne _ _ _ (by have := hlo g hg; omega), hlo⟩
theorem mem_blk_some {b g : Nat} (h : g ∈ blk (some ⟨b, 0, none⟩)) : g = b := by simpa [blk] using h
end

/-- The parts of a heap that reads as h. -/
structure RHs (w : World) (A A' : Option Addr) (h : HeapM) : Prop where
  cells : RC w A h.cells
  roots : RF fi w A' h.roots
  clen : h.cells.length ≤ 9223372036854775807
  rlen : h.roots.length ≤ 9223372036854775807
theorem RHs.rh {w : World} {A A' : Option Addr} {h : HeapM} (hh : RHs w A A' h) (c c' : Nat) : RH w (.agg #[.slice A h.cells.length c, .slice A' h.roots.length c']) h :=
  ⟨A, c, A', c', rfl, hh.cells, hh.roots, hh.clen, hh.rlen⟩
theorem RHs.below {w w' : World} {A A' : Option Addr} {h : HeapM} (hh : RHs w A A' h) (hb : Below w.heap.size w w') : RHs w' A A' h := ⟨hh.cells.below hb, hh.roots.below hb, hh.clen, hh.rlen⟩
def RPt (w : World) (v : Value) (p : PaintM) : Prop := ∃ A c A' c' A2 c2, v = .agg #[.slice A p.store.cells.length c, .slice A' p.store.roots.length c', .slice A2 p.colours.length c2, .bool p.active] ∧
  RHs w A A' p.store ∧ RF fi w A2 p.colours ∧ p.colours.length ≤ 9223372036854775807
def RTw (w : World) (v : Value) (p : TwoM) : Prop := ∃ A c A' c' A2 c2 A3 c3, v = .agg #[.slice A p.store.cells.length c, .slice A' p.store.roots.length c', .slice A2 p.x.length c2, .slice A3 p.y.length c3] ∧
  RHs w A A' p.store ∧ RF fb w A2 p.x ∧ p.x.length ≤ 9223372036854775807 ∧ RF fb w A3 p.y ∧ p.y.length ≤ 9223372036854775807
def RCt (w : World) (v : Value) (p : CountM) : Prop := ∃ A c A' c' A2 c2, v = .agg #[.slice A p.store.cells.length c, .slice A' p.store.roots.length c', .slice A2 p.counts.length c2] ∧
  RHs w A A' p.store ∧ RF fi w A2 p.counts ∧ p.counts.length ≤ 9223372036854775807
/-- The same, of the call's own, from block lo on. -/
def OPt (lo : Nat) (w : World) (v : Value) (p : PaintM) : Prop := ∃ A c A' c' os A2 c2, v = .agg #[.slice A p.store.cells.length c, .slice A' p.store.roots.length c', .slice A2 p.colours.length c2, .bool p.active] ∧
  os.map (·.c) = p.store.cells ∧ OHs w A c A' c' os p.store.roots ∧ OF 3 fi w A2 c2 p.colours ∧ (hblks A os A' ++ blk A2).Nodup ∧ (∀ g ∈ hblks A os A' ++ blk A2, lo ≤ g) ∧ p.colours.length ≤ 9223372036854775807
def OTw (lo : Nat) (w : World) (v : Value) (p : TwoM) : Prop := ∃ A c A' c' os A2 c2 A3 c3, v = .agg #[.slice A p.store.cells.length c, .slice A' p.store.roots.length c', .slice A2 p.x.length c2, .slice A3 p.y.length c3] ∧
  os.map (·.c) = p.store.cells ∧ OHs w A c A' c' os p.store.roots ∧ OF 4 fb w A2 c2 p.x ∧ OF 4 fb w A3 c3 p.y ∧ (hblks A os A' ++ blk A2 ++ blk A3).Nodup ∧ (∀ g ∈ hblks A os A' ++ blk A2 ++ blk A3, lo ≤ g) ∧
  p.x.length ≤ 9223372036854775807 ∧ p.y.length ≤ 9223372036854775807
def OCt (lo : Nat) (w : World) (v : Value) (p : CountM) : Prop := ∃ A c A' c' os A2 c2, v = .agg #[.slice A p.store.cells.length c, .slice A' p.store.roots.length c', .slice A2 p.counts.length c2] ∧
  os.map (·.c) = p.store.cells ∧ OHs w A c A' c' os p.store.roots ∧ OF 3 fi w A2 c2 p.counts ∧ (hblks A os A' ++ blk A2).Nodup ∧ (∀ g ∈ hblks A os A' ++ blk A2, lo ≤ g) ∧ p.counts.length ≤ 9223372036854775807
section
variable {w w' : World} {lo : Nat} {v : Value}
theorem OHs.rhs {A A' : Option Addr} {c c' : Nat} {os : List OCell} {h : HeapM} (ho : OHs w A c A' c' os h.roots) (hm : os.map (·.c) = h.cells) : RHs w A A' h :=
  ⟨hm ▸ ho.cells.rc, ho.roots.rf, by rw [← hm, List.length_map]; exact ho.clen, ho.rlen⟩
theorem RPt.below {p : PaintM} (hh : RPt w v p) (hb : Below w.heap.size w w') : RPt w' v p := by
  obtain ⟨A, c, A', c', A2, c2, rfl, h1, h2, h3⟩ := hh
  exact ⟨A, c, A', c', A2, c2, rfl, h1.below hb, h2.below hb, h3⟩
theorem RTw.below {p : TwoM} (hh : RTw w v p) (hb : Below w.heap.size w w') : RTw w' v p := by
  obtain ⟨A, c, A', c', A2, c2, A3, c3, rfl, h1, h2, h3, h4, h5⟩ := hh
  exact ⟨A, c, A', c', A2, c2, A3, c3, rfl, h1.below hb, h2.below hb, h3, h4.below hb, h5⟩
theorem RCt.below {p : CountM} (hh : RCt w v p) (hb : Below w.heap.size w w') : RCt w' v p := by
  obtain ⟨A, c, A', c', A2, c2, rfl, h1, h2, h3⟩ := hh
  exact ⟨A, c, A', c', A2, c2, rfl, h1.below hb, h2.below hb, h3⟩
theorem OCt.rc {p : CountM} (hh : OCt lo w v p) : RCt w v p := by
  obtain ⟨A, c, A', c', os, A2, c2, rfl, hm, ho, h2, _, _, h3⟩ := hh
  exact ⟨A, c, A', c', A2, c2, rfl, ho.rhs hm, h2.rf, h3⟩
theorem OPt.below {p : PaintM} (hh : OPt lo w v p) (hb : Below w.heap.size w w') : OPt lo w' v p := by
  obtain ⟨A, c, A', c', os, A2, c2, rfl, hm, ho, h2, h4, h5, h3⟩ := hh
  exact ⟨A, c, A', c', os, A2, c2, rfl, hm, ho.below hb, h2.below hb, h4, h5, h3⟩
theorem OTw.below {p : TwoM} (hh : OTw lo w v p) (hb : Below w.heap.size w w') : OTw lo w' v p := by
  obtain ⟨A, c, A', c', os, A2, c2, A3, c3, rfl, hm, ho, h2, h3, h4, h5, h6, h7⟩ := hh
  exact ⟨A, c, A', c', os, A2, c2, A3, c3, rfl, hm, ho.below hb, h2.below hb, h3.below hb, h4, h5, h6, h7⟩
theorem OCt.below {p : CountM} (hh : OCt lo w v p) (hb : Below w.heap.size w w') : OCt lo w' v p := by
  obtain ⟨A, c, A', c', os, A2, c2, rfl, hm, ho, h2, h4, h5, h3⟩ := hh
  exact ⟨A, c, A', c', os, A2, c2, rfl, hm, ho.below hb, h2.below hb, h4, h5, h3⟩
end
end Go.Proofs.Ytkikeanpbffpkaa

/- Stores into rows of cells of the call's own that leave all other rows as they are; what lies in a span of blocks. No condition. -/
namespace Go.Proofs.Ytkikeanpbffpkaa
open Go.RowKit
/-- All blocks outside of lo .. hi - 1 are as they were. -/
structure Span (lo hi : Nat) (w w' : World) : Prop where
  os : w'.os = w.os
  tape : w'.tape = w.tape
  output : w'.output = w.output
  size : w.heap.size ≤ w'.heap.size
  block : ∀ k, k < w.heap.size → (k < lo ∨ hi ≤ k) → w'.heap[k]? = w.heap[k]?
theorem Only.span {S : List Nat} {lo hi : Nat} {w w' : World} (h : Only S w w') (hs : ∀ g ∈ S, lo ≤ g ∧ g < hi) : Span lo hi w w' :=
  ⟨h.os, h.tape, h.output, h.size, fun k hk hb => h.block k hk fun hc => by have := hs k hc; omega⟩
theorem Span.below {lo hi : Nat} {w w' : World} (h : Span lo hi w w') {B : Nat} (hB : B ≤ lo) (hw : B ≤ w.heap.size) : Below B w w' :=
  ⟨h.os, h.tape, h.output, h.size, fun k hk => h.block k (by omega) (by omega)⟩
theorem Span.cell {lo hi : Nat} {a b : World} (h : Span lo hi a b) {p : Addr} {v : Value} (hc : a.cell? p = some v) (hs : p.block < lo ∨ hi ≤ p.block) : b.cell? p = some v :=
  (World.cell?_of_block (w := a) (h.block p.block (World.block_lt_of_cell? a p hc) hs)).trans hc
theorem OF.some_ {α : Type} {T : TypeId} {f : α → Value} {w : World} {A : Option Addr} {c : Nat} {xs : List α} (h : OF T f w A c xs) {j : Nat} (hj : j < xs.length) : ∃ g, A = some ⟨g, 0, none⟩ ∧ g < w.heap.size := by
  rcases ownsRow_block h with ⟨_, h0, _⟩ | ⟨g, cur, rfl, hg, _⟩
  · omega
  · exact ⟨g, rfl, (Array.getElem?_eq_some_iff.1 hg).1⟩
theorem OF.cell {α : Type} {T : TypeId} {f : α → Value} {w : World} {g c : Nat} {xs : List α} (h : OF T f w (some ⟨g, 0, none⟩) c xs) {j : Nat} {x : α} (hx : xs[j]? = some x) : w.cell? ⟨g, j, none⟩ = some (f x) := by
  obtain ⟨b, o, y, h1, h2, h3⟩ := h.rf j (List.getElem?_eq_some_iff.1 hx).1
  injection h1 with h1
  injection h1 with h1 h4
  subst h1; subst h4
  rw [hx] at h2
  injection h2 with h2
  subst h2
  simpa using h3
theorem OF.ne_ {α : Type} {T : TypeId} {f : α → Value} {w : World} {A : Option Addr} {c : Nat} {xs : List α} (h : OF T f w A c xs) {p : Addr} {u : Value} (hp : p.block ∉ blk A) : OF T f (w.setCell p u) A c xs :=
  h.keep fun g hg => Below.heap_setCell w p u g fun e => hp (e ▸ hg)
theorem OF.alloc_ {α : Type} {T : TypeId} {f : α → Value} {w : World} {A : Option Addr} {c : Nat} {xs : List α} (h : OF T f w A c xs) (o : Obj) : OF T f (w.alloc o) A c xs :=
  h.below ((Below.refl _ _).alloc (Nat.le_refl _) o)
theorem OF.of_blkn {α : Type} {T : TypeId} {f : α → Value} {w : World} {g c : Nat} {xs : List α} (hn : c = xs.length) (h : w.heap[g]? = some (.cells (rowF f xs) T (0, 0))) (hl : xs.length ≤ maxLen) : OF T f w (some ⟨g, 0, none⟩) c xs := by
  subst hn; exact OF.of_blk h hl
theorem OF.drew {α : Type} {T : TypeId} {f : α → Value} {w : World} {A : Option Addr} {c : Nat} {xs : List α} (h : OF T f w A c xs) : OF T f w.drew A c xs := h.keep fun _ _ => rfl
theorem flatset_aux (os : List OCell) : ∀ (k : Nat) (o : OCell) (rs : List Int), os[k]? = some o → rs.length = o.c.refs.length → (os.set k ⟨⟨o.c.used, o.c.data, rs⟩, o.A, o.cap⟩).flatMap cellVals = os.flatMap cellVals := by
  induction os with
  | nil => intro k o rs h _; simp at h
  | cons a os ih =>
    intro k o rs h hl
    cases k with
    | zero => simp at h; subst h; simp [cellVals, hl]
    | succ k => simp only [List.set_cons_succ, List.flatMap_cons, ih k o rs (by simpa using h) hl]
theorem blks_set {os : List OCell} : ∀ {k : Nat} {o p : OCell}, os[k]? = some o → p.A = o.A → blks (os.set k p) = blks os := by
  induction os with
  | nil => intro k o p h; simp at h
  | cons a os ih =>
    intro k o p h hA
    cases k with
    | zero => simp at h; subst h; simp [blks, hA]
    | succ k =>
      have h' := ih (k := k) (by simpa using h) hA
      simp only [blks, List.set_cons_succ, List.flatMap_cons] at h' ⊢
      rw [h']
theorem blks_ne {os : List OCell} (hnd : (blks os).Nodup) : ∀ {i j : Nat} {o p : OCell}, os[i]? = some o → os[j]? = some p → i ≠ j → ∀ g ∈ blk o.A, g ∉ blk p.A := by
  induction os with
  | nil => intro i j o p h; simp at h
  | cons a os ih =>
    intro i j o p hi hj hne g hg hg'
    simp only [blks, List.flatMap_cons, List.nodup_append] at hnd
    cases i with
    | zero =>
      cases j with
      | zero => omega
      | succ j =>
        simp at hi hj
        subst hi
        exact hnd.2.2 g hg g (mem_blks (List.mem_of_getElem? hj) hg') rfl
    | succ i =>
      cases j with
      | zero =>
        simp at hi hj
        subst hj
        exact hnd.2.2 g hg' g (mem_blks (List.mem_of_getElem? hi) hg) rfl
      | succ j => exact ih hnd.2.1 (by simpa using hi) (by simpa using hj) (by omega) g hg hg'
theorem mem_set_at {α : Type} {l : List α} {k : Nat} {x y : α} (h : y ∈ l.set k x) : (y = x ∧ k < l.length) ∨ ∃ i, i ≠ k ∧ l[i]? = some y := by
  obtain ⟨i, hi⟩ := List.mem_iff_getElem?.1 h
  rw [List.getElem?_set] at hi
  split at hi
  · split at hi
    · injection hi with hi; exact .inl ⟨hi.symm, by omega⟩
    · cases hi
  · exact .inr ⟨i, by omega, hi⟩
section
variable {w w' : World} {c g : Nat} {os : List OCell}
theorem OC.some_ {A : Option Addr} (h : OC w A c os) {j : Nat} (hj : j < os.length) : ∃ g, A = some ⟨g, 0, none⟩ ∧ g < w.heap.size := by
  obtain ⟨g, hA, _, _, _, hg⟩ := h.at_ (List.getElem?_eq_getElem hj)
  exact ⟨g, hA, hg⟩
/-- The references of cell k are written. -/
theorem OC.refs_ {A : Option Addr} (h : OC w A c os) (hnd : (blks os).Nodup) (k : Nat) (o : OCell) (hk : os[k]? = some o) {rs : List Int} (hlen : rs.length = o.c.refs.length) (hO : Only (blk o.A) w w')
    (hr : OF 3 fi w' o.A o.cap rs) : OC w' A c (os.set k ⟨⟨o.c.used, o.c.data, rs⟩, o.A, o.cap⟩) := by
  have ho := h.2 o (List.mem_of_getElem? hk)
  have hkl := (List.getElem?_eq_some_iff.1 hk).1
  have e := flatset_aux os k o rs hk hlen
  refine ⟨?_, fun p hp => ?_⟩
  · rw [List.length_set, e]
    exact ownsRow_keep h.1 fun i hi => hO.block i (ownsRow_lt h.1 i hi) fun hc => h.apart ho.1 i hc hi
  · rcases mem_set_at hp with ⟨rfl, _⟩ | ⟨i, hne, hi⟩
    · exact ⟨hr, by rw [hlen]; exact ho.2⟩
    · have hp := h.2 p (List.mem_of_getElem? hi)
      exact ⟨hp.1.only hO (blks_ne hnd hi hk hne), hp.2⟩
end
end Go.Proofs.Ytkikeanpbffpkaa
