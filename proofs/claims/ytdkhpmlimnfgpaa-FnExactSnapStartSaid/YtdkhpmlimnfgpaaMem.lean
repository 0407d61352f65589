/- How lists, cells and heaps of this program read in the memory of the model; that these readings survive what does not touch them. No condition. -/
import Derived.WalkKit
import Derived.WalkSpells
import Derived.WalkLawsBesides
import Derived.Deep.QuietTactic
import Derived.BigQuiet
import Derived.StillTailTactics
import Derived.Outline
import Derived.Lib.Hide
import Derived.Handy
import Derived.Test.YtdkhpmlimnfgpaaData
namespace Go.Proofs.Ytdkhpmlimnfgpaa
open Go.RowKit


theorem ret_bool {a b : Bool} (h : a = b) : Ending.returned (.bool a) = .returned (.bool b) := by rw [h]
theorem ret_int {k : IntKind} {a b : Int} (h : a = b) : Ending.returned (.int k a) = .returned (.int k b) := by rw [h]

/-- A slice that reads as a list: element i, by the function f, in the cell i behind the slice's beginning. -/
def RF {α : Type} (f : α → Value) (w : World) (A : Option Addr) (xs : List α) : Prop :=
  ∀ i, i < xs.length → ∃ b o x, A = some ⟨b, o, none⟩ ∧ xs[i]? = some x ∧ w.cell? ⟨b, o + i, none⟩ = some (f x)
def fi : Int → Value := Value.int .i64
def fb : Bool → Value := Value.bool
/-- A slice of cells. -/
def RC (w : World) (A : Option Addr) (cs : List CellM) : Prop :=
  ∀ i, i < cs.length → ∃ b o c Ar cr, A = some ⟨b, o, none⟩ ∧ cs[i]? = some c ∧ w.cell? ⟨b, o + i * 3, none⟩ = some (.bool c.used) ∧
    w.cell? ⟨b, o + i * 3 + 1, none⟩ = some (.int .i64 c.data) ∧ w.cell? ⟨b, o + i * 3 + 2, none⟩ = some (.slice Ar c.refs.length cr) ∧ RF fi w Ar c.refs ∧ c.refs.length ≤ 9223372036854775807
/-- A slice of commands. -/
def RO (w : World) (A : Option Addr) (os : List CmdM) : Prop :=
  ∀ i, i < os.length → ∃ b o c, A = some ⟨b, o, none⟩ ∧ os[i]? = some c ∧ w.cell? ⟨b, o + i * 4, none⟩ = some (.int .i64 c.op) ∧
    w.cell? ⟨b, o + i * 4 + 1, none⟩ = some (.int .i64 c.a) ∧ w.cell? ⟨b, o + i * 4 + 2, none⟩ = some (.int .i64 c.b) ∧ w.cell? ⟨b, o + i * 4 + 3, none⟩ = some (.int .i64 c.c)
/-- A heap, as a value. -/
def RH (w : World) (v : Value) (h : HeapM) : Prop :=
  ∃ A c A' c', v = .agg #[.slice A h.cells.length c, .slice A' h.roots.length c'] ∧ RC w A h.cells ∧ RF fi w A' h.roots ∧ h.cells.length ≤ 9223372036854775807 ∧ h.roots.length ≤ 9223372036854775807

section
variable {w w' : World} {A : Option Addr}
theorem cell_below {a : Addr} {v : Value} (h : w.cell? a = some v) (hb : Below w.heap.size w w') : w'.cell? a = some v :=
  (hb.cell (World.block_lt_of_cell? w a h)).trans h
theorem bcell (hb : Below w.heap.size w w') : (∀ b o, b < w.heap.size → w'.cell? ⟨b, o, none⟩ = w.cell? ⟨b, o, none⟩) ∧ (∀ b o, b < w.heap.size → w'.frozen? ⟨b, o, none⟩ = w.frozen? ⟨b, o, none⟩) ∧ w.heap.size ≤ w'.heap.size :=
  ⟨fun b o h => hb.cell (p := ⟨b, o, none⟩) h, fun b o h => hb.frozen (p := ⟨b, o, none⟩) h, hb.size⟩
theorem Below.step {B : Nat} {a : World} (h : Below B a w) (hb : Below w.heap.size w w') (hB : B ≤ w.heap.size) : Below B a w' := h.trans (hb.mono hB)
theorem Below.stepp {B : Nat} {a : World} (hb : Below w.heap.size w w') (hB : B ≤ w.heap.size) (h : Below B a w) : Below B a w' := h.trans (hb.mono hB)
theorem Below.setc {B : Nat} {a : World} {p : Addr} (hp : B ≤ p.block) (h : Below B a w) (u : Value) : Below B a (w.setCell p u) := h.setCell hp u
theorem Below.allocc {B : Nat} {a : World} (hB : B ≤ w.heap.size) (h : Below B a w) (o : Obj) : Below B a (w.alloc o) := h.alloc hB o
theorem Below.drewn {B : Nat} {a : World} {n : Nat} (h : Below B a w) : Below B a (w.drewN n) := ⟨h.os, h.tape, h.output, h.size, h.block⟩
theorem RF.below {α : Type} {f : α → Value} {xs : List α} (h : RF f w A xs) (hb : Below w.heap.size w w') : RF f w' A xs := by
  intro i hi
  obtain ⟨b, o, x, h1, h3, h4⟩ := h i hi
  exact ⟨b, o, x, h1, h3, cell_below h4 hb⟩
theorem RC.below {cs : List CellM} (h : RC w A cs) (hb : Below w.heap.size w w') : RC w' A cs := by
  intro i hi
  obtain ⟨b, o, c, Ar, cr, h1, h3, h4, h5, h6, h7, h8⟩ := h i hi
  exact ⟨b, o, c, Ar, cr, h1, h3, cell_below h4 hb, cell_below h5 hb, cell_below h6 hb, h7.below hb, h8⟩
theorem RO.below {cs : List CmdM} (h : RO w A cs) (hb : Below w.heap.size w w') : RO w' A cs := by
  intro i hi
  obtain ⟨b, o, c, h1, h3, h4, h5, h6, h7⟩ := h i hi
  exact ⟨b, o, c, h1, h3, cell_below h4 hb, cell_below h5 hb, cell_below h6 hb, cell_below h7 hb⟩
theorem RH.below {v : Value} {h : HeapM} (hh : RH w v h) (hb : Below w.heap.size w w') : RH w' v h := by
  obtain ⟨A, c, A', c', rfl, h1, h2, h3, h4⟩ := hh
  exact ⟨A, c, A', c', rfl, h1.below hb, h2.below hb, h3, h4⟩
/-- Element k, with the block's bound. -/
theorem RF.at_ {α : Type} {f : α → Value} {xs : List α} (h : RF f w A xs) {k : Nat} (hk : k < xs.length) :
    ∃ b o x, A = some ⟨b, o, none⟩ ∧ xs[k]? = some x ∧ w.cell? ⟨b, o + k, none⟩ = some (f x) ∧ b < w.heap.size := by
  obtain ⟨b, o, x, h1, h2, h3⟩ := h k hk
  exact ⟨b, o, x, h1, h2, h3, World.block_lt_of_cell? w _ h3⟩
theorem RC.at_ {cs : List CellM} (h : RC w A cs) {k : Nat} (hk : k < cs.length) :
    ∃ b o c Ar cr, A = some ⟨b, o, none⟩ ∧ cs[k]? = some c ∧ w.cell? ⟨b, o + k * 3, none⟩ = some (.bool c.used) ∧
    w.cell? ⟨b, o + k * 3 + 1, none⟩ = some (.int .i64 c.data) ∧ w.cell? ⟨b, o + k * 3 + 2, none⟩ = some (.slice Ar c.refs.length cr) ∧ RF fi w Ar c.refs ∧ c.refs.length ≤ 9223372036854775807 ∧ b < w.heap.size := by
  obtain ⟨b, o, c, Ar, cr, h1, h3, h4, h5, h6, h7, h8⟩ := h k hk
  exact ⟨b, o, c, Ar, cr, h1, h3, h4, h5, h6, h7, h8, World.block_lt_of_cell? w _ h4⟩
theorem RO.at_ {cs : List CmdM} (h : RO w A cs) {k : Nat} (hk : k < cs.length) :
    ∃ b o c, A = some ⟨b, o, none⟩ ∧ cs[k]? = some c ∧ w.cell? ⟨b, o + k * 4, none⟩ = some (.int .i64 c.op) ∧
    w.cell? ⟨b, o + k * 4 + 1, none⟩ = some (.int .i64 c.a) ∧ w.cell? ⟨b, o + k * 4 + 2, none⟩ = some (.int .i64 c.b) ∧ w.cell? ⟨b, o + k * 4 + 3, none⟩ = some (.int .i64 c.c) ∧ b < w.heap.size := by
  obtain ⟨b, o, c, h1, h3, h4, h5, h6, h7⟩ := h k hk
  exact ⟨b, o, c, h1, h3, h4, h5, h6, h7, World.block_lt_of_cell? w _ h4⟩
end
/-- A quiet call behind draws that the walk has joined already. -/
theorem quiet_add_same {P : Program} {f : FuncId} {args : Array Value} {w : World} {a n : Nat} {v : Value}
    (h : Calls P f args (w.drewN (a + n)) fun e w' => e = .returned v ∧ w' = w.drewN (a + n)) :
    Calls P f args (w.drewN (a + n)) fun e w'' => e = .returned v ∧ ∃ m, w'' = w.drewN (a + m) :=
  h.mono fun _ _ ⟨he, hm⟩ => ⟨he, n, hm⟩
theorem quiet_add {P : Program} {f : FuncId} {args : Array Value} {w : World} {a n : Nat} {v : Value}
    (h : Calls P f args (w.drewN (a + n)) fun e w' => e = .returned v ∧ ∃ m, w' = (w.drewN (a + n)).drewN m) :
    Calls P f args (w.drewN (a + n)) fun e w'' => e = .returned v ∧ ∃ m, w'' = w.drewN (a + m) :=
  h.mono fun _ _ ⟨he, m, hm⟩ => ⟨he, n + m, by rw [hm, World.drewN_drewN, Nat.add_assoc]⟩
section
variable {α : Type}
theorem take_eq_step {xs ys : List α} {k : Nat} {x y : α} (h : xs.take k = ys.take k) (hx : xs[k]? = some x) (hy : ys[k]? = some y) (e : x = y) : xs.take (k + 1) = ys.take (k + 1) := by
  rw [take_snoc_of hx, take_snoc_of hy, h, e]
theorem ne_of_get {xs ys : List α} {k : Nat} {x y : α} (hx : xs[k]? = some x) (hy : ys[k]? = some y) (e : x ≠ y) : xs ≠ ys := by
  rintro rfl
  rw [hx] at hy
  injection hy with hy
  exact e hy
end
end Go.Proofs.Ytdkhpmlimnfgpaa
