/- Texts of one family, one behind the other: To, Cmds. -/
import Derived.Test.YtkikeanpbffpkaaChecked
import Derived.OwnWalk
import Derived.Test.YtkikeanpbffpkaaGrOwn
import Derived.StillTailTactics
/- The copies to.. of the laws: what they return is new memory that reads as the argument does. Conditions: lengths at most 2^20. -/
namespace Go.Proofs.Ytkikeanpbffpkaa
open Go.RowKit
set_option maxRecDepth 100000
set_option linter.unusedSimpArgs false

theorem info_int : (Try.prog.info? 3).map (fun i => (i.zero, i.size, i.bytes)) = some (some (.int .i64 0), 1, 8) := by kernel_rfl
theorem info_cell : (Try.prog.info? 38).map (fun i => (i.zero, i.size, i.bytes)) = some (some (.agg #[.bool false, .int .i64 0, .slice none 0 0]), 3, 40) := by kernel_rfl
theorem mk_ints (n : Nat) (hn : n ≤ 1048577) (W : World) :
    (Instr.makeSlice 24 (.int .i64 (n : Int)) (.int .i64 (n : Int))).run Try.prog W = .ok (.slice (some ⟨W.heap.size, 0, none⟩) n n) (W.alloc (.cells (rowF fi (List.replicate n 0)) 3)) := by
  obtain ⟨i0, hi, hz0, hz1, hz2⟩ := info_parts info_int
  have h := run_make (P := Try.prog) W 24 3 i0 _ Try.underlying24 hi hz0 .i64 .i64 n n (by omega) (by omega) (by rw [hz2]; omega) (by omega)
  simp only [Int.toNat_natCast] at h
  rw [h, hz1, Nat.mul_one, ← rowF_made fi 0 n rfl]
  rfl
theorem info_bool : (Try.prog.info? 4).map (fun i => (i.zero, i.size, i.bytes)) = some (some (.bool false), 1, 1) := by kernel_rfl
theorem mk_bools (n : Nat) (hn : n ≤ 1048577) (W : World) :
    (Instr.makeSlice 82 (.int .i64 (n : Int)) (.int .i64 (n : Int))).run Try.prog W = .ok (.slice (some ⟨W.heap.size, 0, none⟩) n n) (W.alloc (.cells (rowF fb (List.replicate n false)) 4)) := by
  obtain ⟨i0, hi, hz0, hz1, hz2⟩ := info_parts info_bool
  have h := run_make (P := Try.prog) W 82 4 i0 _ Try.underlying82 hi hz0 .i64 .i64 n n (by omega) (by omega) (by rw [hz2]; omega) (by omega)
  simp only [Int.toNat_natCast] at h
  rw [h, hz1, Nat.mul_one, ← rowF_made fb false n rfl]
  rfl
end Go.Proofs.Ytkikeanpbffpkaa

/- Lists of instructions of the call's own; toCommandS, eqCommandS, markCommandS, szCommandS of the laws. -/
namespace Go.Proofs.Ytkikeanpbffpkaa
open Go.RowKit
set_option maxRecDepth 100000
set_option linter.unusedSimpArgs false
set_option linter.unusedVariables false
def cmdVals (o : CmdM) : List Value := [.int .i64 o.op, .int .i64 o.a, .int .i64 o.b, .int .i64 o.c]
theorem flat4_len (os : List CmdM) : (os.flatMap cmdVals).length = os.length * 4 := by
  induction os with
  | nil => rfl
  | cons a os ih => simp only [List.flatMap_cons, List.length_append, ih, List.length_cons]; simp [cmdVals]; omega
theorem flat4 (os : List CmdM) : ∀ (i : Nat) (o : CmdM), os[i]? = some o →
    (os.flatMap cmdVals)[i * 4]? = some (.int .i64 o.op) ∧ (os.flatMap cmdVals)[i * 4 + 1]? = some (.int .i64 o.a) ∧ (os.flatMap cmdVals)[i * 4 + 2]? = some (.int .i64 o.b) ∧ (os.flatMap cmdVals)[i * 4 + 3]? = some (.int .i64 o.c) := by
  induction os with
  | nil => intro i o h; simp at h
  | cons a os ih =>
    intro i o h
    cases i with
    | zero =>
      simp only [List.getElem?_cons_zero, Option.some.injEq] at h
      subst h
      simp [cmdVals]
    | succ i =>
      have h' := ih i o (by simpa using h)
      have e : (a :: os).flatMap cmdVals = [.int .i64 a.op, .int .i64 a.a, .int .i64 a.b, .int .i64 a.c] ++ os.flatMap cmdVals := by simp [cmdVals]
      rw [e]
      refine ⟨?_, ?_, ?_, ?_⟩
      · rw [show (i + 1) * 4 = (i * 4) + 4 by omega, List.getElem?_append_right (by simp)]
        simpa using h'.1
      · rw [show (i + 1) * 4 + 1 = (i * 4 + 1) + 4 by omega, List.getElem?_append_right (by simp)]
        simpa using h'.2.1
      · rw [show (i + 1) * 4 + 2 = (i * 4 + 2) + 4 by omega, List.getElem?_append_right (by simp)]
        simpa using h'.2.2.1
      · rw [show (i + 1) * 4 + 3 = (i * 4 + 3) + 4 by omega, List.getElem?_append_right (by simp)]
        simpa using h'.2.2.2
theorem flat4_set (os : List CmdM) : ∀ (k : Nat) (o : CmdM), k < os.length →
    ((((os.flatMap cmdVals).set (k * 4) (.int .i64 o.op)).set (k * 4 + 1) (.int .i64 o.a)).set (k * 4 + 2) (.int .i64 o.b)).set (k * 4 + 3) (.int .i64 o.c) = (os.set k o).flatMap cmdVals := by
  induction os with
  | nil => intro k o h; simp at h
  | cons a os ih =>
    intro k o h
    cases k with
    | zero => simp [cmdVals]
    | succ k =>
      have h' := ih k o (by simpa using h)
      have e : (a :: os).flatMap cmdVals = .int .i64 a.op :: .int .i64 a.a :: .int .i64 a.b :: .int .i64 a.c :: os.flatMap cmdVals := by simp [cmdVals]
      have e2 : (a :: os.set k o).flatMap cmdVals = .int .i64 a.op :: .int .i64 a.a :: .int .i64 a.b :: .int .i64 a.c :: (os.set k o).flatMap cmdVals := by simp [cmdVals]
      rw [List.set_cons_succ, e, e2, ← h', show (k + 1) * 4 = k * 4 + 1 + 1 + 1 + 1 by omega]
      rfl
/-- A row of instructions of the call's own. -/
def OO (w : World) (A : Option Addr) (c : Nat) (os : List CmdM) : Prop := w.ownsRow 0 30 4 (.slice A os.length c) os.length (os.flatMap cmdVals)
section
variable {w w' : World} {A : Option Addr} {c : Nat} {os : List CmdM}
theorem OO.keep (h : OO w A c os) (hk : ∀ g ∈ blk A, w'.heap[g]? = w.heap[g]?) : OO w' A c os := ownsRow_keep h hk
theorem OO.lt (h : OO w A c os) : ∀ g ∈ blk A, g < w.heap.size := ownsRow_lt h
theorem OO.below (h : OO w A c os) (hb : Below w.heap.size w w') : OO w' A c os := h.keep fun g hg => hb.block g (h.lt g hg)
theorem OO.only {S : List Nat} (h : OO w A c os) (hb : Only S w w') (hs : ∀ g ∈ blk A, g ∉ S) : OO w' A c os := h.keep fun g hg => hb.block g (h.lt g hg) (hs g hg)
theorem OO.some_ (h : OO w A c os) {j : Nat} (hj : j < os.length) : ∃ g, A = some ⟨g, 0, none⟩ ∧ g < w.heap.size := by
  rcases ownsRow_block h with ⟨_, hn, _⟩ | ⟨g, cur, rfl, hg, _⟩
  · omega
  · exact ⟨g, rfl, (Array.getElem?_eq_some_iff.1 hg).1⟩
theorem OO.at_ (h : OO w A c os) {i : Nat} {o : CmdM} (hi : os[i]? = some o) : ∃ g, A = some ⟨g, 0, none⟩ ∧ w.cell? ⟨g, i * 4, none⟩ = some (.int .i64 o.op) ∧
    w.cell? ⟨g, i * 4 + 1, none⟩ = some (.int .i64 o.a) ∧ w.cell? ⟨g, i * 4 + 2, none⟩ = some (.int .i64 o.b) ∧ w.cell? ⟨g, i * 4 + 3, none⟩ = some (.int .i64 o.c) ∧ g < w.heap.size := by
  have hl : i < os.length := (List.getElem?_eq_some_iff.1 hi).1
  rcases ownsRow_block h with ⟨_, hn, _⟩ | ⟨g, cur, rfl, hg, hnc, _, hs, ht⟩
  · omega
  · obtain ⟨f1, f2, f3, f4⟩ := flat4 os i o hi
    have key : ∀ (j : Nat) (v : Value), j < os.length * 4 → (os.flatMap cmdVals)[j]? = some v → w.cell? ⟨g, j, none⟩ = some v := by
      intro j v hj hv
      rw [cell_of_row w g j cur _ (0, 0) hg]
      rw [← ht, List.getElem?_take, if_pos hj] at hv
      simpa using hv
    exact ⟨g, rfl, key _ _ (by omega) f1, key _ _ (by omega) f2, key _ _ (by omega) f3, key _ _ (by omega) f4, (Array.getElem?_eq_some_iff.1 hg).1⟩
theorem OO.ro (h : OO w A c os) : RO w A os := by
  intro i hi
  obtain ⟨g, hA, h1, h2, h3, h4, _⟩ := h.at_ (List.getElem?_eq_getElem hi)
  exact ⟨g, 0, os[i], hA, List.getElem?_eq_getElem hi, by simpa using h1, by simpa using h2, by simpa using h3, by simpa using h4⟩
theorem OO.set_ {g : Nat} (h : OO w (some ⟨g, 0, none⟩) c os) (k : Nat) (o : CmdM) (hk : k < os.length) :
    OO ((((w.setCell ⟨g, k * 4, none⟩ (.int .i64 o.op)).setCell ⟨g, k * 4 + 1, none⟩ (.int .i64 o.a)).setCell ⟨g, k * 4 + 2, none⟩ (.int .i64 o.b)).setCell ⟨g, k * 4 + 3, none⟩ (.int .i64 o.c)) (some ⟨g, 0, none⟩) c (os.set k o) := by
  have h1 := (World.ownsRow.stored (w := w) h (k * 4) (.int .i64 o.op)).1
  have h2 := (World.ownsRow.stored h1 (k * 4 + 1) (.int .i64 o.a)).1
  have h3 := (World.ownsRow.stored h2 (k * 4 + 2) (.int .i64 o.b)).1
  have h4 := (World.ownsRow.stored h3 (k * 4 + 3) (.int .i64 o.c)).1
  rw [flat4_set os k o hk] at h4
  unfold OO
  rw [List.length_set]
  exact h4
theorem OO.frozen {g : Nat} (h : OO w (some ⟨g, 0, none⟩) c os) (k : Nat) : w.frozen? ⟨g, k, none⟩ = false := World.ownsRow.frozenAt h k
end
def zo : CmdM := ⟨0, 0, 0, 0⟩
def rowO (os : List CmdM) : Array Value := (os.flatMap cmdVals).toArray
theorem flat4_zero : ∀ (n i : Nat), i < n * 4 → ((List.replicate n zo).flatMap cmdVals)[i]? = some (Value.int .i64 0)
  | 0, i, h => by omega
  | n + 1, i, h => by
    have e : (List.replicate (n + 1) zo).flatMap cmdVals = [Value.int .i64 0, .int .i64 0, .int .i64 0, .int .i64 0] ++ (List.replicate n zo).flatMap cmdVals := by simp [List.replicate_succ, cmdVals, zo]
    rw [e]
    rcases Nat.lt_or_ge i 4 with h3 | h3
    · rw [List.getElem?_append_left (by simpa using h3)]
      rcases (by omega : i = 0 ∨ i = 1 ∨ i = 2 ∨ i = 3) with rfl | rfl | rfl | rfl <;> rfl
    · rw [List.getElem?_append_right (by simpa using h3)]
      have h' := flat4_zero n (i - 4) (by omega)
      simp only [List.length_cons, List.length_nil]
      rw [h']
theorem rowO_made (n : Nat) : madeCells #[Value.int .i64 0, .int .i64 0, .int .i64 0, .int .i64 0] (n * 4) = rowO (List.replicate n zo) := by
  apply Array.ext_getElem?
  intro i
  rcases Nat.lt_or_ge i (n * 4) with h | h
  · have h1 := flat4_zero n i h
    simp only [rowO, List.getElem?_toArray, h1]
    have h4 : i % 4 = 0 ∨ i % 4 = 1 ∨ i % 4 = 2 ∨ i % 4 = 3 := by omega
    rcases h4 with h4 | h4 | h4 | h4 <;> simp [madeCells, h, h4]
  · rw [Array.getElem?_eq_none (by simp [size_madeCells, h]), Array.getElem?_eq_none (by simp only [rowO, List.size_toArray, flat4_len, List.length_replicate]; omega)]
theorem OO.of_blkn {w : World} {g c : Nat} {os : List CmdM} (hn : c = os.length) (h : w.heap[g]? = some (.cells (rowO os) 30 (0, 0))) (hl : os.length ≤ maxLen) : OO w (some ⟨g, 0, none⟩) c os := by
  subst hn
  exact ⟨flat4_len os, .inr ⟨g, os.length, rowO os, rfl, Nat.zero_le _, h, Nat.le_refl _, hl, by simp only [rowO, List.size_toArray, flat4_len], by rw [rowO, ← flat4_len, List.take_length]⟩⟩
end Go.Proofs.Ytkikeanpbffpkaa
