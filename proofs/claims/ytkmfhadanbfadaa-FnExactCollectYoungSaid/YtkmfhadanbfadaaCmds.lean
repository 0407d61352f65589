/- Lists of instructions of the call's own; toCommandS, eqCommandS, markCommandS, szCommandS of the laws. -/
import Derived.Test.YtkmfhadanbfadaaChecked
import Derived.OwnWalk
import Derived.StillTailTactics
import Derived.Test.YtkmfhadanbfadaaGrOwn
import Derived.Test.YtkmfhadanbfadaaTo
import Derived.Test.YtkmfhadanbfadaaEq
import Derived.Test.YtkmfhadanbfadaaGrSz
namespace Go.Proofs.Ytkmfhadanbfadaa
open Go.RowKit
set_option maxRecDepth 100000
set_option linter.unusedSimpArgs false
set_option linter.unusedVariables false
def cmdVals (o : CmdM) : List Value := [.int .i64 o.op, .int .i64 o.a, .int .i64 o.b, .int .i64 o.c]
theorem flat4_len (os : List CmdM) : (os.flatMap cmdVals).length = os.length * 4 := by
  induction os with
  | nil => rfl
  | cons a os ih => simp only [List.flatMap_cons, List.length_append, ih, List.length_cons]; simp [cmdVals]; omega
theorem flat4 (os : List CmdM) : ∀ (i : Nat) (o : CmdM), os[i]? = some o →
    (os.flatMap cmdVals)[i * 4]? = some (.int .i64 o.op) ∧ (os.flatMap cmdVals)[i * 4 + 1]? = some (.int .i64 o.a) ∧ (os.flatMap cmdVals)[i * 4 + 2]? = some (.int .i64 o.b) ∧ (os.flatMap cmdVals)[i * 4 + 3]? = some (.int .i64 o.c) := by
  induction os with
  | nil => intro i o h; simp at h
  | cons a os ih =>
    intro i o h
    cases i with
    | zero =>
      simp only [List.getElem?_cons_zero, Option.some.injEq] at h
      subst h
      simp [cmdVals]
    | succ i =>
      have h' := ih i o (by simpa using h)
      have e : (a :: os).flatMap cmdVals = [.int .i64 a.op, .int .i64 a.a, .int .i64 a.b, .int .i64 a.c] ++ os.flatMap cmdVals := by simp [cmdVals]
      rw [e]
      refine ⟨?_, ?_, ?_, ?_⟩
      · rw [show (i + 1) * 4 = (i * 4) + 4 by omega, List.getElem?_append_right (by simp)]
        simpa using h'.1
      · rw [show (i + 1) * 4 + 1 = (i * 4 + 1) + 4 by omega, List.getElem?_append_right (by simp)]
        simpa using h'.2.1
      · rw [show (i + 1) * 4 + 2 = (i * 4 + 2) + 4 by omega, List.getElem?_append_right (by simp)]
        simpa using h'.2.2.1
      · rw [show (i + 1) * 4 + 3 = (i * 4 + 3) + 4 by omega, List.getElem?_append_right (by simp)]
        simpa using h'.2.2.2
theorem flat4_set (os : List CmdM) : ∀ (k : Nat) (o : CmdM), k < os.length →
    ((((os.flatMap cmdVals).set (k * 4) (.int .i64 o.op)).set (k * 4 + 1) (.int .i64 o.a)).set (k * 4 + 2) (.int .i64 o.b)).set (k * 4 + 3) (.int .i64 o.c) = (os.set k o).flatMap cmdVals := by
  induction os with
  | nil => intro k o h; simp at h
  | cons a os ih =>
    intro k o h
    cases k with
    | zero => simp [cmdVals]
    | succ k =>
      have h' := ih k o (by simpa using h)
      have e : (a :: os).flatMap cmdVals = .int .i64 a.op :: .int .i64 a.a :: .int .i64 a.b :: .int .i64 a.c :: os.flatMap cmdVals := by simp [cmdVals]
      have e2 : (a :: os.set k o).flatMap cmdVals = .int .i64 a.op :: .int .i64 a.a :: .int .i64 a.b :: .int .i64 a.c :: (os.set k o).flatMap cmdVals := by simp [cmdVals]
      rw [List.set_cons_succ, e, e2, ← h', show (k + 1) * 4 = k * 4 + 1 + 1 + 1 + 1 by omega]
      rfl
/-- A row of instructions of the call's own. -/
def OO (w : World) (A : Option Addr) (c : Nat) (os : List CmdM) : Prop := w.ownsRow 0 47 4 (.slice A os.length c) os.length (os.flatMap cmdVals)
section
variable {w w' : World} {A : Option Addr} {c : Nat} {os : List CmdM}
theorem OO.keep (h : OO w A c os) (hk : ∀ g ∈ blk A, w'.heap[g]? = w.heap[g]?) : OO w' A c os := ownsRow_keep h hk
theorem OO.lt (h : OO w A c os) : ∀ g ∈ blk A, g < w.heap.size := ownsRow_lt h
theorem OO.below (h : OO w A c os) (hb : Below w.heap.size w w') : OO w' A c os := h.keep fun g hg => hb.block g (h.lt g hg)
theorem OO.only {S : List Nat} (h : OO w A c os) (hb : Only S w w') (hs : ∀ g ∈ blk A, g ∉ S) : OO w' A c os := h.keep fun g hg => hb.block g (h.lt g hg) (hs g hg)
theorem OO.some_ (h : OO w A c os) {j : Nat} (hj : j < os.length) : ∃ g, A = some ⟨g, 0, none⟩ ∧ g < w.heap.size := by
  rcases ownsRow_block h with ⟨_, hn, _⟩ | ⟨g, cur, rfl, hg, _⟩
  · omega
  · exact ⟨g, rfl, (Array.getElem?_eq_some_iff.1 hg).1⟩
theorem OO.at_ (h : OO w A c os) {i : Nat} {o : CmdM} (hi : os[i]? = some o) : ∃ g, A = some ⟨g, 0, none⟩ ∧ w.cell? ⟨g, i * 4, none⟩ = some (.int .i64 o.op) ∧
    w.cell? ⟨g, i * 4 + 1, none⟩ = some (.int .i64 o.a) ∧ w.cell? ⟨g, i * 4 + 2, none⟩ = some (.int .i64 o.b) ∧ w.cell? ⟨g, i * 4 + 3, none⟩ = some (.int .i64 o.c) ∧ g < w.heap.size := by
  have hl : i < os.length := (List.getElem?_eq_some_iff.1 hi).1
  rcases ownsRow_block h with ⟨_, hn, _⟩ | ⟨g, cur, rfl, hg, hnc, _, hs, ht⟩
  · omega
  · obtain ⟨f1, f2, f3, f4⟩ := flat4 os i o hi
    have key : ∀ (j : Nat) (v : Value), j < os.length * 4 → (os.flatMap cmdVals)[j]? = some v → w.cell? ⟨g, j, none⟩ = some v := by
      intro j v hj hv
      rw [cell_of_row w g j cur _ (0, 0) hg]
      rw [← ht, List.getElem?_take, if_pos hj] at hv
      simpa using hv
    exact ⟨g, rfl, key _ _ (by omega) f1, key _ _ (by omega) f2, key _ _ (by omega) f3, key _ _ (by omega) f4, (Array.getElem?_eq_some_iff.1 hg).1⟩
theorem OO.set_ {g : Nat} (h : OO w (some ⟨g, 0, none⟩) c os) (k : Nat) (o : CmdM) (hk : k < os.length) :
    OO ((((w.setCell ⟨g, k * 4, none⟩ (.int .i64 o.op)).setCell ⟨g, k * 4 + 1, none⟩ (.int .i64 o.a)).setCell ⟨g, k * 4 + 2, none⟩ (.int .i64 o.b)).setCell ⟨g, k * 4 + 3, none⟩ (.int .i64 o.c)) (some ⟨g, 0, none⟩) c (os.set k o) := by
  have h1 := (World.ownsRow.stored (w := w) h (k * 4) (.int .i64 o.op)).1
  have h2 := (World.ownsRow.stored h1 (k * 4 + 1) (.int .i64 o.a)).1
  have h3 := (World.ownsRow.stored h2 (k * 4 + 2) (.int .i64 o.b)).1
  have h4 := (World.ownsRow.stored h3 (k * 4 + 3) (.int .i64 o.c)).1
  rw [flat4_set os k o hk] at h4
  unfold OO
  rw [List.length_set]
  exact h4
theorem OO.frozen {g : Nat} (h : OO w (some ⟨g, 0, none⟩) c os) (k : Nat) : w.frozen? ⟨g, k, none⟩ = false := World.ownsRow.frozenAt h k
end
def rowO (os : List CmdM) : Array Value := (os.flatMap cmdVals).toArray
theorem OO.of_blkn {w : World} {g c : Nat} {os : List CmdM} (hn : c = os.length) (h : w.heap[g]? = some (.cells (rowO os) 47 (0, 0))) (hl : os.length ≤ maxLen) : OO w (some ⟨g, 0, none⟩) c os := by
  subst hn
  exact ⟨flat4_len os, .inr ⟨g, os.length, rowO os, rfl, Nat.zero_le _, h, Nat.le_refl _, hl, by simp only [rowO, List.size_toArray, flat4_len], by rw [rowO, ← flat4_len, List.take_length]⟩⟩
end Go.Proofs.Ytkmfhadanbfadaa
