/- Small laws of heaps of the call's own, rows of one element, what is freed so far. No condition. -/
import Derived.Test.YtkikeanpbffpkaaChecked
import Derived.Test.YtkikeanpbffpkaaGrData
import Derived.Test.YtkikeanpbffpkaaGrSz
import Derived.Test.YtkikeanpbffpkaaGrOwn
import Derived.Test.YtkikeanpbffpkaaGrCopy
namespace Go.Proofs.Ytkikeanpbffpkaa
open Go.RowKit
set_option linter.unusedSimpArgs false
set_option linter.unusedVariables false
theorem OH.zer {lo : Nat} {w : World} : OH lo w (.agg #[.slice none 0 0, .slice none 0 0]) zeroH :=
  ⟨none, 0, none, 0, [], rfl, rfl, ⟨OC.nil_, OF.nil, by simp [blk, blks], by simp, by simp [zeroH]⟩, by simp [hblks, blk, blks]⟩
theorem OH.setlow {lo : Nat} {w : World} {v : Value} {p : HeapM} (h : OH lo w v p) {a : Addr} (ha : a.block < lo) (u : Value) : OH lo (w.setCell a u) v p := by
  obtain ⟨A, c, A', c', os, rfl, h1, h2, h3⟩ := h
  exact ⟨A, c, A', c', os, rfl, h1, h2.keep fun b hb => heap_setCell_ne _ _ _ (fun e => by have := h3 b hb; omega), h3⟩
theorem RF.single {α : Type} {f : α → Value} {w : World} {g : Nat} {x : α} (h : w.cell? ⟨g, 0, none⟩ = some (f x)) : RF f w (some ⟨g, 0, none⟩) [x] := fun i hi => by
  have : i = 0 := by simpa using hi
  subst this
  exact ⟨g, 0, x, rfl, rfl, by simpa using h⟩
theorem sfreed_snoc {cs : List CellM} {dead : List Bool} {j : Nat} {c : CellM} {b : Bool} (hc : cs[j]? = some c) (hb : dead[j]? = some b) : freedN (cs.take (j + 1)) (dead.take (j + 1)) = freedN (cs.take j) (dead.take j) + (if b && c.used then 1 else 0) := by
  have h1 := (List.getElem?_eq_some_iff.1 hc).1
  have h2 := (List.getElem?_eq_some_iff.1 hb).1
  rw [take_snoc_of hc, take_snoc_of hb]
  unfold freedN
  rw [List.zipWith_append (by simp; omega), List.filter_append, List.length_append]
  congr 1
  cases b <;> cases hu : c.used <;> simp [hu]
theorem sfreed_le (cs : List CellM) (dead : List Bool) : freedN cs dead ≤ cs.length := by
  unfold freedN
  refine Nat.le_trans (List.length_filter_le _ _) ?_
  rw [List.length_zipWith]
  omega
end Go.Proofs.Ytkikeanpbffpkaa
