/- Boxes of a type of their own lie apart from all rows. -/
import Derived.Test.YtkikeanpbffpkaaChecked
import Derived.Test.YtkikeanpbffpkaaGrCtx
import Derived.Test.YtkikeanpbffpkaaKb
namespace Go.Proofs.Ytkikeanpbffpkaa
open Go.RowKit
set_option linter.unusedVariables false
/-- Block b is a box of type T. -/
def BT (W : World) (b : Nat) (T : TypeId) : Prop := ∃ cur, W.heap[b]? = some (.cells cur T (0, 0))
theorem BT.new (W : World) (vs : Array Value) (T : TypeId) : BT (W.alloc (.cells vs T (0, 0))) W.heap.size T := ⟨_, heap_alloc_at _ _ _ rfl⟩
theorem BT.lt {W : World} {b : Nat} {T : TypeId} (h : BT W b T) : b < W.heap.size := by
  obtain ⟨cur, h⟩ := h
  exact (Array.getElem?_eq_some_iff.1 h).1
theorem BT.below {W W' : World} {b : Nat} {T : TypeId} (h : BT W b T) (hB : Below W.heap.size W W') : BT W' b T := by
  have hl := h.lt
  obtain ⟨cur, h⟩ := h
  exact ⟨cur, (hB.block b hl).trans h⟩
theorem BT.set {W : World} {b : Nat} {T : TypeId} (h : BT W b T) (a : Addr) (u : Value) : BT (W.setCell a u) b T := by
  obtain ⟨cur, h⟩ := h
  by_cases e : b = a.block
  · subst e
    by_cases hs : a.spot.isSome = true
    · refine ⟨cur, ?_⟩
      simp [World.setCell, Array.getElem?_modify, h, hs]
    · refine ⟨cur.setIfInBounds a.off u, ?_⟩
      simp [World.setCell, Array.getElem?_modify, h, hs]
  · exact ⟨cur, (heap_setCell_ne _ _ _ e).trans h⟩
theorem row_not {W : World} {A : Option Addr} {e size n c b : Nat} {vs : List Value} {T : TypeId} (h : W.ownsRow 0 e size (.slice A n c) n vs) (hb : BT W b T) (hne : e ≠ T) : b ∉ blk A := by
  intro hm
  obtain ⟨cur, hb⟩ := hb
  rcases ownsRow_block h with ⟨rfl, -⟩ | ⟨g, cur2, rfl, h2, -⟩
  · simp [blk] at hm
  · have := mem_blk_some hm
    subst this
    rw [hb] at h2
    simp at h2
    exact hne h2.2.symm
section
variable {W : World} {A A' A2 : Option Addr} {c c' c2 b : Nat} {os : List OCell} {rs : List Int} {T : TypeId}
theorem OHs.not_T (h : OHs W A c A' c' os rs) (hb : BT W b T) (h1 : 38 ≠ T) (h2 : 3 ≠ T) : b ∉ hblks A os A' := by
  intro hm
  rcases List.mem_append.1 hm with hm | hm
  · rcases List.mem_append.1 hm with hm | hm
    · exact row_not h.cells.1 hb h1 hm
    · obtain ⟨o, ho, hbo⟩ := List.mem_flatMap.1 hm
      exact row_not (h.cells.2 o ho).1 hb h2 hbo
  · exact row_not h.roots hb h2 hm
end
theorem Bx.other {W : World} {b b' : Nat} {vs : List Value} (h : Bx W b vs) (hn : b ≠ b') (j : Nat) (u : Value) : Bx (W.setCell ⟨b', j, none⟩ u) b vs :=
  h.keep (heap_setCell_ne _ _ _ hn) (by simp)
/-- A heap that reads as h while all blocks but b stay. -/
def SE (b : Nat) (w : World) (v : Value) (h : HeapM) : Prop := ∀ W : World, (∀ x, x ≠ b → x < w.heap.size → W.heap[x]? = w.heap[x]?) → RH W v h
theorem SE.now {b : Nat} {w : World} {v : Value} {h : HeapM} (s : SE b w v h) : RH w v h := s w (fun _ _ _ => rfl)
theorem SE.below {b : Nat} {w w' : World} {v : Value} {h : HeapM} (s : SE b w v h) (hB : Below w.heap.size w w') : SE b w' v h := fun W hW => s W fun x h1 h2 => (hW x h1 (Nat.lt_of_lt_of_le h2 hB.size)).trans (hB.block x h2)
theorem SE.store {b i : Nat} {w : World} {v u : Value} {h : HeapM} (s : SE b w v h) : SE b (w.setCell ⟨b, i, none⟩ u) v h := fun W hW => s W fun x h1 h2 => (hW x h1 (by simpa using h2)).trans (heap_setCell_ne _ _ _ h1)
theorem SE.drew {b : Nat} {w : World} {v : Value} {h : HeapM} (s : SE b w v h) : SE b w.drew v h := fun W hW => s W fun x h1 h2 => hW x h1 h2
end Go.Proofs.Ytkikeanpbffpkaa
