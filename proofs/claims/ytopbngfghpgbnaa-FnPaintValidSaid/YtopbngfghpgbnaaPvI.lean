/- FnPaintValid: the two painted heaps that its loop makes. -/
import Derived.Test.YtopbngfghpgbnaaChecked
import Derived.Test.YtopbngfghpgbnaaAppK
import Derived.Test.YtopbngfghpgbnaaGrCtx
import Derived.Test.YtopbngfghpgbnaaBoxT
import Derived.Test.YtopbngfghpgbnaaGrIso
namespace Go.Proofs.Ytopbngfghpgbnaa
open Go.RowKit
set_option linter.unusedVariables false
def PVI (a1 a2 : Value) (bw : Nat) (w2 : World) (k5 : Nat) (X5 : List Int) (k6 : Nat) (X6 : List Int) (W : World) : Prop :=
  ∃ S5 c5 S6 c6, k5 = X5.length ∧ k6 = X6.length ∧ Bx W bw [a1, a2, .slice S5 k5 c5, .bool true] ∧ Bx W (bw + 1) [a1, a2, .slice S6 k6 c6, .bool true] ∧ OF 3 fi W S5 c5 X5 ∧ OF 3 fi W S6 c6 X6 ∧
    (∀ g ∈ blk S5, bw + 2 ≤ g ∧ g ∉ blk S6) ∧ (∀ g ∈ blk S6, bw + 2 ≤ g) ∧ Below bw w2 W
theorem Bx.set2_ {W : World} {b : Nat} {u0 u1 u2 u3 : Value} (h : Bx W b [u0, u1, u2, u3]) (v2 : Value) : Bx (W.setCell ⟨b, 2, none⟩ v2) b [u0, u1, v2, u3] := by
  have s0 := h.c 0 _ rfl
  have s1 := h.c 1 _ rfl
  have s2 := h.c 2 _ rfl
  have s3 := h.c 3 _ rfl
  exact ⟨fun j v hj => by
    match j, hj with
    | 0, hj => injection hj with hj; subst hj; simp [go_sem, s0]
    | 1, hj => injection hj with hj; subst hj; simp [go_sem, s1]
    | 2, hj => injection hj with hj; subst hj; simp [go_sem, s2]
    | 3, hj => injection hj with hj; subst hj; simp [go_sem, s3]
    | j + 4, hj => simp at hj, fun j => by have := h.f j; simpa [go_sem] using this, by simpa using h.lt⟩
section
variable {a1 a2 : Value} {bw : Nat} {w2 W W1 w' : World} {X5 X6 : List Int} {S5 S6 S' : Option Addr} {c5 c6 c' n k5 k6 : Nat} {x : Int}
theorem PVI.push5 (hB5 : Bx W bw [a1, a2, .slice S5 k5 c5, .bool true]) (hB6 : Bx W (bw + 1) [a1, a2, .slice S6 k6 c6, .bool true]) (O5 : OF 3 fi W S5 c5 X5) (O6 : OF 3 fi W S6 c6 X6)
    (L5 : ∀ g ∈ blk S5, bw + 2 ≤ g ∧ g ∉ blk S6) (L6 : ∀ g ∈ blk S6, bw + 2 ≤ g) (Y : Below bw w2 W) (h6 : k6 = X6.length)
    (hB : Below W.heap.size W W1) (hO' : OF 3 fi w' S' c' (X5 ++ [x])) (hOn : Only (blk S5) W1 w') (hg : ∀ g ∈ blk S', g ∈ blk S5 ∨ W1.heap.size ≤ g) (hn : n = (X5 ++ [x]).length) :
    PVI a1 a2 bw w2 n (X5 ++ [x]) k6 X6 (w'.setCell ⟨bw, 2, none⟩ (.slice S' n c')) := by
  have hs := hB.size
  have l6 := hB6.lt
  have hn5 : bw ∉ blk S5 := fun h => by have := (L5 _ h).1; omega
  have hn6 : bw + 1 ∉ blk S5 := fun h => by have := (L5 _ h).1; omega
  have hS' : ∀ g ∈ blk S', bw + 2 ≤ g := fun g h => by
    rcases hg g h with h | h
    · exact (L5 g h).1
    · omega
  refine ⟨S', c', S6, c6, hn, h6, (((hB5.below hB).only hOn hn5).set2_ _), (((hB6.below hB).only hOn hn6).other (by omega) _ _), hO'.ne_ (fun h => by have := hS' _ h; exact absurd this (by simp)), ((O6.below hB).only hOn (fun g h h5 => (L5 g h5).2 h)).ne_ (fun h => by have := L6 _ h; exact absurd this (by simp)), ?_, L6, ?_⟩
  · intro g h
    refine ⟨hS' g h, fun h6' => ?_⟩
    rcases hg g h with h | h
    · exact (L5 g h).2 h6'
    · have := O6.lt g h6'; omega
  · exact (Y.trans ((hB.mono (by omega)).trans (hOn.below (by omega) (fun g h => by have := (L5 g h).1; omega)))).setCell (Nat.le_refl _) _
theorem PVI.push6 (hB5 : Bx W bw [a1, a2, .slice S5 k5 c5, .bool true]) (hB6 : Bx W (bw + 1) [a1, a2, .slice S6 k6 c6, .bool true]) (O5 : OF 3 fi W S5 c5 X5) (O6 : OF 3 fi W S6 c6 X6)
    (L5 : ∀ g ∈ blk S5, bw + 2 ≤ g ∧ g ∉ blk S6) (L6 : ∀ g ∈ blk S6, bw + 2 ≤ g) (Y : Below bw w2 W) (h5 : k5 = X5.length)
    (hB : Below W.heap.size W W1) (hO' : OF 3 fi w' S' c' (X6 ++ [x])) (hOn : Only (blk S6) W1 w') (hg : ∀ g ∈ blk S', g ∈ blk S6 ∨ W1.heap.size ≤ g) (hn : n = (X6 ++ [x]).length) :
    PVI a1 a2 bw w2 k5 X5 n (X6 ++ [x]) (w'.setCell ⟨bw + 1, 2, none⟩ (.slice S' n c')) := by
  have hs := hB.size
  have l6 := hB6.lt
  have hn5 : bw ∉ blk S6 := fun h => by have := L6 _ h; omega
  have hn6 : bw + 1 ∉ blk S6 := fun h => by have := L6 _ h; omega
  have hS' : ∀ g ∈ blk S', bw + 2 ≤ g := fun g h => by
    rcases hg g h with h | h
    · exact L6 g h
    · omega
  refine ⟨S5, c5, S', c', h5, hn, (((hB5.below hB).only hOn hn5).other (by omega) _ _), (((hB6.below hB).only hOn hn6).set2_ _), ((O5.below hB).only hOn (fun g h h6 => (L5 g h).2 h6)).ne_ (fun h => by have := (L5 _ h).1; exact absurd this (by simp)), hO'.ne_ (fun h => by have := hS' _ h; exact absurd this (by simp)), ?_, hS', ?_⟩
  · intro g h
    refine ⟨(L5 g h).1, fun h6' => ?_⟩
    rcases hg g h6' with h6 | h6
    · exact (L5 g h).2 h6
    · have := O5.lt g h; omega
  · exact (Y.trans ((hB.mono (by omega)).trans (hOn.below (by omega) (fun g h => by have := L6 g h; omega)))).setCell (by simp only; omega) _
theorem PVI.start (hB : Bx W bw [a1, a2, .slice none 0 0, .bool true]) (hB6 : Bx W (bw + 1) [a1, a2, .slice none 0 0, .bool true]) (Y : Below bw w2 W) : PVI a1 a2 bw w2 0 [] 0 [] W :=
  ⟨none, 0, none, 0, rfl, rfl, hB, hB6, OF.nil, OF.nil, by simp [blk], by simp [blk], Y⟩
end
theorem RPt.of_ {w : World} {A A' S : Option Addr} {c c' c2 k : Nat} {b : Bool} {st : HeapM} {cols : List Int} (h : RHs w A A' st) (ho : RF fi w S cols) (hl : cols.length ≤ 9223372036854775807) (hk : k = cols.length) :
    RPt w (.agg #[.slice A st.cells.length c, .slice A' st.roots.length c', .slice S k c2, .bool b]) ⟨st, cols, b⟩ := ⟨A, c, A', c', S, c2, by rw [hk], h, ho, hl⟩
theorem tail_zero {xs : List Int} {k : Nat} {x : Int} (hk : xs.length ≤ k) (hx : (xs ++ [0])[k]? = some x) : fi x = fi 0 := by
  rw [List.getElem?_append_right hk] at hx
  have := List.mem_of_getElem? hx
  simp at this
  rw [this]
theorem one_zero {k : Nat} {x : Int} (hx : ([0] : List Int)[k]? = some x) : fi x = fi 0 := by
  have := List.mem_of_getElem? hx
  simp at this
  rw [this]
theorem paintAll_snoc {x : Int} {h : HeapM} {k : Nat} {c : CellM} (hc : h.cells[k]? = some c) : (paintAll x h).take (k + 1) = (paintAll x h).take k ++ [if c.used then x else 0] := by
  have hk := (List.getElem?_eq_some_iff.1 hc).1
  unfold paintAll
  rw [List.take_add_one, List.getElem?_map, hc]
  rfl
theorem paintAll_len (x : Int) (h : HeapM) : (paintAll x h).length = h.cells.length := by simp [paintAll]
end Go.Proofs.Ytopbngfghpgbnaa
