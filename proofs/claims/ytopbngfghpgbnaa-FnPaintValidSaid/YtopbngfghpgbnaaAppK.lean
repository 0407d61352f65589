/- append of one int, in a drawn region whose other facts must stay: rows keep what they hold, but for places from n on that may become the new value. -/
import Derived.Test.YtopbngfghpgbnaaChecked
import Derived.Test.YtopbngfghpgbnaaGrCopy
namespace Go.Proofs.Ytopbngfghpgbnaa
open Go.RowKit
set_option linter.unusedVariables false
set_option maxRecDepth 100000
def Kp (n : Nat) (u : Value) (w w' : World) : Prop :=
  ∀ (g : Nat) (cur : Array Value) (t : TypeId), w.heap[g]? = some (.cells cur t (0, 0)) → ∃ cur' : Array Value, w'.heap[g]? = some (.cells cur' t (0, 0)) ∧ cur'.size = cur.size ∧ ∀ k v, cur[k]? = some v → cur'[k]? = some v ∨ (n ≤ k ∧ cur'[k]? = some u)
section
variable {w w' : World} {n : Nat} {u : Value}
theorem Kp.of_old (h : ∀ g, g < w.heap.size → w'.heap[g]? = w.heap[g]?) : Kp n u w w' := fun g cur t hg =>
  ⟨cur, (h g (Array.getElem?_eq_some_iff.1 hg).1).trans hg, rfl, fun k v hk => .inl hk⟩
theorem Kp.below (h : Below w.heap.size w w') : Kp n u w w' := Kp.of_old h.block
theorem Kp.row {T : TypeId} {f : Int → Value} {A : Option Addr} {c : Nat} {xs : List Int} (h : Kp n u w w') (ho : OF T f w A c xs) (hx : ∀ k x, n ≤ k → xs[k]? = some x → f x = u) : OF T f w' A c xs := by
  refine ⟨ho.1, ?_⟩
  rcases ho.2 with h0 | ⟨g, cap, cur, h1, h2, h3, h4, h5, h6, h7⟩
  · exact .inl h0
  · obtain ⟨cur', k1, k2, k3⟩ := h g cur T h3
    refine .inr ⟨g, cap, cur', h1, h2, k1, h4, h5, by rw [k2, h6], ?_⟩
    rw [← h7]
    apply List.ext_getElem?
    intro k
    rw [List.getElem?_take, List.getElem?_take]
    split
    · rename_i hk
      simp only [Array.getElem?_toList]
      have hlt : k < cur.size := by rw [h6]; simp at hk ⊢; omega
      rcases k3 k _ (Array.getElem?_eq_getElem hlt) with h9 | ⟨hn, h9⟩
      · rw [h9, Array.getElem?_eq_getElem hlt]
      · rw [h9]
        have e1 : (xs.map f)[k]? = cur[k]? := by rw [← h7, List.getElem?_take, if_pos hk, Array.getElem?_toList]
        rw [← e1, List.getElem?_map]
        have hkx : k < xs.length := by simp at hk; omega
        rw [List.getElem?_eq_getElem hkx]
        simp only [Option.map_some]
        rw [hx k _ hn (List.getElem?_eq_getElem hkx)]
    · rfl
end
theorem RF.sngK {α : Type} {f : α → Value} {w : World} {g : Nat} {x : α} (h : w.cell? ⟨g, 0, none⟩ = some (f x)) : RF f w (some ⟨g, 0, none⟩) [x] := fun i hi => by
  obtain rfl : i = 0 := by simp at hi; omega
  exact ⟨g, 0, x, rfl, rfl, h⟩
theorem app_one_k {w : World} (ty : TypeId) {S : Option Addr} {c : Nat} {xs : List Int} (hown : OF 3 fi w S c xs) (b o c2 : Nat) (x : Int) (hx : w.cell? ⟨b, o, none⟩ = some (fi x)) (h : xs.length + 1 ≤ 1099511627776) :
    ∃ S' c' w', (Builtin.append_ #[24, 24] ty #[.slice S xs.length c, .slice (some ⟨b, o, none⟩) 1 c2]).run Try.prog w = .ok (.slice S' (xs ++ [x]).length c') w' ∧ OF 3 fi w' S' c' (xs ++ [x]) ∧ Only (blk S) w w' ∧ (∀ g ∈ blk S', g ∈ blk S ∨ w.heap.size ≤ g) ∧ Kp xs.length (fi x) w w' := by
  have hr : RF fi w (some ⟨b, o, none⟩) [x] := fun k hk => by
    have : k = 0 := by simp at hk; omega
    subst this
    exact ⟨b, o, x, rfl, rfl, hx⟩
  obtain ⟨S', c', w', hrun, h1, h2, h3⟩ := app_ints ty hown c2 hr h
  simp only [List.length_singleton] at hrun
  refine ⟨S', c', w', hrun, h1, h2, h3, ?_⟩
  obtain ⟨i0, hi, hz0, hz1, hz2⟩ := info_parts info_int
  have hnews : ∀ j v, [fi x][j]? = some v → w.cell? ((⟨b, o, none⟩ : Addr).add j) = some v := by
    intro j v hj
    match j, hj with
    | 0, hj =>
      simp at hj
      subst hj
      simpa [Addr.add] using hx
  have h1c : ∀ v ∈ [fi x], v.oneCell' = true := by
    intro v hv
    simp at hv
    subst hv
    rfl
  rcases hown.2 with ⟨he, h0⟩ | ⟨g, cap, cur, he, hbg, hg, hnc, hcm, hcs, htake⟩
  · injection he with e1 e2 e3
    subst e1
    subst e3
    have hr9 := run_append_nil (P := Try.prog) w 24 ty 3 i0 _ Try.underlying24 hi hz0 ⟨b, o, none⟩ 1 c2 [fi x] (by simp [hz1]) hnews (by omega) (by omega) (by rw [hz2]; omega)
    rw [h0] at hrun
    rw [hr9] at hrun
    injection hrun with _ hw
    subst hw
    exact Kp.of_old fun k hk => heap_alloc_old w.drew _ hk
  · injection he with e1 e2 e3
    subst e1
    subst e3
    by_cases hroom : xs.length + 1 ≤ c
    · have hr9 := run_append_room (P := Try.prog) (ty := ty) w 24 3 i0 Try.underlying24 hi g xs.length c cur hg ⟨b, o, none⟩ 1 c2 [fi x] (by simp [hz1]) hnews h1c hroom (by rw [hz1]; simp; omega)
      rw [hr9] at hrun
      injection hrun with _ hw
      subst hw
      rw [hz1]
      intro g2 cur2 t2 hg2
      by_cases hgg : g2 = g
      · subst hgg
        rw [hg] at hg2
        injection hg2 with hg2
        injection hg2 with ec et
        subst ec
        subst et
        refine ⟨_, setRow_heap w g2 cur _ _ _ hg, ?_, ?_⟩
        · simp; omega
        · intro k v hk
          have hkl : k < cur.size := (Array.getElem?_eq_some_iff.1 hk).1
          have hcap : xs.length < cur.size := by omega
          simp only [Nat.mul_one, List.length_singleton, List.getElem?_toArray]
          by_cases hlt : k < xs.length
          · left
            rw [List.append_assoc, List.getElem?_append_left (by simp; omega), List.getElem?_take, if_pos hlt, Array.getElem?_toList]
            exact hk
          · by_cases heq : k = xs.length
            · right
              refine ⟨by omega, ?_⟩
              rw [List.append_assoc, List.getElem?_append_right (by simp; omega)]
              simp [heq]
              have : min xs.length cur.size = xs.length := by omega
              simp [this]
            · left
              rw [List.getElem?_append_right (by simp; omega), List.getElem?_drop, Array.getElem?_toList]
              rw [show xs.length + 1 + (k - (List.take xs.length cur.toList ++ [fi x]).length) = k by simp; omega]
              exact hk
      · refine ⟨cur2, ?_, rfl, fun k v hk => .inl hk⟩
        rw [setRow_other w g g2 _ hgg]
        exact hg2
    · have holds : ∀ j u, (xs.map fi)[j]? = some u → w.cell? ((⟨g, 0, none⟩ : Addr).add j) = some u := World.ownsRow.cells hown (g := g) rfl
      have hr9 := run_append_grow (P := Try.prog) (ty := ty) w 24 3 i0 _ Try.underlying24 hi hz0 ⟨g, 0, none⟩ xs.length c (xs.map fi) (by simp [hz1]) holds ⟨b, o, none⟩ 1 c2 [fi x] (by simp [hz1]) hnews (by omega) (by omega) (growslice_fits (by omega) (by rw [hz2]; omega))
      rw [hr9] at hrun
      injection hrun with _ hw
      subst hw
      exact Kp.of_old fun k hk => heap_alloc_old w.drew _ hk
/-- append of a list onto an empty row: nothing that stood is touched. -/
theorem app_empty {w : World} (ty : TypeId) {S : Option Addr} (hown : OF 3 fi w S 0 ([] : List Int)) {A : Option Addr} {ys : List Int} (c2 : Nat) (hr : RF fi w A ys) (h : ys.length ≤ 1099511627776) :
    ∃ S' c' w', (Builtin.append_ #[24, 24] ty #[.slice S 0 0, .slice A ys.length c2]).run Try.prog w = .ok (.slice S' ys.length c') w' ∧ OF 3 fi w' S' c' ys ∧ Only (blk S) w w' ∧ (∀ g ∈ blk S', g ∈ blk S ∨ w.heap.size ≤ g) ∧ (∀ k, k < w.heap.size → w'.heap[k]? = w.heap[k]?) := by
  obtain ⟨S', c', w', hrun, h1, h2, h3⟩ := app_ints ty hown c2 hr (by simpa using h)
  simp only [List.length_nil, List.nil_append] at hrun h1
  refine ⟨S', c', w', hrun, h1, h2, h3, ?_⟩
  obtain ⟨i0, hi, hz0, hz1, hz2⟩ := info_parts info_int
  cases A with
  | none =>
    have h0 := hr.nil_len rfl
    have hn : ys = [] := List.eq_nil_of_length_eq_zero h0
    subst hn
    have h9 := run_append_of_nil (P := Try.prog) 24 ty 3 i0 Try.underlying24 hi _ _ 1 _ hown c2
    simp only [List.length_nil] at hrun h9
    rw [h9] at hrun
    injection hrun with _ hw
    subst hw
    exact fun _ _ => rfl
  | some ad =>
    have hnews : ∀ j u, (ys.map fi)[j]? = some u → w.cell? (ad.add j) = some u := by
      intro j u hu
      rw [List.getElem?_map, Option.map_eq_some_iff] at hu
      obtain ⟨x, hx, rfl⟩ := hu
      obtain ⟨b, o, x', hA, hx', hc⟩ := hr j (List.getElem?_eq_some_iff.1 hx).1
      injection hA with hA
      subst hA
      rw [hx] at hx'
      injection hx' with hx'
      subst hx'
      have : (⟨b, o, none⟩ : Addr).add j = ⟨b, o + j, none⟩ := by unfold Addr.add; split <;> simp_all
      rw [this]; exact hc
    have h1c : ∀ v ∈ ys.map fi, v.oneCell' = true := by
      intro v hv
      obtain ⟨x, _, rfl⟩ := List.mem_map.1 hv
      rfl
    rcases hown.2 with ⟨he, h0⟩ | ⟨g, cap, cur, he, hbg, hg, hnc, hcm, hcs, htake⟩
    · injection he with e1 e2 e3
      subst e1
      by_cases hm : ys.length = 0
      · have hn : ys = [] := List.eq_nil_of_length_eq_zero hm
        subst hn
        have h9 : (Builtin.append_ #[24, 24] ty #[.slice none 0 0, .slice (some ad) 0 c2]).run Try.prog w = .ok (.slice none 0 0) w := by
          simp [Builtin.append_, run_underlying Try.underlying24, sizeOf, typeInfo, hi, Builtin.lenOf, Builtin.firstCells, loadCells, loadCellsFrom]
        simp only [List.length_nil] at hrun
        rw [h9] at hrun
        injection hrun with _ hw
        subst hw
        exact fun _ _ => rfl
      · have hr9 := run_append_nil (P := Try.prog) w 24 ty 3 i0 _ Try.underlying24 hi hz0 ad ys.length c2 (ys.map fi) (by simp [hz1]) hnews (by omega) (by omega) (by rw [hz2]; omega)
        rw [hr9] at hrun
        injection hrun with _ hw
        subst hw
        exact fun k hk => heap_alloc_old w.drew _ hk
    · injection he with e1 e2 e3
      subst e1
      subst e3
      by_cases hroom : 0 + ys.length ≤ 0
      · have hr9 := run_append_room (P := Try.prog) (ty := ty) w 24 3 i0 Try.underlying24 hi g 0 0 cur hg ad ys.length c2 (ys.map fi) (by simp [hz1]) hnews h1c hroom (by rw [hz1]; simp; omega)
        simp only [Nat.zero_add] at hr9
        rw [hr9] at hrun
        injection hrun with _ hw
        subst hw
        have hn : ys = [] := List.eq_nil_of_length_eq_zero (by omega)
        subst hn
        intro k _
        by_cases hk : k = g
        · subst hk
          rw [setRow_heap w k cur _ _ _ hg, hg]
          simp
        · rw [setRow_other w g k _ hk]
      · have holds : ∀ j u, (([] : List Int).map fi)[j]? = some u → w.cell? ((⟨g, 0, none⟩ : Addr).add j) = some u := fun j u h => by simp at h
        have hr9 := run_append_grow (P := Try.prog) (ty := ty) w 24 3 i0 _ Try.underlying24 hi hz0 ⟨g, 0, none⟩ 0 0 (([] : List Int).map fi) (by simp [hz1]) holds ad ys.length c2 (ys.map fi) (by simp [hz1]) hnews (by omega) (by omega) (growslice_fits (by omega) (by rw [hz2]; omega))
        simp only [Nat.zero_add] at hr9
        rw [hr9] at hrun
        injection hrun with _ hw
        subst hw
        exact fun k hk => heap_alloc_old w.drew _ hk
theorem step_g {c : Bool} {p q : Prop} (h : c = true) (hp : p) : if c = true then p else q := by rw [if_pos h]; exact hp
section
variable {w : World} {ops : Array Oper} {o : Oper} {a : Act} {K : Act → World → Prop} {Q : Exit → Act → World → Prop} {E : Prop}
theorem step_app0 (s x : Operand) (ho : o.op = .call { callee := .builtin .append, args := #[s, x], argTypes := #[24, 24] })
    {S A : Option Addr} {c2 : Nat} {ys : List Int} (hs : a.eval s = .slice S 0 0) (hx : a.eval x = .slice A ys.length c2)
    (hown : OF 3 fi w S 0 ([] : List Int)) (hr : RF fi w A ys) (h : ys.length ≤ 1099511627776)
    (hK : ∀ S' c' w', OF 3 fi w' S' c' ys → Only (blk S) w w' → (∀ g ∈ blk S', g ∈ blk S ∨ w.heap.size ≤ g) → (∀ k, k < w.heap.size → w'.heap[k]? = w.heap[k]?) → K (a.put o.dst (.slice S' ys.length c')) w') :
    Oper.wp Try.prog o a w K Q := by
  obtain ⟨S', c', w', hrun, h1, h2, h3, h4⟩ := app_empty o.type hown c2 hr h
  unfold Oper.wp execOp
  simp only [ho, resolve, invoke, builtin, Sem.run_bind, Sem.run_pure, Result.andThen_ok, List.map_toArray, List.map_cons, List.map_nil, hs, hx, hrun]
  exact hK _ _ _ h1 h2 h3 h4
theorem step_app1 (s x : Operand) (ho : o.op = .call { callee := .builtin .append, args := #[s, x], argTypes := #[24, 24] })
    {S : Option Addr} {c c2 b i : Nat} (xs : List Int) {y : Int} (hs : a.eval s = .slice S xs.length c) (hx : a.eval x = .slice (some ⟨b, i, none⟩) 1 c2)
    (hown : OF 3 fi w S c xs) (hr : w.cell? ⟨b, i, none⟩ = some (fi y)) (h : xs.length + 1 ≤ 1099511627776)
    (hK : ∀ S' c' w', OF 3 fi w' S' c' (xs ++ [y]) → Only (blk S) w w' → (∀ g ∈ blk S', g ∈ blk S ∨ w.heap.size ≤ g) → Kp xs.length (fi y) w w' → K (a.put o.dst (.slice S' (xs ++ [y]).length c')) w') :
    Oper.wp Try.prog o a w K Q := by
  obtain ⟨S', c', w', hrun, h1, h2, h3, h4⟩ := app_one_k o.type hown b i c2 y hr h
  unfold Oper.wp execOp
  simp only [ho, resolve, invoke, builtin, Sem.run_bind, Sem.run_pure, Result.andThen_ok, List.map_toArray, List.map_cons, List.map_nil, hs, hx, hrun]
  exact hK _ _ _ h1 h2 h3 h4
end
end Go.Proofs.Ytopbngfghpgbnaa
