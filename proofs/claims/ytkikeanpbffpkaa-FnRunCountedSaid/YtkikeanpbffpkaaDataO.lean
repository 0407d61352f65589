/- Freeing cells in rows of cells of a call's own. -/
import Derived.Test.YtkikeanpbffpkaaChecked
import Derived.Test.YtkikeanpbffpkaaGrData
import Derived.Test.YtkikeanpbffpkaaSet
import Derived.Test.YtkikeanpbffpkaaGrOwn
namespace Go.Proofs.Ytkikeanpbffpkaa
open Go.RowKit
set_option linter.unusedSimpArgs false
set_option linter.unusedVariables false
def zeroO : OCell := ⟨freeCell, none, 0⟩
def putO (f : Nat → OCell → Bool) (i : Nat) (o : OCell) : OCell := if f i o then zeroO else o
/-- The cells before number j that meet f are freed. -/
def oPut (f : Nat → OCell → Bool) (j : Nat) (os : List OCell) : List OCell := os.mapIdx fun i o => if i < j then putO f i o else o
section
variable {f : Nat → OCell → Bool} {j : Nat} {os : List OCell}
theorem oPut_zero (f : Nat → OCell → Bool) (os : List OCell) : oPut f 0 os = os := by
  apply List.ext_getElem? ; intro i
  simp [oPut, List.getElem?_mapIdx]
theorem oPut_len (f : Nat → OCell → Bool) (j : Nat) (os : List OCell) : (oPut f j os).length = os.length := by simp [oPut]
theorem oPut_at {k : Nat} {o : OCell} (h : os[k]? = some o) : (oPut f j os)[k]? = some (if k < j then putO f k o else o) := by
  simp [oPut, List.getElem?_mapIdx, h]
theorem oPut_succ {o : OCell} (h : os[j]? = some o) : oPut f (j + 1) os = (oPut f j os).set j (putO f j o) := by
  have hj := (List.getElem?_eq_some_iff.1 h).1
  apply List.ext_getElem?; intro i
  rw [List.getElem?_set, oPut_len]
  by_cases e : j = i
  · subst e
    rw [oPut_at h, if_pos (by omega), if_pos rfl, if_pos hj]
  · rw [if_neg e]
    cases hi : os[i]? with
    | none => simp [oPut, List.getElem?_mapIdx, hi]
    | some o' =>
      rw [oPut_at hi, oPut_at hi]
      by_cases h1 : i < j
      · rw [if_pos h1, if_pos (by omega)]
      · rw [if_neg h1, if_neg (by omega)]
theorem oPut_self {o : OCell} (h : os[j]? = some o) : (oPut f j os).set j o = oPut f j os := by
  have h2 : (oPut f j os)[j]? = some o := by rw [oPut_at h, if_neg (by omega)]
  have he := (List.getElem?_eq_some_iff.1 h2).2
  rw [← he, List.set_getElem_self]
theorem oPut_same {o : OCell} (h : os[j]? = some o) (hf : f j o = false) : oPut f (j + 1) os = oPut f j os := by
  rw [oPut_succ h]
  unfold putO
  rw [hf]
  exact oPut_self h
theorem oPut_hit {o : OCell} (h : os[j]? = some o) (hf : f j o = true) : oPut f (j + 1) os = (oPut f j os).set j zeroO := by
  rw [oPut_succ h]
  unfold putO
  rw [hf]
  rfl
theorem blks_set_zero {os : List OCell} : ∀ {k : Nat}, List.Sublist (blks (os.set k zeroO)) (blks os) := by
  induction os with
  | nil => intro k; simp [blks]
  | cons a os ih =>
    intro k
    cases k with
    | zero => simp only [List.set_cons_zero, blks, List.flatMap_cons]; exact List.sublist_append_right _ _
    | succ k => simp only [List.set_cons_succ, blks, List.flatMap_cons]; exact List.Sublist.append (List.Sublist.refl _) ih
theorem oPut_blks (f : Nat → OCell → Bool) (os : List OCell) : ∀ j, j ≤ os.length → List.Sublist (blks (oPut f j os)) (blks os) := by
  intro j
  induction j with
  | zero => intro _; rw [oPut_zero]; exact List.Sublist.refl _
  | succ j ih =>
    intro hj
    have ho := List.getElem?_eq_getElem (l := os) (i := j) (by omega)
    rw [oPut_succ ho]
    unfold putO
    split
    · exact (blks_set_zero (os := oPut f j os) (k := j)).trans (ih (by omega))
    · rw [oPut_self ho]; exact ih (by omega)
end
/-- Some of the cells have been freed. -/
theorem OHs.put_ {w w' : World} {A A' : Option Addr} {c c' : Nat} {os os' : List OCell} {rs : List Int} (h : OHs w A c A' c' os rs) (hC : OC w' A c os') (hs : List.Sublist (blks os') (blks os)) (hl : os'.length = os.length) (hOn : Only (blk A) w w') :
    OHs w' A c A' c' os' rs := by
  have hnd := h.nodup
  refine ⟨hC, h.roots.only hOn fun b hb hc => ?_, ?_, by rw [hl]; exact h.clen, h.rlen⟩
  · grind
  · exact List.Sublist.nodup (List.Sublist.append (List.Sublist.append (List.Sublist.refl _) hs) (List.Sublist.refl _)) hnd
def freeN (s : Nat) (cs : List CellM) (j : Nat) : Nat := ((List.range j).filter fun i => s.testBit i && usedN cs i).length
theorem freeN_succ (s : Nat) (cs : List CellM) (j : Nat) : freeN s cs (j + 1) = freeN s cs j + (if s.testBit j && usedN cs j then 1 else 0) := by
  unfold freeN
  rw [List.range_succ, List.filter_append, List.length_append]
  congr 1
  by_cases h : (s.testBit j && usedN cs j) = true <;> simp [h]
theorem freeN_le (s : Nat) (cs : List CellM) (j : Nat) : freeN s cs j ≤ j := by
  unfold freeN
  exact Nat.le_trans (List.length_filter_le _ _) (by simp)
def setF (s : Nat) (i : Nat) (o : OCell) : Bool := s.testBit i && o.c.used
def deadF (dead : List Bool) (i : Nat) (_ : OCell) : Bool := dead.getD i false
theorem oPut_drop {os : List OCell} {dead : List Bool} (hl : dead.length = os.length) : (oPut (deadF dead) os.length os).map (·.c) = dropCs (os.map (·.c)) dead := by
  apply List.ext_getElem?; intro i
  rw [List.getElem?_map]
  by_cases hi : i < os.length
  · have ho := List.getElem?_eq_getElem (l := os) hi
    have hd := List.getElem?_eq_getElem (l := dead) (i := i) (by omega)
    rw [oPut_at ho, if_pos hi]
    unfold dropCs
    rw [List.getElem?_zipWith, List.getElem?_map, ho, hd]
    simp only [Option.map_some]
    unfold putO deadF
    rw [getD_of hd]
    cases dead[i]'(by omega) <;> simp [zeroO]
  · rw [List.getElem?_eq_none (by rw [oPut_len]; omega), List.getElem?_eq_none (by simp [dropCs]; omega)]
    rfl
/-- Freeing the used cells of a set, in a heap whose other cells are empty, is dropping. -/
theorem oPut_set {s : Nat} {os : List OCell} {dead : List Bool} (hl : dead.length = os.length) (hs : ∀ (i : Nat) (o : OCell), os[i]? = some o → o.c.used = true → s.testBit i = dead.getD i false)
    (hv : ∀ o ∈ os, o.c.used = false → o.c = freeCell) : (oPut (setF s) os.length os).map (·.c) = dropCs (os.map (·.c)) dead := by
  rw [← oPut_drop hl]
  apply List.ext_getElem?; intro i
  rw [List.getElem?_map, List.getElem?_map]
  cases ho : os[i]? with
  | none => simp [oPut, List.getElem?_mapIdx, ho]
  | some o =>
    have hi := (List.getElem?_eq_some_iff.1 ho).1
    rw [oPut_at ho, oPut_at ho, if_pos hi, if_pos hi]
    simp only [Option.map_some]
    congr 1
    unfold putO setF deadF
    cases hu : o.c.used
    · have := hv o (List.mem_of_getElem? ho) hu
      simp only [Bool.and_false, Bool.false_eq_true, if_false]
      split
      · exact this
      · rfl
    · rw [hs i o ho hu]
      simp
theorem valid_free {h : HeapM} (hv : validM h = true) : ∀ c ∈ h.cells, c.used = false → c = freeCell := by
  intro c hc hu
  unfold validM at hv
  simp only [Bool.and_eq_true] at hv
  have h1 := List.all_eq_true.1 hv.1 c hc
  unfold cellOkM at h1
  rw [hu] at h1
  simp only [Bool.false_eq_true, if_false, Bool.and_eq_true, decide_eq_true_eq] at h1
  obtain ⟨u, d, rs⟩ := c
  simp only at hu h1
  rw [hu, h1.1, List.eq_nil_of_length_eq_zero h1.2]
  rfl
end Go.Proofs.Ytkikeanpbffpkaa
