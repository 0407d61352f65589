/- Texts of one family, one behind the other: Open, OpenB. -/
import Derived.Test.YtopbngfghpgbnaaRows
import Derived.ProofKit
import Derived.Deep.Slices
import Derived.Deep.Grids
import Derived.ChangeOld
import Derived.Test.YtopbngfghpgbnaaGrOwn
import Derived.OpenShut
import Derived.Test.YtopbngfghpgbnaaGrDraw
/- The arguments of the laws opened: a list, a heap, a painted heap .. that comes in reads as such. No condition. -/
namespace Go.Proofs.Ytopbngfghpgbnaa
open Go.ChangeShapes Go.WideShapes Go.ChangeAt Go.RowKit Go.Deep
set_option maxRecDepth 100000
set_option linter.unusedSimpArgs false
set_option linter.unusedVariables false

section
variable {H : Type} {enc : TypeId × Value → H} {w : World} {base : Nat}
theorem addr_at {a : Addr} (h : a.spot = none) (i : Nat) : a.add i = ⟨a.block, a.off + i, none⟩ := by
  unfold Addr.add
  split
  · subst_vars; cases a; simp_all
  · cases a; simp_all
theorem open_ints_ {n : Nat} {cs : List Value} {x : DataW H × List MemPlace} (h : DataW.trod enc Try.prog w 0 (fun _ => true) true n 24 cs = some x) :
    ∃ A xs c, cs = [.slice A xs.length c] ∧ RF fi w A xs ∧ xs.length ≤ 9223372036854775807 := by
  rcases open_ints Try.underlying24 Try.underlying3 (by kernel_rfl) h with ⟨h1, _⟩ | ⟨a, len, cap, zs, h1, _, hl, hm, hz, _, hcell, _⟩
  · exact ⟨none, [], 0, h1, fun i hi => absurd hi (by simp), by simp⟩
  · simp only [if_true] at hz
    have hlen : (zs.take len).length = len := by rw [List.length_take, hz]; omega
    refine ⟨some a, zs.take len, cap, by rw [hlen]; exact h1, fun i hi => ?_, by rw [hlen]; unfold maxLen at hm; omega⟩
    rw [hlen] at hi
    have h0 : a.spot = none := by
      have := hcell 0 (by omega)
      have h2 := World.cell?_spot this
      simpa [Addr.add] using h2
    have hc := hcell i (by omega)
    rw [addr_at h0] at hc
    refine ⟨a.block, a.off, zs.getD i 0, by cases a; simp_all, ?_, hc⟩
    rw [List.getElem?_take, if_pos hi, List.getElem?_eq_getElem (by omega)]
    simp [List.getD, List.getElem?_eq_getElem (show i < zs.length by omega)]
theorem open_bools_ {n : Nat} {cs : List Value} {x : DataW H × List MemPlace} (h : DataW.trod enc Try.prog w 0 (fun _ => true) true n 58 cs = some x) :
    ∃ A xs c, cs = [.slice A xs.length c] ∧ RF fb w A xs ∧ xs.length ≤ 9223372036854775807 := by
  rcases open_bools Try.underlying58 Try.underlying4 (by kernel_rfl) h with ⟨h1, _⟩ | ⟨a, len, cap, B, h1, _, hl, hm, _, hcell⟩
  · exact ⟨none, [], 0, h1, fun i hi => absurd hi (by simp), by simp⟩
  · have hlen : ((List.range len).map B).length = len := by simp
    refine ⟨some a, (List.range len).map B, cap, by rw [hlen]; exact h1, fun i hi => ?_, by rw [hlen]; unfold maxLen at hm; omega⟩
    rw [hlen] at hi
    have h0 : a.spot = none := by
      have := hcell 0 (by omega)
      have h2 := World.cell?_spot this
      simpa [Addr.add] using h2
    have hc := hcell i (by omega)
    rw [addr_at h0] at hc
    exact ⟨a.block, a.off, B i, by cases a; simp_all, by simp [hi], hc⟩
theorem choose_list {α : Type} {p : Nat → α → Prop} (n : Nat) (h : ∀ i, i < n → ∃ a, p i a) : ∃ l : List α, l.length = n ∧ ∀ i a, l[i]? = some a → p i a := by
  induction n with
  | zero => exact ⟨[], rfl, fun i a h => by simp at h⟩
  | succ n ih =>
    obtain ⟨l, hl, hp⟩ := ih fun i hi => h i (by omega)
    obtain ⟨a, ha⟩ := h n (by omega)
    refine ⟨l ++ [a], by simp [hl], fun i b hb => ?_⟩
    rcases Nat.lt_or_ge i n with hi | hi
    · exact hp i b (by rw [List.getElem?_append_left (by omega)] at hb; exact hb)
    · rw [List.getElem?_append_right (by omega)] at hb
      have : i = n := by
        have := (List.getElem?_eq_some_iff.1 hb).1
        simp at this; omega
      subst this
      simp [hl] at hb
      subst hb; exact ha
theorem trod_at {n : Nat} {t : TypeId} {fs : Array Field} {cs : List Value} {x : DataW H × List MemPlace} (ht : Try.prog.underlying t = some (.struct fs)) (h : DataW.trod enc Try.prog w 0 (fun _ => true) true n t cs = some x) :
    cs.length = Try.prog.cellsOf t ∧ ∃ m, ∀ (i : Nat) (f : Field) (o : Nat) (ft : TypeId) (k : Nat), fs[i]? = some f → f.offset = o → f.type = ft → Try.prog.cellsOf ft = k →
      ∃ y, DataW.trod enc Try.prog w 0 (fun _ => true) true m ft ((cs.drop o).take k) = some y := by
  obtain ⟨ys, m, _, _, hl, hyl, hf⟩ := DataW.trod_struct ht h
  refine ⟨hl, m, fun i f o ft k hi ho ht hk => ?_⟩
  subst ho; subst ht; subst hk
  have hlt : i < ys.length := by rw [hyl]; exact (Array.getElem?_eq_some_iff.1 hi).1
  exact ⟨_, (hf i f hi).trans (List.getElem?_eq_getElem hlt)⟩
end
end Go.Proofs.Ytopbngfghpgbnaa

/- A slice of bytes that comes in. -/
namespace Go.Proofs.Ytopbngfghpgbnaa
open Go.ChangeShapes Go.WideShapes Go.ChangeAt Go.RowKit Go.Deep
set_option maxRecDepth 100000
set_option linter.unusedVariables false
section
variable {H : Type} {enc : TypeId × Value → H} {w : World} {base : Nat}
theorem open_Bytes_ {v : Value} {d : DataW H} {p : List MemPlace} (hv : Value.okWide Try.prog w .any base 22 v) (h : DataW.Trod enc Try.prog w 0 (fun _ => true) true 22 v d p) :
    ∃ (L : Option Addr) (l : List Int) (k : Nat), v = .slice L l.length k ∧ RF fu w L l ∧ (∀ x ∈ l, 0 ≤ x ∧ x < 256) ∧ l.length ≤ k ∧ k ≤ 9223372036854775807 := by
  obtain ⟨a0, n0, c0, rfl⟩ := okWide_slice Try.underlying22 hv
  obtain ⟨fuel, h⟩ := h
  rcases open_ints Try.underlying22 Try.underlying5 (by kernel_rfl) h with ⟨h1, _⟩ | ⟨a, len, cap, zs, h1, _, hl, hm, hz, _, hcell, hw⟩
  · simp [Value.cells] at h1
    obtain ⟨rfl, rfl, rfl⟩ := h1
    exact ⟨none, [], 0, rfl, fun i hi => absurd hi (by simp), by simp, by simp, by omega⟩
  · simp [Value.cells] at h1
    obtain ⟨rfl, rfl, rfl⟩ := h1
    simp only [if_true] at hz
    have hlen : (zs.take n0).length = n0 := by rw [List.length_take, hz]; omega
    refine ⟨some a, zs.take n0, c0, by rw [hlen], fun i hi => ?_, fun x hx => ?_, by omega, by unfold maxLen at hm; omega⟩
    · rw [hlen] at hi
      have h0 : a.spot = none := by
        have := hcell 0 (by omega)
        have h2 := World.cell?_spot this
        simpa [Addr.add] using h2
      have hc := hcell i (by omega)
      rw [addr_at h0] at hc
      refine ⟨a.block, a.off, zs.getD i 0, by cases a; simp_all, ?_, hc⟩
      rw [List.getElem?_take, if_pos hi, List.getElem?_eq_getElem (by omega)]
      simp [List.getD, List.getElem?_eq_getElem (show i < zs.length by omega)]
    · have h9 := hw x (List.mem_of_mem_take hx)
      have h8 := bounds_u8 h9
      omega
end
end Go.Proofs.Ytopbngfghpgbnaa
