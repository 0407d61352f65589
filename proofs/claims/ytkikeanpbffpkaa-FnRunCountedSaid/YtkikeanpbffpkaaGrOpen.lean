/- Texts of one family, one behind the other: Open, OpenB. -/
import Derived.Test.YtkikeanpbffpkaaRows
import Derived.ProofKit
import Derived.Deep.Slices
import Derived.Deep.Grids
import Derived.ChangeOld
import Derived.Test.YtkikeanpbffpkaaGrOwn
import Derived.OpenShut
import Derived.Test.YtkikeanpbffpkaaGrDraw
/- The arguments of the laws opened: a list, a heap, a painted heap .. that comes in reads as such. No condition. -/
namespace Go.Proofs.Ytkikeanpbffpkaa
open Go.ChangeShapes Go.WideShapes Go.ChangeAt Go.RowKit Go.Deep
set_option maxRecDepth 100000
set_option linter.unusedSimpArgs false
set_option linter.unusedVariables false

section
variable {H : Type} {enc : TypeId × Value → H} {w : World} {base : Nat}
theorem addr_at {a : Addr} (h : a.spot = none) (i : Nat) : a.add i = ⟨a.block, a.off + i, none⟩ := by
  unfold Addr.add
  split
  · subst_vars; cases a; simp_all
  · cases a; simp_all
end
end Go.Proofs.Ytkikeanpbffpkaa

/- A slice of bytes that comes in. -/
namespace Go.Proofs.Ytkikeanpbffpkaa
open Go.ChangeShapes Go.WideShapes Go.ChangeAt Go.RowKit Go.Deep
set_option maxRecDepth 100000
set_option linter.unusedVariables false
section
variable {H : Type} {enc : TypeId × Value → H} {w : World} {base : Nat}
theorem open_Bytes_ {v : Value} {d : DataW H} {p : List MemPlace} (hv : Value.okWide Try.prog w .any base 22 v) (h : DataW.Trod enc Try.prog w 0 (fun _ => true) true 22 v d p) :
    ∃ (L : Option Addr) (l : List Int) (k : Nat), v = .slice L l.length k ∧ RF fu w L l ∧ (∀ x ∈ l, 0 ≤ x ∧ x < 256) ∧ l.length ≤ k ∧ k ≤ 9223372036854775807 := by
  obtain ⟨a0, n0, c0, rfl⟩ := okWide_slice Try.underlying22 hv
  obtain ⟨fuel, h⟩ := h
  rcases open_ints Try.underlying22 Try.underlying5 (by kernel_rfl) h with ⟨h1, _⟩ | ⟨a, len, cap, zs, h1, _, hl, hm, hz, _, hcell, hw⟩
  · simp [Value.cells] at h1
    obtain ⟨rfl, rfl, rfl⟩ := h1
    exact ⟨none, [], 0, rfl, fun i hi => absurd hi (by simp), by simp, by simp, by omega⟩
  · simp [Value.cells] at h1
    obtain ⟨rfl, rfl, rfl⟩ := h1
    simp only [if_true] at hz
    have hlen : (zs.take n0).length = n0 := by rw [List.length_take, hz]; omega
    refine ⟨some a, zs.take n0, c0, by rw [hlen], fun i hi => ?_, fun x hx => ?_, by omega, by unfold maxLen at hm; omega⟩
    · rw [hlen] at hi
      have h0 : a.spot = none := by
        have := hcell 0 (by omega)
        have h2 := World.cell?_spot this
        simpa [Addr.add] using h2
      have hc := hcell i (by omega)
      rw [addr_at h0] at hc
      refine ⟨a.block, a.off, zs.getD i 0, by cases a; simp_all, ?_, hc⟩
      rw [List.getElem?_take, if_pos hi, List.getElem?_eq_getElem (by omega)]
      simp [List.getD, List.getElem?_eq_getElem (show i < zs.length by omega)]
    · have h9 := hw x (List.mem_of_mem_take hx)
      have h8 := bounds_u8 h9
      omega
end
end Go.Proofs.Ytkikeanpbffpkaa
