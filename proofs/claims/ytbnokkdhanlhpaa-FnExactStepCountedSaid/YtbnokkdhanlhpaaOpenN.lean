/- Counted heaps among the arguments of laws. -/
import Derived.Test.YtbnokkdhanlhpaaRows
import Derived.ProofKit
import Derived.Deep.Slices
import Derived.Deep.Grids
import Derived.ChangeOld
import Derived.Test.YtbnokkdhanlhpaaGrOpen
namespace Go.Proofs.Ytbnokkdhanlhpaa
open Go.ChangeShapes Go.WideShapes Go.ChangeAt Go.RowKit Go.Deep
set_option maxRecDepth 100000
set_option linter.unusedSimpArgs false
set_option linter.unusedVariables false
section
variable {H : Type} {enc : TypeId × Value → H} {w : World} {base : Nat}
theorem open_Counted_ {v : Value} {d : DataW H} {p : List MemPlace} (hv : Value.okWide Try.prog w .any base 58 v) (h : DataW.Trod enc Try.prog w 0 (fun _ => true) true 58 v d p) : ∃ pm, RCt w v pm := by
  obtain ⟨cs, rfl, hsz⟩ := okWide_struct Try.underlying58 hv
  obtain ⟨fuel, h⟩ := h
  obtain ⟨hl, m, hf⟩ := trod_at Try.underlying58 h
  obtain ⟨l⟩ := cs
  have hl4 : l.length = 3 := by simpa [Value.cells] using hl.trans (by kernel_rfl)
  match l, hl4 with
  | [c0, c1, c2], _ =>
    obtain ⟨y0, h0⟩ := hf 0 _ 0 56 2 rfl rfl rfl (by kernel_rfl)
    obtain ⟨y1, h1⟩ := hf 1 _ 2 24 1 rfl rfl rfl (by kernel_rfl)
    obtain ⟨hm, A, c, A', c', e0, hr⟩ := open_heap_ h0
    obtain ⟨A2, xs, c2', e1, hr2, hn2⟩ := open_ints_ h1
    simp [Value.cells] at e0 e1
    exact ⟨⟨hm, xs⟩, A, c, A', c', A2, c2', by simp [e0, e1], hr, hr2, hn2⟩
end
end Go.Proofs.Ytbnokkdhanlhpaa
