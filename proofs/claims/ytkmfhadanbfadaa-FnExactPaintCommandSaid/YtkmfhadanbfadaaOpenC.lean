/- The arguments of the laws opened: instructions, lists of instructions, of numbers, numbers. No condition. -/
import Derived.Test.YtkmfhadanbfadaaRows
import Derived.ProofKit
import Derived.Deep.Slices
import Derived.Deep.Grids
import Derived.ChangeOld
import Derived.Test.YtkmfhadanbfadaaOpen
namespace Go.Proofs.Ytkmfhadanbfadaa
open Go.ChangeShapes Go.WideShapes Go.ChangeAt Go.RowKit Go.Deep
set_option maxRecDepth 100000
set_option linter.unusedSimpArgs false
set_option linter.unusedVariables false
section
variable {H : Type} {enc : TypeId × Value → H} {w : World} {base : Nat}
theorem open_command_ {n : Nat} {cs : List Value} {x : DataW H × List MemPlace} (h : DataW.trod enc Try.prog w 0 (fun _ => true) true n 44 cs = some x) :
    ∃ o : CmdM, cs = [.int .i64 o.op, .int .i64 o.a, .int .i64 o.b, .int .i64 o.c] := by
  obtain ⟨hl, m, hf⟩ := trod_at Try.underlying44 h
  have hl4 : cs.length = 4 := hl.trans (by kernel_rfl)
  match cs, hl4 with
  | [c0, c1, c2, c3], _ =>
    obtain ⟨y0, h0⟩ := hf 0 _ 0 3 1 rfl rfl rfl (by kernel_rfl)
    obtain ⟨y1, h1⟩ := hf 1 _ 1 3 1 rfl rfl rfl (by kernel_rfl)
    obtain ⟨y2, h2⟩ := hf 2 _ 2 3 1 rfl rfl rfl (by kernel_rfl)
    obtain ⟨y3, h3⟩ := hf 3 _ 3 3 1 rfl rfl rfl (by kernel_rfl)
    obtain ⟨d0, e0, _⟩ := DataW.trod_int Try.underlying3 h0
    obtain ⟨d1, e1, _⟩ := DataW.trod_int Try.underlying3 h1
    obtain ⟨d2, e2, _⟩ := DataW.trod_int Try.underlying3 h2
    obtain ⟨d3, e3, _⟩ := DataW.trod_int Try.underlying3 h3
    simp at e0 e1 e2 e3
    exact ⟨⟨d0, d1, d2, d3⟩, by simp [e0, e1, e2, e3]⟩
theorem open_Command_ {v : Value} {d : DataW H} {p : List MemPlace} (hv : Value.okWide Try.prog w .any base 44 v) (h : DataW.Trod enc Try.prog w 0 (fun _ => true) true 44 v d p) : ∃ op a b c : Int, v = .agg #[.int .i64 op, .int .i64 a, .int .i64 b, .int .i64 c] := by
  obtain ⟨cs, rfl, hsz⟩ := okWide_struct Try.underlying44 hv
  obtain ⟨fuel, h⟩ := h
  obtain ⟨l⟩ := cs
  obtain ⟨o, e0⟩ := open_command_ h
  simp [Value.cells] at e0
  subst e0
  exact ⟨o.op, o.a, o.b, o.c, rfl⟩
end
end Go.Proofs.Ytkmfhadanbfadaa
