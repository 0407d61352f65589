/- The arguments of the laws opened: instructions, lists of instructions, of numbers, numbers. No condition. -/
import Derived.Test.YtbnokkdhanlhpaaRows
import Derived.ProofKit
import Derived.Deep.Slices
import Derived.Deep.Grids
import Derived.ChangeOld
import Derived.Test.YtbnokkdhanlhpaaGrOpen
namespace Go.Proofs.Ytbnokkdhanlhpaa
open Go.ChangeShapes Go.WideShapes Go.ChangeAt Go.RowKit Go.Deep
set_option maxRecDepth 100000
set_option linter.unusedSimpArgs false
set_option linter.unusedVariables false
section
variable {H : Type} {enc : TypeId × Value → H} {w : World} {base : Nat}
theorem open_command_ {n : Nat} {cs : List Value} {x : DataW H × List MemPlace} (h : DataW.trod enc Try.prog w 0 (fun _ => true) true n 59 cs = some x) :
    ∃ o : CmdM, cs = [.int .i64 o.op, .int .i64 o.a, .int .i64 o.b, .int .i64 o.c] := by
  obtain ⟨hl, m, hf⟩ := trod_at Try.underlying59 h
  have hl4 : cs.length = 4 := hl.trans (by kernel_rfl)
  match cs, hl4 with
  | [c0, c1, c2, c3], _ =>
    obtain ⟨y0, h0⟩ := hf 0 _ 0 3 1 rfl rfl rfl (by kernel_rfl)
    obtain ⟨y1, h1⟩ := hf 1 _ 1 3 1 rfl rfl rfl (by kernel_rfl)
    obtain ⟨y2, h2⟩ := hf 2 _ 2 3 1 rfl rfl rfl (by kernel_rfl)
    obtain ⟨y3, h3⟩ := hf 3 _ 3 3 1 rfl rfl rfl (by kernel_rfl)
    obtain ⟨d0, e0, _⟩ := DataW.trod_int Try.underlying3 h0
    obtain ⟨d1, e1, _⟩ := DataW.trod_int Try.underlying3 h1
    obtain ⟨d2, e2, _⟩ := DataW.trod_int Try.underlying3 h2
    obtain ⟨d3, e3, _⟩ := DataW.trod_int Try.underlying3 h3
    simp at e0 e1 e2 e3
    exact ⟨⟨d0, d1, d2, d3⟩, by simp [e0, e1, e2, e3]⟩
theorem open_Command_ {v : Value} {d : DataW H} {p : List MemPlace} (hv : Value.okWide Try.prog w .any base 59 v) (h : DataW.Trod enc Try.prog w 0 (fun _ => true) true 59 v d p) : ∃ op a b c : Int, v = .agg #[.int .i64 op, .int .i64 a, .int .i64 b, .int .i64 c] := by
  obtain ⟨cs, rfl, hsz⟩ := okWide_struct Try.underlying59 hv
  obtain ⟨fuel, h⟩ := h
  obtain ⟨l⟩ := cs
  obtain ⟨o, e0⟩ := open_command_ h
  simp [Value.cells] at e0
  subst e0
  exact ⟨o.op, o.a, o.b, o.c, rfl⟩
theorem open_commands_ {n : Nat} {cs : List Value} {x : DataW H × List MemPlace} (h : DataW.trod enc Try.prog w 0 (fun _ => true) true n 65 cs = some x) :
    ∃ A ys c, cs = [.slice A (ys : List CmdM).length c] ∧ RO w A ys ∧ ys.length ≤ 9223372036854775807 := by
  rcases open_slice Try.underlying65 h with ⟨h1, _⟩ | ⟨a, len, cap, m, n, D, Pl, h1, _, hl, hm, hmm, _, hi⟩
  · exact ⟨none, [], 0, h1, fun i hi => absurd hi (by simp), by simp⟩
  · simp only [if_true] at hmm
    have key : ∀ i, i < len → ∃ c : CmdM, a.spot = none ∧ w.cell? ⟨a.block, a.off + i * 4, none⟩ = some (.int .i64 c.op) ∧ w.cell? ⟨a.block, a.off + i * 4 + 1, none⟩ = some (.int .i64 c.a) ∧
        w.cell? ⟨a.block, a.off + i * 4 + 2, none⟩ = some (.int .i64 c.b) ∧ w.cell? ⟨a.block, a.off + i * 4 + 3, none⟩ = some (.int .i64 c.c) := by
      have h0 : 0 < len → a.spot = none := fun hp => by
        obtain ⟨cs', hc, ht⟩ := hi 0 (by omega)
        rw [show Try.prog.cellsOf 59 = 4 by kernel_rfl] at hc
        obtain ⟨_, hcl, hat⟩ := World.cells?_some hc
        have h3 := hat 0 (by omega)
        rw [List.getElem?_eq_getElem (by omega)] at h3
        have h4 := World.cell?_spot h3
        simpa [Addr.add] using h4
      intro i hil
      have h0 := h0 (by omega)
      obtain ⟨cs', hc, ht⟩ := hi i (by omega)
      rw [show Try.prog.cellsOf 59 = 4 by kernel_rfl] at hc
      obtain ⟨_, hcl, hat⟩ := World.cells?_some hc
      obtain ⟨c, rfl⟩ := open_command_ ht
      have g0 := hat 0 (by omega)
      have g1 := hat 1 (by omega)
      have g2 := hat 2 (by omega)
      have g3 := hat 3 (by omega)
      rw [addr_at h0, addr_at rfl] at g0 g1 g2 g3
      exact ⟨c, h0, g0, g1, g2, g3⟩
    obtain ⟨ys, hyl, hy⟩ := choose_list len key
    subst hyl
    refine ⟨some a, ys, cap, h1, fun i hil => ?_, by unfold maxLen at hm; omega⟩
    obtain ⟨h0, g0, g1, g2, g3⟩ := hy i _ (List.getElem?_eq_getElem hil)
    exact ⟨a.block, a.off, ys[i], by cases a; simp_all, List.getElem?_eq_getElem hil, g0, g1, g2, g3⟩
theorem open_Commands_ {v : Value} {d : DataW H} {p : List MemPlace} (hv : Value.okWide Try.prog w .any base 65 v) (h : DataW.Trod enc Try.prog w 0 (fun _ => true) true 65 v d p) :
    ∃ (L : Option Addr) (k : Nat) (l : List CmdM), v = .slice L l.length k ∧ RO w L l ∧ l.length ≤ 9223372036854775807 := by
  obtain ⟨a0, n0, c0, rfl⟩ := okWide_slice Try.underlying65 hv
  obtain ⟨fuel, h⟩ := h
  obtain ⟨A, ys, c, e0, h1, h2⟩ := open_commands_ h
  simp [Value.cells] at e0
  obtain ⟨rfl, rfl, rfl⟩ := e0
  exact ⟨_, _, ys, rfl, h1, h2⟩
theorem open_Ints_ {v : Value} {d : DataW H} {p : List MemPlace} (hv : Value.okWide Try.prog w .any base 24 v) (h : DataW.Trod enc Try.prog w 0 (fun _ => true) true 24 v d p) :
    ∃ (L : Option Addr) (k : Nat) (l : List Int), v = .slice L l.length k ∧ RF fi w L l ∧ l.length ≤ 9223372036854775807 := by
  obtain ⟨a0, n0, c0, rfl⟩ := okWide_slice Try.underlying24 hv
  obtain ⟨fuel, h⟩ := h
  obtain ⟨A, ys, c, e0, h1, h2⟩ := open_ints_ h
  simp [Value.cells] at e0
  obtain ⟨rfl, rfl, rfl⟩ := e0
  exact ⟨_, _, ys, rfl, h1, h2⟩
theorem open_Int_ {v : Value} (hv : Value.okWide Try.prog w .any base 3 v) : ∃ n : Int, v = .int .i64 n := okWide_int Try.underlying3 hv
end
end Go.Proofs.Ytbnokkdhanlhpaa
