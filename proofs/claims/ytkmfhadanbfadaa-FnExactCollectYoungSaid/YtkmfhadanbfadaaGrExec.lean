/- Texts of one family, one behind the other: Exec, ExecI, ExecN, ExecA. -/
import Derived.Test.YtkmfhadanbfadaaChecked
import Derived.Deep.RegionHeld3
import Derived.Deep.DeepCutAuto
import Derived.Test.YtkmfhadanbfadaaCmdP
import Derived.Test.YtkmfhadanbfadaaGrOwn
import Derived.Test.YtkmfhadanbfadaaCopy
import Derived.Test.YtkmfhadanbfadaaFreeC
import Derived.Test.YtkmfhadanbfadaaOpF
/- A heap behind a pointer, and the program's execute. -/
namespace Go.Proofs.Ytkmfhadanbfadaa
open Go.RowKit
set_option maxRecDepth 100000
set_option linter.unusedSimpArgs false
set_option linter.unusedVariables false
/-- A heap in memory, behind a pointer, all of the call's own. -/
structure PHx (lo : Nat) (w : World) (g : Nat) (h : HeapM) (A : Option Addr) (c : Nat) (A' : Option Addr) (c' : Nat) (os : List OCell) : Prop where
  q0 : w.cell? ⟨g, 0, none⟩ = some (.slice A h.cells.length c)
  q1 : w.cell? ⟨g, 1, none⟩ = some (.slice A' h.roots.length c')
  qf : ∀ o, w.frozen? ⟨g, o, none⟩ = false
  lo_ : lo ≤ g
  lt : g < w.heap.size
  apart : g ∉ hblks A os A'
  map : os.map (·.c) = h.cells
  own : OHs w A c A' c' os h.roots
  los : ∀ b ∈ hblks A os A', lo ≤ b
section
variable {lo : Nat} {w w' : World} {g : Nat} {h : HeapM} {A A' : Option Addr} {c c' : Nat} {os : List OCell}
theorem PHx.gA (p : PHx lo w g h A c A' c' os) : g ∉ blk A := fun hc => p.apart (List.mem_append.2 (.inl (List.mem_append.2 (.inl hc))))
theorem PHx.below (p : PHx lo w g h A c A' c' os) (hb : Below w.heap.size w w') : PHx lo w' g h A c A' c' os :=
  ⟨cell_below p.q0 hb, cell_below p.q1 hb, fun o => ((bcell hb).2.1 g o p.lt).trans (p.qf o), p.lo_, Nat.lt_of_lt_of_le p.lt hb.size, p.apart, p.map, p.own.below hb, p.los⟩
theorem PHx.mk_ (hm : os.map (·.c) = h.cells) (ho : OHs w A c A' c' os h.roots) (hlo : ∀ b ∈ hblks A os A', lo ≤ b) (hw : lo ≤ w.heap.size) (T : TypeId) :
    PHx lo (w.alloc (.cells #[.slice A h.cells.length c, .slice A' h.roots.length c'] T)) w.heap.size h A c A' c' os :=
  ⟨by simp [go_sem], by simp [go_sem], fun o => by simp [go_sem], hw, by simp, fun hc' => by have := ho.lt _ hc'; omega, hm, ho.below (by repeat (first | ((with_reducible refine Below.setc ?_ ?_ _); focus (first | omega | (simp; done) | (simp; omega))) | ((with_reducible refine Below.allocc ?_ ?_ _); focus (first | omega | (simp; done) | (simp; omega))) | (with_reducible refine Below.drew ?_) | (with_reducible refine Below.drewn ?_) | (with_reducible assumption) | (with_reducible exact Below.refl _ _) | ((with_reducible refine Below.stepp (by with_reducible assumption) ?_ ?_); focus (first | omega | (simp; done) | (simp; omega))))), hlo⟩
end
end Go.Proofs.Ytkmfhadanbfadaa

/- The program's execute returns execM, in new memory: all instructions but OpNew. -/
namespace Go.Proofs.Ytkmfhadanbfadaa
open Go.RowKit
set_option maxRecDepth 100000
set_option linter.unusedSimpArgs false
set_option linter.unusedVariables false
/-- A store below all that the heap has. -/
theorem OH.setlt {lo : Nat} {w : World} {v : Value} {p : HeapM} (h : OH lo w v p) {a : Addr} (ha : a.block < lo) (u : Value) : OH lo (w.setCell a u) v p := by
  obtain ⟨A, c, A', c', os, rfl, h1, h2, h3⟩ := h
  exact ⟨A, c, A', c', os, rfl, h1, h2.keep fun b hb => heap_setCell_ne _ _ _ (fun e => by have := h3 b hb; omega), h3⟩
end Go.Proofs.Ytkmfhadanbfadaa

/- The program's execute returns execM, in new memory: OpNew, and all instructions. -/
namespace Go.Proofs.Ytkmfhadanbfadaa
open Go.RowKit
set_option maxRecDepth 100000
set_option linter.unusedSimpArgs false
set_option linter.unusedVariables false
end Go.Proofs.Ytkmfhadanbfadaa

/- The program's execute returns execM, in new memory, for every possible instruction. -/
namespace Go.Proofs.Ytkmfhadanbfadaa
open Go.RowKit
end Go.Proofs.Ytkmfhadanbfadaa
