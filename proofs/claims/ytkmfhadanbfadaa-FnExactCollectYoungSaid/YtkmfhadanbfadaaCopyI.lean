/- The program's copies of snapshots, of aged and of painted heaps. -/
import Derived.Test.YtkmfhadanbfadaaChecked
import Derived.Deep.RegionHeld3
import Derived.Deep.DeepCutAuto
import Derived.IntWalk
import Derived.Test.YtkmfhadanbfadaaCopy
namespace Go.Proofs.Ytkmfhadanbfadaa
open Go.RowKit
set_option maxRecDepth 100000
set_option linter.unusedSimpArgs false
set_option linter.unusedVariables false
theorem nd3_of {X Y Z : List Nat} (hx : X.Nodup) (hy : Y.Nodup) (hz : Z.Nodup) (h1 : ∀ g ∈ Y, g ∉ X) (h2 : ∀ g ∈ Z, g ∉ X) (h3 : ∀ g ∈ Z, g ∉ Y) : (X ++ Y ++ Z).Nodup := by
  rw [List.nodup_append, List.nodup_append]
  refine ⟨⟨hx, hy, fun a ha b hb e => h1 b hb (e ▸ ha)⟩, hz, fun a ha b hb e => ?_⟩
  subst e
  rcases List.mem_append.1 ha with ha | ha
  · exact h2 a hb ha
  · exact h3 a hb ha
/-- An object in memory: a snapshot or an aged heap behind a pointer, all of the call's own. -/
structure PTx (lo : Nat) (w : World) (g : Nat) (p : TwoM) (A : Option Addr) (c : Nat) (A' : Option Addr) (c' : Nat) (os : List OCell) (A2 : Option Addr) (c2 : Nat) (A3 : Option Addr) (c3 : Nat) : Prop where
  q0 : w.cell? ⟨g, 0, none⟩ = some (.slice A p.store.cells.length c)
  q1 : w.cell? ⟨g, 1, none⟩ = some (.slice A' p.store.roots.length c')
  q2 : w.cell? ⟨g, 2, none⟩ = some (.slice A2 p.x.length c2)
  q3 : w.cell? ⟨g, 3, none⟩ = some (.slice A3 p.y.length c3)
  qf : ∀ o, w.frozen? ⟨g, o, none⟩ = false
  lo_ : lo ≤ g
  lt : g < w.heap.size
  apart : g ∉ hblks A os A' ++ blk A2 ++ blk A3
  map : os.map (·.c) = p.store.cells
  own : OHs w A c A' c' os p.store.roots
  xs : OF 4 fb w A2 c2 p.x
  ys : OF 4 fb w A3 c3 p.y
  nd : (hblks A os A' ++ blk A2 ++ blk A3).Nodup
  los : ∀ b ∈ hblks A os A' ++ blk A2 ++ blk A3, lo ≤ b
  xl : p.x.length ≤ 9223372036854775807
  yl : p.y.length ≤ 9223372036854775807
end Go.Proofs.Ytkmfhadanbfadaa
