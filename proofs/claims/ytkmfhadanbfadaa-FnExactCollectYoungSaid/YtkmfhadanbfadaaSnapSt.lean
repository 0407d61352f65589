/- SnapStart: the program's and the reference's both return snapStartM, in new memory. -/
import Derived.Test.YtkmfhadanbfadaaChecked
import Derived.Deep.RegionHeld3
import Derived.Deep.DeepCutAuto
import Derived.Test.YtkmfhadanbfadaaCopyI
import Derived.Test.YtkmfhadanbfadaaCopyS
import Derived.Test.YtkmfhadanbfadaaGrHeap
import Derived.Test.YtkmfhadanbfadaaMeet
namespace Go.Proofs.Ytkmfhadanbfadaa
open Go.RowKit
set_option maxRecDepth 100000
set_option linter.unusedSimpArgs false
set_option linter.unusedVariables false
theorem OTw.zero {lo : Nat} {w : World} : OTw lo w (.agg #[.slice none 0 0, .slice none 0 0, .slice none 0 0, .slice none 0 0]) zeroT :=
  ⟨none, 0, none, 0, [], none, 0, none, 0, rfl, rfl, ⟨OC.nil_, OF.nil, by simp [blk, blks], by simp, by simp [zeroT, zeroH]⟩, OF.nil, OF.nil, by simp [hblks, blk, blks], by simp [hblks, blk, blks], by simp [zeroT], by simp [zeroT]⟩
theorem RTw.mk_ {w : World} {A A' A2 A3 : Option Addr} {c c' c2 c3 n m : Nat} {h : HeapM} {xs ys : List Bool} (h1 : RHs w A A' h) (h2 : RF fb w A2 xs) (h3 : RF fb w A3 ys) (hn : n = xs.length) (hm : m = ys.length) (h4 : n ≤ 9223372036854775807) (h5 : m ≤ 9223372036854775807) :
    RTw w (.agg #[.slice A h.cells.length c, .slice A' h.roots.length c', .slice A2 n c2, .slice A3 m c3]) ⟨h, xs, ys⟩ := by
  subst hn; subst hm
  exact ⟨A, c, A', c', A2, c2, A3, c3, rfl, h1, h2, h4, h3, h5⟩
end Go.Proofs.Ytkmfhadanbfadaa
