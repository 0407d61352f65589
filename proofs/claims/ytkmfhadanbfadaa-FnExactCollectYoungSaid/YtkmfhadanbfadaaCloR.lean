/- Reachability in the reference: l7Reach and Reachable. -/
import Derived.Test.YtkmfhadanbfadaaChecked
import Derived.RegionTactic
import Derived.BigRegion
import Derived.Deep.DeepCutAuto
import Derived.Test.YtkmfhadanbfadaaApp
import Derived.Test.YtkmfhadanbfadaaCopy
import Derived.Test.YtkmfhadanbfadaaGrOwn
import Derived.Test.YtkmfhadanbfadaaGrHeap
import Derived.Test.YtkmfhadanbfadaaGrData
namespace Go.Proofs.Ytkmfhadanbfadaa
open Go.RowKit
set_option maxRecDepth 100000
set_option linter.unusedSimpArgs false
set_option linter.unusedVariables false
theorem RF.singR {α : Type} {f : α → Value} {w : World} {g : Nat} {x : α} (h : w.cell? ⟨g, 0, none⟩ = some (f x)) : RF f w (some ⟨g, 0, none⟩) [x] := fun i hi => by
  obtain rfl : i = 0 := by simp at hi; omega
  exact ⟨g, 0, x, rfl, rfl, h⟩
def getB (l : List Bool) : Nat → Bool := fun k => l.getD k false
theorem getB_set {l : List Bool} {i : Nat} (h : i < l.length) : getB (l.set i true) = fun k => if k = i then true else getB l k := by
  funext k
  unfold getB
  by_cases e : k = i
  · subst e; simp [List.getD, h]
  · have e2 : ¬ i = k := fun h => e h.symm
    simp [List.getD, List.getElem?_set, e, e2]
end Go.Proofs.Ytkmfhadanbfadaa
