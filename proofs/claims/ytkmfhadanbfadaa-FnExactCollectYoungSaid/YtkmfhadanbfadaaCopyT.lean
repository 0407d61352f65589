/- The reference's copies of snapshots and of aged heaps. -/
import Derived.Test.YtkmfhadanbfadaaChecked
import Derived.Deep.RegionHeld3
import Derived.Deep.DeepCutAuto
import Derived.IntWalk
import Derived.Test.YtkmfhadanbfadaaCopyS
import Derived.Test.YtkmfhadanbfadaaCopyI
namespace Go.Proofs.Ytkmfhadanbfadaa
open Go.RowKit
set_option maxRecDepth 100000
set_option linter.unusedSimpArgs false
set_option linter.unusedVariables false
theorem OF.fresh0 {α : Type} {T : TypeId} {f : α → Value} {w : World} {q : Nat} (h : w.heap[q]? = some (.cells #[] T (0, 0))) : OF T f w (some ⟨q, 0, none⟩) 0 ([] : List α) :=
  ⟨by simp, .inr ⟨q, 0, #[], rfl, Nat.zero_le _, h, Nat.le_refl _, Nat.zero_le _, by simp, by simp⟩⟩
end Go.Proofs.Ytkmfhadanbfadaa
