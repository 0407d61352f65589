/- Texts of one family, one behind the other: MovI. -/
import Derived.Test.YtngmkflmjjkjaaaChecked
import Derived.Deep.RegionHeld3
import Derived.Deep.DeepCutAuto
import Derived.Test.YtngmkflmjjkjaaaGath
import Derived.Test.YtngmkflmjjkjaaaGrOrd
import Derived.Test.YtngmkflmjjkjaaaGrSnap
import Derived.Test.YtngmkflmjjkjaaaGrHeap
/- CopyHeap and SlideHeap of the program. -/
namespace Go.Proofs.Ytngmkflmjjkjaaa
open Go.RowKit
set_option maxRecDepth 100000
set_option linter.unusedSimpArgs false
set_option linter.unusedVariables false
theorem copyHeap_no {h : HeapM} (hv : validM h = false) : copyHeapM h = zeroH := by unfold copyHeapM; rw [hv]; rfl
theorem slideHeap_no {h : HeapM} (hv : validM h = false) : slideHeapM h = zeroH := by unfold slideHeapM; rw [hv]; rfl
theorem copyHeap_yes {h : HeapM} (hv : validM h = true) : copyHeapM h = gathM h (orderM h) := by unfold copyHeapM; rw [hv]; rfl
theorem slideHeap_yes {h : HeapM} (hv : validM h = true) : slideHeapM h = gathM h (slideM h) := by unfold slideHeapM; rw [hv]; rfl
theorem slide_ok2 {h : HeapM} (hv : validM h = true) : OrdOk h (slideM h) := slide_ok h
end Go.Proofs.Ytngmkflmjjkjaaa
