/- Making white cells grey: the program's grey and the reference's l18Grey write the list of colours as greyL and grey1 say. -/
import Derived.Test.YtbnokkdhanlhpaaChecked
import Derived.Test.YtbnokkdhanlhpaaGrOwn
import Derived.Test.YtbnokkdhanlhpaaGrData
namespace Go.Proofs.Ytbnokkdhanlhpaa
open Go.RowKit
set_option maxRecDepth 100000
set_option linter.unusedSimpArgs false
set_option linter.unusedVariables false
theorem grey1_neg {cols : List Int} {r : Int} (h : r < 0) : grey1 cols r = cols := grey1_not (whiteM_neg h)
theorem grey1_other {cols : List Int} {r x : Int} (h0 : 0 ≤ r) (hx : cols[r.toNat]? = some x) (h : x ≠ 0) : grey1 cols r = cols := grey1_not (by rw [whiteM_at h0 hx]; simpa using h)
theorem grey1_zero {cols : List Int} {r : Int} (h0 : 0 ≤ r) (hx : cols[r.toNat]? = some 0) : grey1 cols r = cols.set r.toNat 1 := grey1_white (by rw [whiteM_at h0 hx]; rfl)
end Go.Proofs.Ytbnokkdhanlhpaa
