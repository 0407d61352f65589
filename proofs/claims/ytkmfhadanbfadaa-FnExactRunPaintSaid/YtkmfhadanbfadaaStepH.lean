/- StepHeap of the program and of the reference return stepM, in new memory. -/
import Derived.Test.YtkmfhadanbfadaaChecked
import Derived.Deep.DeepCutAuto
import Derived.Test.YtkmfhadanbfadaaGrExec
import Derived.Test.YtkmfhadanbfadaaGrExecS
import Derived.Test.YtkmfhadanbfadaaCmdQ
import Derived.Test.YtkmfhadanbfadaaCmdQS
import Derived.Test.YtkmfhadanbfadaaGrSz
namespace Go.Proofs.Ytkmfhadanbfadaa
open Go.RowKit
set_option maxRecDepth 100000
set_option linter.unusedSimpArgs false
set_option linter.unusedVariables false
theorem OH.zero {lo : Nat} {w : World} : OH lo w (.agg #[.slice none 0 0, .slice none 0 0]) zeroH :=
  ⟨none, 0, none, 0, [], rfl, rfl, ⟨OC.nil_, OF.nil, by simp [blk, blks], by simp, by simp [zeroH]⟩, by simp [hblks, blk, blks]⟩
theorem possO_hid {h : HeapM} {o : CmdM} {b : Bool} (hb : possO h o = b) (hv : validM h = true) (hc : cmdOk o = true) : possM h o = b := (possM_ok hv hc).trans hb
theorem small_valid {h : HeapM} (hv : validM h = true) : SmallH h := by
  obtain ⟨v1, v2, v3⟩ := valid_small hv
  exact ⟨by omega, fun d hd => by have := v3 d hd; omega, by omega⟩
end Go.Proofs.Ytkmfhadanbfadaa
