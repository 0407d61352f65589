/-
  No cell of these rows narrows 'for every input' (looked for: loops, veiled, ifaces, maps, wideKeys, modest, calm, conditions, laid).
  DERIVED. THE GIVEN ROWS OF THIS SEAT. 12 by the template 'for every input the law returns true; each argument reads behind the call as it read before'; 0 by the template 'total and deterministic' (their statements: YteilaalababfpaaTotals.lean).
  GIVEN WITH THE SEED: the statements are not yours to turn. If you find one false, say at which input.
  Laid BY PROGRAM, IN A SANDBOX (cutbox-rows.mjs): the forced cells as the released guide's own fill.sh prints them over the translation 677faf0204c85f31… (all of the seat's roots in one cut). By AI agents, Wed Nov 11 2026. No macro, syntax, notation, axiom, sorry.
-/
import Derived.Test.YteilaalababfpaaChecked
import GoSem.Claim
import GoSem.ClaimJoined
import GoSem.ClaimMapViews
import Derived.JoinedTies
import Derived.KernelRfl
namespace Go.Proofs.Yteilaalababfpaa
/- THE CELL 'sum', in the pinned program and in every row, IS THE sha256 OF THE DUMP (.gsa) THAT YteilaalababfpaaProg.lean LOADS. Nothing in Lean hashes anything: it is a label: what it is worth is what the hold of that sum in a sandbox is worth. -/
noncomputable def Try.pinned : Pinned := { name := "yteilaalababfpaa", sum := "677faf0204c85f31cd5acb7ab9cc1cf74b0fc00761115ce803e412e4ccd7fa5b", checked := Try.checked }
namespace Rows
def none {H : Type} : Left H := { results := [], args := [] }

/-- 'laws.FnSnapValid': WHATEVER THE INPUT: true; the input reads as it did. -/
def fnSnapValidSpec : ChangeSpec := { name := "fnSnapValid", fn := fun _ => fun
  | [d] => { results := [.lit (.bool true)], args := [d] }
  | _ => none }
def fnSnapValidRow : OpenClaim := { program := "yteilaalababfpaa", sum := "677faf0204c85f31cd5acb7ab9cc1cf74b0fc00761115ce803e412e4ccd7fa5b", func := "loop.example/memorymanagers/laws.FnSnapValid", spec := "fnSnapValid", apart := false }
def FnSnapValidSaid : Prop := fnSnapValidRow.holds Try.pinned (OpenSpec.ofChange fnSnapValidSpec)

/-- ITS FALSE NEIGHBOUR: 'it returns false'. Refute it at one input. -/
def fnSnapValidWrong : ChangeSpec := { name := "fnSnapValid", fn := fun _ => fun
  | [d] => { results := [.lit (.bool false)], args := [d] }
  | _ => none }
def FnSnapValidWrongFalsely : Prop := fnSnapValidRow.holds Try.pinned (OpenSpec.ofChange fnSnapValidWrong)

/-- 'laws.FnSnapStart': WHATEVER THE INPUT: true; the input reads as it did. -/
def fnSnapStartSpec : ChangeSpec := { name := "fnSnapStart", fn := fun _ => fun
  | [d] => { results := [.lit (.bool true)], args := [d] }
  | _ => none }
def fnSnapStartRow : OpenClaim := { program := "yteilaalababfpaa", sum := "677faf0204c85f31cd5acb7ab9cc1cf74b0fc00761115ce803e412e4ccd7fa5b", func := "loop.example/memorymanagers/laws.FnSnapStart", spec := "fnSnapStart", apart := false }
def FnSnapStartSaid : Prop := fnSnapStartRow.holds Try.pinned (OpenSpec.ofChange fnSnapStartSpec)

/-- ITS FALSE NEIGHBOUR: 'it returns false'. Refute it at one input. -/
def fnSnapStartWrong : ChangeSpec := { name := "fnSnapStart", fn := fun _ => fun
  | [d] => { results := [.lit (.bool false)], args := [d] }
  | _ => none }
def FnSnapStartWrongFalsely : Prop := fnSnapStartRow.holds Try.pinned (OpenSpec.ofChange fnSnapStartWrong)

/-- 'laws.FnSnapStep': WHATEVER THE INPUT: true; the input reads as it did. -/
def fnSnapStepSpec : ChangeSpec := { name := "fnSnapStep", fn := fun _ => fun
  | [d] => { results := [.lit (.bool true)], args := [d] }
  | _ => none }
def fnSnapStepRow : OpenClaim := { program := "yteilaalababfpaa", sum := "677faf0204c85f31cd5acb7ab9cc1cf74b0fc00761115ce803e412e4ccd7fa5b", func := "loop.example/memorymanagers/laws.FnSnapStep", spec := "fnSnapStep", apart := false }
def FnSnapStepSaid : Prop := fnSnapStepRow.holds Try.pinned (OpenSpec.ofChange fnSnapStepSpec)

/-- ITS FALSE NEIGHBOUR: 'it returns false'. Refute it at one input. -/
def fnSnapStepWrong : ChangeSpec := { name := "fnSnapStep", fn := fun _ => fun
  | [d] => { results := [.lit (.bool false)], args := [d] }
  | _ => none }
def FnSnapStepWrongFalsely : Prop := fnSnapStepRow.holds Try.pinned (OpenSpec.ofChange fnSnapStepWrong)

/-- 'laws.FnSnapCommand': WHATEVER THE INPUT: true; the input reads as it did. -/
def fnSnapCommandSpec : ChangeSpec := { name := "fnSnapCommand", fn := fun _ => fun
  | [d] => { results := [.lit (.bool true)], args := [d] }
  | _ => none }
def fnSnapCommandRow : OpenClaim := { program := "yteilaalababfpaa", sum := "677faf0204c85f31cd5acb7ab9cc1cf74b0fc00761115ce803e412e4ccd7fa5b", func := "loop.example/memorymanagers/laws.FnSnapCommand", spec := "fnSnapCommand", unfollowed := true, recurses := true, apart := false }
def FnSnapCommandSaid : Prop := fnSnapCommandRow.holds Try.pinned (OpenSpec.ofChange fnSnapCommandSpec)

/-- ITS FALSE NEIGHBOUR: 'it returns false'. Refute it at one input. -/
def fnSnapCommandWrong : ChangeSpec := { name := "fnSnapCommand", fn := fun _ => fun
  | [d] => { results := [.lit (.bool false)], args := [d] }
  | _ => none }
def FnSnapCommandWrongFalsely : Prop := fnSnapCommandRow.holds Try.pinned (OpenSpec.ofChange fnSnapCommandWrong)

/-- 'laws.FnSnapFinish': WHATEVER THE INPUT: true; the input reads as it did. -/
def fnSnapFinishSpec : ChangeSpec := { name := "fnSnapFinish", fn := fun _ => fun
  | [d] => { results := [.lit (.bool true)], args := [d] }
  | _ => none }
def fnSnapFinishRow : OpenClaim := { program := "yteilaalababfpaa", sum := "677faf0204c85f31cd5acb7ab9cc1cf74b0fc00761115ce803e412e4ccd7fa5b", func := "loop.example/memorymanagers/laws.FnSnapFinish", spec := "fnSnapFinish", unfollowed := true, recurses := true, apart := false }
def FnSnapFinishSaid : Prop := fnSnapFinishRow.holds Try.pinned (OpenSpec.ofChange fnSnapFinishSpec)

/-- ITS FALSE NEIGHBOUR: 'it returns false'. Refute it at one input. -/
def fnSnapFinishWrong : ChangeSpec := { name := "fnSnapFinish", fn := fun _ => fun
  | [d] => { results := [.lit (.bool false)], args := [d] }
  | _ => none }
def FnSnapFinishWrongFalsely : Prop := fnSnapFinishRow.holds Try.pinned (OpenSpec.ofChange fnSnapFinishWrong)

/-- 'laws.FnSnapSweep': WHATEVER THE INPUT: true; the input reads as it did. -/
def fnSnapSweepSpec : ChangeSpec := { name := "fnSnapSweep", fn := fun _ => fun
  | [d] => { results := [.lit (.bool true)], args := [d] }
  | _ => none }
def fnSnapSweepRow : OpenClaim := { program := "yteilaalababfpaa", sum := "677faf0204c85f31cd5acb7ab9cc1cf74b0fc00761115ce803e412e4ccd7fa5b", func := "loop.example/memorymanagers/laws.FnSnapSweep", spec := "fnSnapSweep", unfollowed := true, recurses := true, apart := false }
def FnSnapSweepSaid : Prop := fnSnapSweepRow.holds Try.pinned (OpenSpec.ofChange fnSnapSweepSpec)

/-- ITS FALSE NEIGHBOUR: 'it returns false'. Refute it at one input. -/
def fnSnapSweepWrong : ChangeSpec := { name := "fnSnapSweep", fn := fun _ => fun
  | [d] => { results := [.lit (.bool false)], args := [d] }
  | _ => none }
def FnSnapSweepWrongFalsely : Prop := fnSnapSweepRow.holds Try.pinned (OpenSpec.ofChange fnSnapSweepWrong)

/-- 'laws.FnRunSnap': WHATEVER THE INPUT: true; the input reads as it did. -/
def fnRunSnapSpec : ChangeSpec := { name := "fnRunSnap", fn := fun _ => fun
  | [d] => { results := [.lit (.bool true)], args := [d] }
  | _ => none }
def fnRunSnapRow : OpenClaim := { program := "yteilaalababfpaa", sum := "677faf0204c85f31cd5acb7ab9cc1cf74b0fc00761115ce803e412e4ccd7fa5b", func := "loop.example/memorymanagers/laws.FnRunSnap", spec := "fnRunSnap", unfollowed := true, recurses := true, apart := false }
def FnRunSnapSaid : Prop := fnRunSnapRow.holds Try.pinned (OpenSpec.ofChange fnRunSnapSpec)

/-- ITS FALSE NEIGHBOUR: 'it returns false'. Refute it at one input. -/
def fnRunSnapWrong : ChangeSpec := { name := "fnRunSnap", fn := fun _ => fun
  | [d] => { results := [.lit (.bool false)], args := [d] }
  | _ => none }
def FnRunSnapWrongFalsely : Prop := fnRunSnapRow.holds Try.pinned (OpenSpec.ofChange fnRunSnapWrong)

/-- 'laws.FnStepCounted': WHATEVER THE INPUT: true; the input reads as it did. -/
def fnStepCountedSpec : ChangeSpec := { name := "fnStepCounted", fn := fun _ => fun
  | [d] => { results := [.lit (.bool true)], args := [d] }
  | _ => none }
def fnStepCountedRow : OpenClaim := { program := "yteilaalababfpaa", sum := "677faf0204c85f31cd5acb7ab9cc1cf74b0fc00761115ce803e412e4ccd7fa5b", func := "loop.example/memorymanagers/laws.FnStepCounted", spec := "fnStepCounted", unfollowed := true, recurses := true, apart := false }
def FnStepCountedSaid : Prop := fnStepCountedRow.holds Try.pinned (OpenSpec.ofChange fnStepCountedSpec)

/-- ITS FALSE NEIGHBOUR: 'it returns false'. Refute it at one input. -/
def fnStepCountedWrong : ChangeSpec := { name := "fnStepCounted", fn := fun _ => fun
  | [d] => { results := [.lit (.bool false)], args := [d] }
  | _ => none }
def FnStepCountedWrongFalsely : Prop := fnStepCountedRow.holds Try.pinned (OpenSpec.ofChange fnStepCountedWrong)

/-- 'laws.FnRunCounted': WHATEVER THE INPUT: true; the input reads as it did. -/
def fnRunCountedSpec : ChangeSpec := { name := "fnRunCounted", fn := fun _ => fun
  | [d] => { results := [.lit (.bool true)], args := [d] }
  | _ => none }
def fnRunCountedRow : OpenClaim := { program := "yteilaalababfpaa", sum := "677faf0204c85f31cd5acb7ab9cc1cf74b0fc00761115ce803e412e4ccd7fa5b", func := "loop.example/memorymanagers/laws.FnRunCounted", spec := "fnRunCounted", unfollowed := true, recurses := true, apart := false }
def FnRunCountedSaid : Prop := fnRunCountedRow.holds Try.pinned (OpenSpec.ofChange fnRunCountedSpec)

/-- ITS FALSE NEIGHBOUR: 'it returns false'. Refute it at one input. -/
def fnRunCountedWrong : ChangeSpec := { name := "fnRunCounted", fn := fun _ => fun
  | [d] => { results := [.lit (.bool false)], args := [d] }
  | _ => none }
def FnRunCountedWrongFalsely : Prop := fnRunCountedRow.holds Try.pinned (OpenSpec.ofChange fnRunCountedWrong)

/-- 'laws.FnCountsComplete': WHATEVER THE INPUT: true; the input reads as it did. -/
def fnCountsCompleteSpec : ChangeSpec := { name := "fnCountsComplete", fn := fun _ => fun
  | [d] => { results := [.lit (.bool true)], args := [d] }
  | _ => none }
def fnCountsCompleteRow : OpenClaim := { program := "yteilaalababfpaa", sum := "677faf0204c85f31cd5acb7ab9cc1cf74b0fc00761115ce803e412e4ccd7fa5b", func := "loop.example/memorymanagers/laws.FnCountsComplete", spec := "fnCountsComplete", unfollowed := true, recurses := true, apart := false }
def FnCountsCompleteSaid : Prop := fnCountsCompleteRow.holds Try.pinned (OpenSpec.ofChange fnCountsCompleteSpec)

/-- ITS FALSE NEIGHBOUR: 'it returns false'. Refute it at one input. -/
def fnCountsCompleteWrong : ChangeSpec := { name := "fnCountsComplete", fn := fun _ => fun
  | [d] => { results := [.lit (.bool false)], args := [d] }
  | _ => none }
def FnCountsCompleteWrongFalsely : Prop := fnCountsCompleteRow.holds Try.pinned (OpenSpec.ofChange fnCountsCompleteWrong)

/-- 'laws.FnExactStepCounted': WHATEVER THE INPUT: true; the input reads as it did. -/
def fnExactStepCountedSpec : ChangeSpec := { name := "fnExactStepCounted", fn := fun _ => fun
  | [d1, d2] => { results := [.lit (.bool true)], args := [d1, d2] }
  | _ => none }
def fnExactStepCountedRow : OpenClaim := { program := "yteilaalababfpaa", sum := "677faf0204c85f31cd5acb7ab9cc1cf74b0fc00761115ce803e412e4ccd7fa5b", func := "loop.example/memorymanagers/laws.FnExactStepCounted", spec := "fnExactStepCounted", unfollowed := true, recurses := true, apart := false }
def FnExactStepCountedSaid : Prop := fnExactStepCountedRow.holds Try.pinned (OpenSpec.ofChange fnExactStepCountedSpec)

/-- ITS FALSE NEIGHBOUR: 'it returns false'. Refute it at one input. -/
def fnExactStepCountedWrong : ChangeSpec := { name := "fnExactStepCounted", fn := fun _ => fun
  | [d1, d2] => { results := [.lit (.bool false)], args := [d1, d2] }
  | _ => none }
def FnExactStepCountedWrongFalsely : Prop := fnExactStepCountedRow.holds Try.pinned (OpenSpec.ofChange fnExactStepCountedWrong)

/-- 'laws.FnExactRunCounted': WHATEVER THE INPUT: true; the input reads as it did. -/
def fnExactRunCountedSpec : ChangeSpec := { name := "fnExactRunCounted", fn := fun _ => fun
  | [d] => { results := [.lit (.bool true)], args := [d] }
  | _ => none }
def fnExactRunCountedRow : OpenClaim := { program := "yteilaalababfpaa", sum := "677faf0204c85f31cd5acb7ab9cc1cf74b0fc00761115ce803e412e4ccd7fa5b", func := "loop.example/memorymanagers/laws.FnExactRunCounted", spec := "fnExactRunCounted", unfollowed := true, recurses := true, apart := false }
def FnExactRunCountedSaid : Prop := fnExactRunCountedRow.holds Try.pinned (OpenSpec.ofChange fnExactRunCountedSpec)

/-- ITS FALSE NEIGHBOUR: 'it returns false'. Refute it at one input. -/
def fnExactRunCountedWrong : ChangeSpec := { name := "fnExactRunCounted", fn := fun _ => fun
  | [d] => { results := [.lit (.bool false)], args := [d] }
  | _ => none }
def FnExactRunCountedWrongFalsely : Prop := fnExactRunCountedRow.holds Try.pinned (OpenSpec.ofChange fnExactRunCountedWrong)

/- THE SECOND FORM. 'bulk': how many values and letters a reading holds, each counted each time it is reached (what is shared counts as often as it is met; a slice's spare places count too). A statement '..UptoSaid' is the law's where the arguments, and the package variables that the reading takes, are together of bulk at most 1048576: NARROWER than '..Said'. Prove '..Said' where nothing that the law and all that it calls make is longer than what came in: it says more and counts as full. Else prove '..UptoSaid'. A law counts once. -/
mutual
def uptoBulk {H : Type} : DataW H → Nat
  | .lit (.string bytes) => bytes.length + 1
  | .lit _ => 1
  | .nil => 1
  | .ptr d => uptoBulk d + 1
  | .slice elems spare => uptoBulkAll elems + uptoBulkAll spare + 1
  | .agg parts => uptoBulkAll parts + 1
  | .iface _ d => uptoBulk d + 1
  | .map entries => uptoBulkEntries entries + 1
  | .held _ => 1
def uptoBulkAll {H : Type} : List (DataW H) → Nat
  | [] => 0
  | d :: r => uptoBulk d + uptoBulkAll r
def uptoBulkEntries {H : Type} : List (Lit × DataW H) → Nat
  | [] => 0
  | x :: r => uptoBulkEntry x + uptoBulkEntries r
def uptoBulkEntry {H : Type} : Lit × DataW H → Nat
  | (.string bytes, d) => bytes.length + uptoBulk d + 1
  | (_, d) => uptoBulk d + 1
 end
def uptoSmall : (H : Type) → List (DataW H) → Bool := fun _ ds => decide (uptoBulkAll ds ≤ 1048576)
def OpenSpec.upto (s : _root_.Go.ChangeSpec) : _root_.Go.OpenSpec := { _root_.Go.OpenSpec.ofChange s with cond := some uptoSmall }

/-- 'laws.FnSnapValid', WHERE WHAT IT READS IS OF BULK AT MOST 1048576: true; the input reads as it did. -/
def fnSnapValidUptoRow : OpenClaim := { program := "yteilaalababfpaa", sum := "677faf0204c85f31cd5acb7ab9cc1cf74b0fc00761115ce803e412e4ccd7fa5b", func := "loop.example/memorymanagers/laws.FnSnapValid", spec := "fnSnapValid", apart := false, narrowed := true }
def FnSnapValidUptoSaid : Prop := fnSnapValidUptoRow.holds Try.pinned (OpenSpec.upto fnSnapValidSpec)

/-- 'laws.FnSnapStart', WHERE WHAT IT READS IS OF BULK AT MOST 1048576: true; the input reads as it did. -/
def fnSnapStartUptoRow : OpenClaim := { program := "yteilaalababfpaa", sum := "677faf0204c85f31cd5acb7ab9cc1cf74b0fc00761115ce803e412e4ccd7fa5b", func := "loop.example/memorymanagers/laws.FnSnapStart", spec := "fnSnapStart", apart := false, narrowed := true }
def FnSnapStartUptoSaid : Prop := fnSnapStartUptoRow.holds Try.pinned (OpenSpec.upto fnSnapStartSpec)

/-- 'laws.FnSnapStep', WHERE WHAT IT READS IS OF BULK AT MOST 1048576: true; the input reads as it did. -/
def fnSnapStepUptoRow : OpenClaim := { program := "yteilaalababfpaa", sum := "677faf0204c85f31cd5acb7ab9cc1cf74b0fc00761115ce803e412e4ccd7fa5b", func := "loop.example/memorymanagers/laws.FnSnapStep", spec := "fnSnapStep", apart := false, narrowed := true }
def FnSnapStepUptoSaid : Prop := fnSnapStepUptoRow.holds Try.pinned (OpenSpec.upto fnSnapStepSpec)

/-- 'laws.FnSnapCommand', WHERE WHAT IT READS IS OF BULK AT MOST 1048576: true; the input reads as it did. -/
def fnSnapCommandUptoRow : OpenClaim := { program := "yteilaalababfpaa", sum := "677faf0204c85f31cd5acb7ab9cc1cf74b0fc00761115ce803e412e4ccd7fa5b", func := "loop.example/memorymanagers/laws.FnSnapCommand", spec := "fnSnapCommand", unfollowed := true, recurses := true, apart := false, narrowed := true }
def FnSnapCommandUptoSaid : Prop := fnSnapCommandUptoRow.holds Try.pinned (OpenSpec.upto fnSnapCommandSpec)

/-- 'laws.FnSnapFinish', WHERE WHAT IT READS IS OF BULK AT MOST 1048576: true; the input reads as it did. -/
def fnSnapFinishUptoRow : OpenClaim := { program := "yteilaalababfpaa", sum := "677faf0204c85f31cd5acb7ab9cc1cf74b0fc00761115ce803e412e4ccd7fa5b", func := "loop.example/memorymanagers/laws.FnSnapFinish", spec := "fnSnapFinish", unfollowed := true, recurses := true, apart := false, narrowed := true }
def FnSnapFinishUptoSaid : Prop := fnSnapFinishUptoRow.holds Try.pinned (OpenSpec.upto fnSnapFinishSpec)

/-- 'laws.FnSnapSweep', WHERE WHAT IT READS IS OF BULK AT MOST 1048576: true; the input reads as it did. -/
def fnSnapSweepUptoRow : OpenClaim := { program := "yteilaalababfpaa", sum := "677faf0204c85f31cd5acb7ab9cc1cf74b0fc00761115ce803e412e4ccd7fa5b", func := "loop.example/memorymanagers/laws.FnSnapSweep", spec := "fnSnapSweep", unfollowed := true, recurses := true, apart := false, narrowed := true }
def FnSnapSweepUptoSaid : Prop := fnSnapSweepUptoRow.holds Try.pinned (OpenSpec.upto fnSnapSweepSpec)

/-- 'laws.FnRunSnap', WHERE WHAT IT READS IS OF BULK AT MOST 1048576: true; the input reads as it did. -/
def fnRunSnapUptoRow : OpenClaim := { program := "yteilaalababfpaa", sum := "677faf0204c85f31cd5acb7ab9cc1cf74b0fc00761115ce803e412e4ccd7fa5b", func := "loop.example/memorymanagers/laws.FnRunSnap", spec := "fnRunSnap", unfollowed := true, recurses := true, apart := false, narrowed := true }
def FnRunSnapUptoSaid : Prop := fnRunSnapUptoRow.holds Try.pinned (OpenSpec.upto fnRunSnapSpec)

/-- 'laws.FnStepCounted', WHERE WHAT IT READS IS OF BULK AT MOST 1048576: true; the input reads as it did. -/
def fnStepCountedUptoRow : OpenClaim := { program := "yteilaalababfpaa", sum := "677faf0204c85f31cd5acb7ab9cc1cf74b0fc00761115ce803e412e4ccd7fa5b", func := "loop.example/memorymanagers/laws.FnStepCounted", spec := "fnStepCounted", unfollowed := true, recurses := true, apart := false, narrowed := true }
def FnStepCountedUptoSaid : Prop := fnStepCountedUptoRow.holds Try.pinned (OpenSpec.upto fnStepCountedSpec)

/-- 'laws.FnRunCounted', WHERE WHAT IT READS IS OF BULK AT MOST 1048576: true; the input reads as it did. -/
def fnRunCountedUptoRow : OpenClaim := { program := "yteilaalababfpaa", sum := "677faf0204c85f31cd5acb7ab9cc1cf74b0fc00761115ce803e412e4ccd7fa5b", func := "loop.example/memorymanagers/laws.FnRunCounted", spec := "fnRunCounted", unfollowed := true, recurses := true, apart := false, narrowed := true }
def FnRunCountedUptoSaid : Prop := fnRunCountedUptoRow.holds Try.pinned (OpenSpec.upto fnRunCountedSpec)

/-- 'laws.FnCountsComplete', WHERE WHAT IT READS IS OF BULK AT MOST 1048576: true; the input reads as it did. -/
def fnCountsCompleteUptoRow : OpenClaim := { program := "yteilaalababfpaa", sum := "677faf0204c85f31cd5acb7ab9cc1cf74b0fc00761115ce803e412e4ccd7fa5b", func := "loop.example/memorymanagers/laws.FnCountsComplete", spec := "fnCountsComplete", unfollowed := true, recurses := true, apart := false, narrowed := true }
def FnCountsCompleteUptoSaid : Prop := fnCountsCompleteUptoRow.holds Try.pinned (OpenSpec.upto fnCountsCompleteSpec)

/-- 'laws.FnExactStepCounted', WHERE WHAT IT READS IS OF BULK AT MOST 1048576: true; the input reads as it did. -/
def fnExactStepCountedUptoRow : OpenClaim := { program := "yteilaalababfpaa", sum := "677faf0204c85f31cd5acb7ab9cc1cf74b0fc00761115ce803e412e4ccd7fa5b", func := "loop.example/memorymanagers/laws.FnExactStepCounted", spec := "fnExactStepCounted", unfollowed := true, recurses := true, apart := false, narrowed := true }
def FnExactStepCountedUptoSaid : Prop := fnExactStepCountedUptoRow.holds Try.pinned (OpenSpec.upto fnExactStepCountedSpec)

/-- 'laws.FnExactRunCounted', WHERE WHAT IT READS IS OF BULK AT MOST 1048576: true; the input reads as it did. -/
def fnExactRunCountedUptoRow : OpenClaim := { program := "yteilaalababfpaa", sum := "677faf0204c85f31cd5acb7ab9cc1cf74b0fc00761115ce803e412e4ccd7fa5b", func := "loop.example/memorymanagers/laws.FnExactRunCounted", spec := "fnExactRunCounted", unfollowed := true, recurses := true, apart := false, narrowed := true }
def FnExactRunCountedUptoSaid : Prop := fnExactRunCountedUptoRow.holds Try.pinned (OpenSpec.upto fnExactRunCountedSpec)

end Rows
end Go.Proofs.Yteilaalababfpaa
