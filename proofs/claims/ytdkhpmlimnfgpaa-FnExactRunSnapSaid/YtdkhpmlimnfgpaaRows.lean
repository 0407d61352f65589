/-
  No cell of these rows narrows 'for every input' (looked for: loops, veiled, ifaces, maps, wideKeys, modest, calm, conditions, laid).
  DERIVED. THE GIVEN ROWS OF THIS SEAT. 12 by the template 'for every input the law returns true; each argument reads behind the call as it read before'; 0 by the template 'total and deterministic' (their statements: YtdkhpmlimnfgpaaTotals.lean).
  GIVEN WITH THE SEED: the statements are not yours to turn. If you find one false, say at which input.
  Laid BY PROGRAM, IN A SANDBOX (cutbox-rows.mjs): the forced cells as the released guide's own fill.sh prints them over the translation 034d80e99b8b2a4a… (all of the seat's roots in one cut). By AI agents, Wed Nov 11 2026. No macro, syntax, notation, axiom, sorry.
-/
import Derived.Test.YtdkhpmlimnfgpaaChecked
import GoSem.Claim
import GoSem.ClaimJoined
import GoSem.ClaimMapViews
import Derived.JoinedTies
import Derived.KernelRfl
namespace Go.Proofs.Ytdkhpmlimnfgpaa
/- THE CELL 'sum', in the pinned program and in every row, IS THE sha256 OF THE DUMP (.gsa) THAT YtdkhpmlimnfgpaaProg.lean LOADS. Nothing in Lean hashes anything: it is a label: what it is worth is what the hold of that sum in a sandbox is worth. -/
noncomputable def Try.pinned : Pinned := { name := "ytdkhpmlimnfgpaa", sum := "034d80e99b8b2a4aa55bd6a142a604ad51da17ce2386691163c66ba020e0ccef", checked := Try.checked }
namespace Rows
def none {H : Type} : Left H := { results := [], args := [] }

/-- 'laws.FnExactSnapStart': WHATEVER THE INPUT: true; the input reads as it did. -/
def fnExactSnapStartSpec : ChangeSpec := { name := "fnExactSnapStart", fn := fun _ => fun
  | [d] => { results := [.lit (.bool true)], args := [d] }
  | _ => none }
def fnExactSnapStartRow : OpenClaim := { program := "ytdkhpmlimnfgpaa", sum := "034d80e99b8b2a4aa55bd6a142a604ad51da17ce2386691163c66ba020e0ccef", func := "loop.example/memorymanagers/laws.FnExactSnapStart", spec := "fnExactSnapStart", apart := false }
def FnExactSnapStartSaid : Prop := fnExactSnapStartRow.holds Try.pinned (OpenSpec.ofChange fnExactSnapStartSpec)

/-- ITS FALSE NEIGHBOUR: 'it returns false'. Refute it at one input. -/
def fnExactSnapStartWrong : ChangeSpec := { name := "fnExactSnapStart", fn := fun _ => fun
  | [d] => { results := [.lit (.bool false)], args := [d] }
  | _ => none }
def FnExactSnapStartWrongFalsely : Prop := fnExactSnapStartRow.holds Try.pinned (OpenSpec.ofChange fnExactSnapStartWrong)

/-- 'laws.FnExactPaintStart': WHATEVER THE INPUT: true; the input reads as it did. -/
def fnExactPaintStartSpec : ChangeSpec := { name := "fnExactPaintStart", fn := fun _ => fun
  | [d] => { results := [.lit (.bool true)], args := [d] }
  | _ => none }
def fnExactPaintStartRow : OpenClaim := { program := "ytdkhpmlimnfgpaa", sum := "034d80e99b8b2a4aa55bd6a142a604ad51da17ce2386691163c66ba020e0ccef", func := "loop.example/memorymanagers/laws.FnExactPaintStart", spec := "fnExactPaintStart", apart := false }
def FnExactPaintStartSaid : Prop := fnExactPaintStartRow.holds Try.pinned (OpenSpec.ofChange fnExactPaintStartSpec)

/-- ITS FALSE NEIGHBOUR: 'it returns false'. Refute it at one input. -/
def fnExactPaintStartWrong : ChangeSpec := { name := "fnExactPaintStart", fn := fun _ => fun
  | [d] => { results := [.lit (.bool false)], args := [d] }
  | _ => none }
def FnExactPaintStartWrongFalsely : Prop := fnExactPaintStartRow.holds Try.pinned (OpenSpec.ofChange fnExactPaintStartWrong)

/-- 'laws.FnExactPaintStep': WHATEVER THE INPUT: true; the input reads as it did. -/
def fnExactPaintStepSpec : ChangeSpec := { name := "fnExactPaintStep", fn := fun _ => fun
  | [d] => { results := [.lit (.bool true)], args := [d] }
  | _ => none }
def fnExactPaintStepRow : OpenClaim := { program := "ytdkhpmlimnfgpaa", sum := "034d80e99b8b2a4aa55bd6a142a604ad51da17ce2386691163c66ba020e0ccef", func := "loop.example/memorymanagers/laws.FnExactPaintStep", spec := "fnExactPaintStep", apart := false }
def FnExactPaintStepSaid : Prop := fnExactPaintStepRow.holds Try.pinned (OpenSpec.ofChange fnExactPaintStepSpec)

/-- ITS FALSE NEIGHBOUR: 'it returns false'. Refute it at one input. -/
def fnExactPaintStepWrong : ChangeSpec := { name := "fnExactPaintStep", fn := fun _ => fun
  | [d] => { results := [.lit (.bool false)], args := [d] }
  | _ => none }
def FnExactPaintStepWrongFalsely : Prop := fnExactPaintStepRow.holds Try.pinned (OpenSpec.ofChange fnExactPaintStepWrong)

/-- 'laws.FnRunHeap': WHATEVER THE INPUT: true; the input reads as it did. -/
def fnRunHeapSpec : ChangeSpec := { name := "fnRunHeap", fn := fun _ => fun
  | [d] => { results := [.lit (.bool true)], args := [d] }
  | _ => none }
def fnRunHeapRow : OpenClaim := { program := "ytdkhpmlimnfgpaa", sum := "034d80e99b8b2a4aa55bd6a142a604ad51da17ce2386691163c66ba020e0ccef", func := "loop.example/memorymanagers/laws.FnRunHeap", spec := "fnRunHeap", unfollowed := true, recurses := true, apart := false }
def FnRunHeapSaid : Prop := fnRunHeapRow.holds Try.pinned (OpenSpec.ofChange fnRunHeapSpec)

/-- ITS FALSE NEIGHBOUR: 'it returns false'. Refute it at one input. -/
def fnRunHeapWrong : ChangeSpec := { name := "fnRunHeap", fn := fun _ => fun
  | [d] => { results := [.lit (.bool false)], args := [d] }
  | _ => none }
def FnRunHeapWrongFalsely : Prop := fnRunHeapRow.holds Try.pinned (OpenSpec.ofChange fnRunHeapWrong)

/-- 'laws.FnExactRunSnap': WHATEVER THE INPUT: true; the input reads as it did. -/
def fnExactRunSnapSpec : ChangeSpec := { name := "fnExactRunSnap", fn := fun _ => fun
  | [d1, d2, d3] => { results := [.lit (.bool true)], args := [d1, d2, d3] }
  | _ => none }
def fnExactRunSnapRow : OpenClaim := { program := "ytdkhpmlimnfgpaa", sum := "034d80e99b8b2a4aa55bd6a142a604ad51da17ce2386691163c66ba020e0ccef", func := "loop.example/memorymanagers/laws.FnExactRunSnap", spec := "fnExactRunSnap", unfollowed := true, recurses := true, apart := false }
def FnExactRunSnapSaid : Prop := fnExactRunSnapRow.holds Try.pinned (OpenSpec.ofChange fnExactRunSnapSpec)

/-- ITS FALSE NEIGHBOUR: 'it returns false'. Refute it at one input. -/
def fnExactRunSnapWrong : ChangeSpec := { name := "fnExactRunSnap", fn := fun _ => fun
  | [d1, d2, d3] => { results := [.lit (.bool false)], args := [d1, d2, d3] }
  | _ => none }
def FnExactRunSnapWrongFalsely : Prop := fnExactRunSnapRow.holds Try.pinned (OpenSpec.ofChange fnExactRunSnapWrong)

/-- 'laws.FnPaintValid': WHATEVER THE INPUT: true; the input reads as it did. -/
def fnPaintValidSpec : ChangeSpec := { name := "fnPaintValid", fn := fun _ => fun
  | [d] => { results := [.lit (.bool true)], args := [d] }
  | _ => none }
def fnPaintValidRow : OpenClaim := { program := "ytdkhpmlimnfgpaa", sum := "034d80e99b8b2a4aa55bd6a142a604ad51da17ce2386691163c66ba020e0ccef", func := "loop.example/memorymanagers/laws.FnPaintValid", spec := "fnPaintValid", apart := false }
def FnPaintValidSaid : Prop := fnPaintValidRow.holds Try.pinned (OpenSpec.ofChange fnPaintValidSpec)

/-- ITS FALSE NEIGHBOUR: 'it returns false'. Refute it at one input. -/
def fnPaintValidWrong : ChangeSpec := { name := "fnPaintValid", fn := fun _ => fun
  | [d] => { results := [.lit (.bool false)], args := [d] }
  | _ => none }
def FnPaintValidWrongFalsely : Prop := fnPaintValidRow.holds Try.pinned (OpenSpec.ofChange fnPaintValidWrong)

/-- 'laws.FnExactStepHeap': WHATEVER THE INPUT: true; the input reads as it did. -/
def fnExactStepHeapSpec : ChangeSpec := { name := "fnExactStepHeap", fn := fun _ => fun
  | [d1, d2] => { results := [.lit (.bool true)], args := [d1, d2] }
  | _ => none }
def fnExactStepHeapRow : OpenClaim := { program := "ytdkhpmlimnfgpaa", sum := "034d80e99b8b2a4aa55bd6a142a604ad51da17ce2386691163c66ba020e0ccef", func := "loop.example/memorymanagers/laws.FnExactStepHeap", spec := "fnExactStepHeap", unfollowed := true, recurses := true, apart := false }
def FnExactStepHeapSaid : Prop := fnExactStepHeapRow.holds Try.pinned (OpenSpec.ofChange fnExactStepHeapSpec)

/-- ITS FALSE NEIGHBOUR: 'it returns false'. Refute it at one input. -/
def fnExactStepHeapWrong : ChangeSpec := { name := "fnExactStepHeap", fn := fun _ => fun
  | [d1, d2] => { results := [.lit (.bool false)], args := [d1, d2] }
  | _ => none }
def FnExactStepHeapWrongFalsely : Prop := fnExactStepHeapRow.holds Try.pinned (OpenSpec.ofChange fnExactStepHeapWrong)

/-- 'laws.FnAgedValid': WHATEVER THE INPUT: true; the input reads as it did. -/
def fnAgedValidSpec : ChangeSpec := { name := "fnAgedValid", fn := fun _ => fun
  | [d] => { results := [.lit (.bool true)], args := [d] }
  | _ => none }
def fnAgedValidRow : OpenClaim := { program := "ytdkhpmlimnfgpaa", sum := "034d80e99b8b2a4aa55bd6a142a604ad51da17ce2386691163c66ba020e0ccef", func := "loop.example/memorymanagers/laws.FnAgedValid", spec := "fnAgedValid", apart := false }
def FnAgedValidSaid : Prop := fnAgedValidRow.holds Try.pinned (OpenSpec.ofChange fnAgedValidSpec)

/-- ITS FALSE NEIGHBOUR: 'it returns false'. Refute it at one input. -/
def fnAgedValidWrong : ChangeSpec := { name := "fnAgedValid", fn := fun _ => fun
  | [d] => { results := [.lit (.bool false)], args := [d] }
  | _ => none }
def FnAgedValidWrongFalsely : Prop := fnAgedValidRow.holds Try.pinned (OpenSpec.ofChange fnAgedValidWrong)

/-- 'laws.FnCommandPossible': WHATEVER THE INPUT: true; the input reads as it did. -/
def fnCommandPossibleSpec : ChangeSpec := { name := "fnCommandPossible", fn := fun _ => fun
  | [d] => { results := [.lit (.bool true)], args := [d] }
  | _ => none }
def fnCommandPossibleRow : OpenClaim := { program := "ytdkhpmlimnfgpaa", sum := "034d80e99b8b2a4aa55bd6a142a604ad51da17ce2386691163c66ba020e0ccef", func := "loop.example/memorymanagers/laws.FnCommandPossible", spec := "fnCommandPossible", unfollowed := true, recurses := true, apart := false }
def FnCommandPossibleSaid : Prop := fnCommandPossibleRow.holds Try.pinned (OpenSpec.ofChange fnCommandPossibleSpec)

/-- ITS FALSE NEIGHBOUR: 'it returns false'. Refute it at one input. -/
def fnCommandPossibleWrong : ChangeSpec := { name := "fnCommandPossible", fn := fun _ => fun
  | [d] => { results := [.lit (.bool false)], args := [d] }
  | _ => none }
def FnCommandPossibleWrongFalsely : Prop := fnCommandPossibleRow.holds Try.pinned (OpenSpec.ofChange fnCommandPossibleWrong)

/-- 'laws.FnExactRunHeap': WHATEVER THE INPUT: true; the input reads as it did. -/
def fnExactRunHeapSpec : ChangeSpec := { name := "fnExactRunHeap", fn := fun _ => fun
  | [d] => { results := [.lit (.bool true)], args := [d] }
  | _ => none }
def fnExactRunHeapRow : OpenClaim := { program := "ytdkhpmlimnfgpaa", sum := "034d80e99b8b2a4aa55bd6a142a604ad51da17ce2386691163c66ba020e0ccef", func := "loop.example/memorymanagers/laws.FnExactRunHeap", spec := "fnExactRunHeap", unfollowed := true, recurses := true, apart := false }
def FnExactRunHeapSaid : Prop := fnExactRunHeapRow.holds Try.pinned (OpenSpec.ofChange fnExactRunHeapSpec)

/-- ITS FALSE NEIGHBOUR: 'it returns false'. Refute it at one input. -/
def fnExactRunHeapWrong : ChangeSpec := { name := "fnExactRunHeap", fn := fun _ => fun
  | [d] => { results := [.lit (.bool false)], args := [d] }
  | _ => none }
def FnExactRunHeapWrongFalsely : Prop := fnExactRunHeapRow.holds Try.pinned (OpenSpec.ofChange fnExactRunHeapWrong)

/-- 'laws.FnExactSnapStep': WHATEVER THE INPUT: true; the input reads as it did. -/
def fnExactSnapStepSpec : ChangeSpec := { name := "fnExactSnapStep", fn := fun _ => fun
  | [d] => { results := [.lit (.bool true)], args := [d] }
  | _ => none }
def fnExactSnapStepRow : OpenClaim := { program := "ytdkhpmlimnfgpaa", sum := "034d80e99b8b2a4aa55bd6a142a604ad51da17ce2386691163c66ba020e0ccef", func := "loop.example/memorymanagers/laws.FnExactSnapStep", spec := "fnExactSnapStep", apart := false }
def FnExactSnapStepSaid : Prop := fnExactSnapStepRow.holds Try.pinned (OpenSpec.ofChange fnExactSnapStepSpec)

/-- ITS FALSE NEIGHBOUR: 'it returns false'. Refute it at one input. -/
def fnExactSnapStepWrong : ChangeSpec := { name := "fnExactSnapStep", fn := fun _ => fun
  | [d] => { results := [.lit (.bool false)], args := [d] }
  | _ => none }
def FnExactSnapStepWrongFalsely : Prop := fnExactSnapStepRow.holds Try.pinned (OpenSpec.ofChange fnExactSnapStepWrong)

/-- 'laws.FnExactPaintFinish': WHATEVER THE INPUT: true; the input reads as it did. -/
def fnExactPaintFinishSpec : ChangeSpec := { name := "fnExactPaintFinish", fn := fun _ => fun
  | [d] => { results := [.lit (.bool true)], args := [d] }
  | _ => none }
def fnExactPaintFinishRow : OpenClaim := { program := "ytdkhpmlimnfgpaa", sum := "034d80e99b8b2a4aa55bd6a142a604ad51da17ce2386691163c66ba020e0ccef", func := "loop.example/memorymanagers/laws.FnExactPaintFinish", spec := "fnExactPaintFinish", apart := false }
def FnExactPaintFinishSaid : Prop := fnExactPaintFinishRow.holds Try.pinned (OpenSpec.ofChange fnExactPaintFinishSpec)

/-- ITS FALSE NEIGHBOUR: 'it returns false'. Refute it at one input. -/
def fnExactPaintFinishWrong : ChangeSpec := { name := "fnExactPaintFinish", fn := fun _ => fun
  | [d] => { results := [.lit (.bool false)], args := [d] }
  | _ => none }
def FnExactPaintFinishWrongFalsely : Prop := fnExactPaintFinishRow.holds Try.pinned (OpenSpec.ofChange fnExactPaintFinishWrong)

/- THE SECOND FORM. 'bulk': how many values and letters a reading holds, each counted each time it is reached (what is shared counts as often as it is met; a slice's spare places count too). A statement '..UptoSaid' is the law's where the arguments, and the package variables that the reading takes, are together of bulk at most 1048576: NARROWER than '..Said'. Prove '..Said' where nothing that the law and all that it calls make is longer than what came in: it says more and counts as full. Else prove '..UptoSaid'. A law counts once. -/
mutual
def uptoBulk {H : Type} : DataW H → Nat
  | .lit (.string bytes) => bytes.length + 1
  | .lit _ => 1
  | .nil => 1
  | .ptr d => uptoBulk d + 1
  | .slice elems spare => uptoBulkAll elems + uptoBulkAll spare + 1
  | .agg parts => uptoBulkAll parts + 1
  | .iface _ d => uptoBulk d + 1
  | .map entries => uptoBulkEntries entries + 1
  | .held _ => 1
def uptoBulkAll {H : Type} : List (DataW H) → Nat
  | [] => 0
  | d :: r => uptoBulk d + uptoBulkAll r
def uptoBulkEntries {H : Type} : List (Lit × DataW H) → Nat
  | [] => 0
  | x :: r => uptoBulkEntry x + uptoBulkEntries r
def uptoBulkEntry {H : Type} : Lit × DataW H → Nat
  | (.string bytes, d) => bytes.length + uptoBulk d + 1
  | (_, d) => uptoBulk d + 1
 end
def uptoSmall : (H : Type) → List (DataW H) → Bool := fun _ ds => decide (uptoBulkAll ds ≤ 1048576)
def OpenSpec.upto (s : _root_.Go.ChangeSpec) : _root_.Go.OpenSpec := { _root_.Go.OpenSpec.ofChange s with cond := some uptoSmall }

/-- 'laws.FnExactSnapStart', WHERE WHAT IT READS IS OF BULK AT MOST 1048576: true; the input reads as it did. -/
def fnExactSnapStartUptoRow : OpenClaim := { program := "ytdkhpmlimnfgpaa", sum := "034d80e99b8b2a4aa55bd6a142a604ad51da17ce2386691163c66ba020e0ccef", func := "loop.example/memorymanagers/laws.FnExactSnapStart", spec := "fnExactSnapStart", apart := false, narrowed := true }
def FnExactSnapStartUptoSaid : Prop := fnExactSnapStartUptoRow.holds Try.pinned (OpenSpec.upto fnExactSnapStartSpec)

/-- 'laws.FnExactPaintStart', WHERE WHAT IT READS IS OF BULK AT MOST 1048576: true; the input reads as it did. -/
def fnExactPaintStartUptoRow : OpenClaim := { program := "ytdkhpmlimnfgpaa", sum := "034d80e99b8b2a4aa55bd6a142a604ad51da17ce2386691163c66ba020e0ccef", func := "loop.example/memorymanagers/laws.FnExactPaintStart", spec := "fnExactPaintStart", apart := false, narrowed := true }
def FnExactPaintStartUptoSaid : Prop := fnExactPaintStartUptoRow.holds Try.pinned (OpenSpec.upto fnExactPaintStartSpec)

/-- 'laws.FnExactPaintStep', WHERE WHAT IT READS IS OF BULK AT MOST 1048576: true; the input reads as it did. -/
def fnExactPaintStepUptoRow : OpenClaim := { program := "ytdkhpmlimnfgpaa", sum := "034d80e99b8b2a4aa55bd6a142a604ad51da17ce2386691163c66ba020e0ccef", func := "loop.example/memorymanagers/laws.FnExactPaintStep", spec := "fnExactPaintStep", apart := false, narrowed := true }
def FnExactPaintStepUptoSaid : Prop := fnExactPaintStepUptoRow.holds Try.pinned (OpenSpec.upto fnExactPaintStepSpec)

/-- 'laws.FnRunHeap', WHERE WHAT IT READS IS OF BULK AT MOST 1048576: true; the input reads as it did. -/
def fnRunHeapUptoRow : OpenClaim := { program := "ytdkhpmlimnfgpaa", sum := "034d80e99b8b2a4aa55bd6a142a604ad51da17ce2386691163c66ba020e0ccef", func := "loop.example/memorymanagers/laws.FnRunHeap", spec := "fnRunHeap", unfollowed := true, recurses := true, apart := false, narrowed := true }
def FnRunHeapUptoSaid : Prop := fnRunHeapUptoRow.holds Try.pinned (OpenSpec.upto fnRunHeapSpec)

/-- 'laws.FnExactRunSnap', WHERE WHAT IT READS IS OF BULK AT MOST 1048576: true; the input reads as it did. -/
def fnExactRunSnapUptoRow : OpenClaim := { program := "ytdkhpmlimnfgpaa", sum := "034d80e99b8b2a4aa55bd6a142a604ad51da17ce2386691163c66ba020e0ccef", func := "loop.example/memorymanagers/laws.FnExactRunSnap", spec := "fnExactRunSnap", unfollowed := true, recurses := true, apart := false, narrowed := true }
def FnExactRunSnapUptoSaid : Prop := fnExactRunSnapUptoRow.holds Try.pinned (OpenSpec.upto fnExactRunSnapSpec)

/-- 'laws.FnPaintValid', WHERE WHAT IT READS IS OF BULK AT MOST 1048576: true; the input reads as it did. -/
def fnPaintValidUptoRow : OpenClaim := { program := "ytdkhpmlimnfgpaa", sum := "034d80e99b8b2a4aa55bd6a142a604ad51da17ce2386691163c66ba020e0ccef", func := "loop.example/memorymanagers/laws.FnPaintValid", spec := "fnPaintValid", apart := false, narrowed := true }
def FnPaintValidUptoSaid : Prop := fnPaintValidUptoRow.holds Try.pinned (OpenSpec.upto fnPaintValidSpec)

/-- 'laws.FnExactStepHeap', WHERE WHAT IT READS IS OF BULK AT MOST 1048576: true; the input reads as it did. -/
def fnExactStepHeapUptoRow : OpenClaim := { program := "ytdkhpmlimnfgpaa", sum := "034d80e99b8b2a4aa55bd6a142a604ad51da17ce2386691163c66ba020e0ccef", func := "loop.example/memorymanagers/laws.FnExactStepHeap", spec := "fnExactStepHeap", unfollowed := true, recurses := true, apart := false, narrowed := true }
def FnExactStepHeapUptoSaid : Prop := fnExactStepHeapUptoRow.holds Try.pinned (OpenSpec.upto fnExactStepHeapSpec)

/-- 'laws.FnAgedValid', WHERE WHAT IT READS IS OF BULK AT MOST 1048576: true; the input reads as it did. -/
def fnAgedValidUptoRow : OpenClaim := { program := "ytdkhpmlimnfgpaa", sum := "034d80e99b8b2a4aa55bd6a142a604ad51da17ce2386691163c66ba020e0ccef", func := "loop.example/memorymanagers/laws.FnAgedValid", spec := "fnAgedValid", apart := false, narrowed := true }
def FnAgedValidUptoSaid : Prop := fnAgedValidUptoRow.holds Try.pinned (OpenSpec.upto fnAgedValidSpec)

/-- 'laws.FnCommandPossible', WHERE WHAT IT READS IS OF BULK AT MOST 1048576: true; the input reads as it did. -/
def fnCommandPossibleUptoRow : OpenClaim := { program := "ytdkhpmlimnfgpaa", sum := "034d80e99b8b2a4aa55bd6a142a604ad51da17ce2386691163c66ba020e0ccef", func := "loop.example/memorymanagers/laws.FnCommandPossible", spec := "fnCommandPossible", unfollowed := true, recurses := true, apart := false, narrowed := true }
def FnCommandPossibleUptoSaid : Prop := fnCommandPossibleUptoRow.holds Try.pinned (OpenSpec.upto fnCommandPossibleSpec)

/-- 'laws.FnExactRunHeap', WHERE WHAT IT READS IS OF BULK AT MOST 1048576: true; the input reads as it did. -/
def fnExactRunHeapUptoRow : OpenClaim := { program := "ytdkhpmlimnfgpaa", sum := "034d80e99b8b2a4aa55bd6a142a604ad51da17ce2386691163c66ba020e0ccef", func := "loop.example/memorymanagers/laws.FnExactRunHeap", spec := "fnExactRunHeap", unfollowed := true, recurses := true, apart := false, narrowed := true }
def FnExactRunHeapUptoSaid : Prop := fnExactRunHeapUptoRow.holds Try.pinned (OpenSpec.upto fnExactRunHeapSpec)

/-- 'laws.FnExactSnapStep', WHERE WHAT IT READS IS OF BULK AT MOST 1048576: true; the input reads as it did. -/
def fnExactSnapStepUptoRow : OpenClaim := { program := "ytdkhpmlimnfgpaa", sum := "034d80e99b8b2a4aa55bd6a142a604ad51da17ce2386691163c66ba020e0ccef", func := "loop.example/memorymanagers/laws.FnExactSnapStep", spec := "fnExactSnapStep", apart := false, narrowed := true }
def FnExactSnapStepUptoSaid : Prop := fnExactSnapStepUptoRow.holds Try.pinned (OpenSpec.upto fnExactSnapStepSpec)

/-- 'laws.FnExactPaintFinish', WHERE WHAT IT READS IS OF BULK AT MOST 1048576: true; the input reads as it did. -/
def fnExactPaintFinishUptoRow : OpenClaim := { program := "ytdkhpmlimnfgpaa", sum := "034d80e99b8b2a4aa55bd6a142a604ad51da17ce2386691163c66ba020e0ccef", func := "loop.example/memorymanagers/laws.FnExactPaintFinish", spec := "fnExactPaintFinish", apart := false, narrowed := true }
def FnExactPaintFinishUptoSaid : Prop := fnExactPaintFinishUptoRow.holds Try.pinned (OpenSpec.upto fnExactPaintFinishSpec)

end Rows
end Go.Proofs.Ytdkhpmlimnfgpaa
