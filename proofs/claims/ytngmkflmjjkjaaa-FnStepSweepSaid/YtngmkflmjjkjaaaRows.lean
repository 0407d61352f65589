/-
  No cell of these rows narrows 'for every input' (looked for: loops, veiled, ifaces, maps, wideKeys, modest, calm, conditions, laid).
  DERIVED. THE GIVEN ROWS OF THIS SEAT. 12 by the template 'for every input the law returns true; each argument reads behind the call as it read before'; 0 by the template 'total and deterministic' (their statements: YtngmkflmjjkjaaaTotals.lean).
  GIVEN WITH THE SEED: the statements are not yours to turn. If you find one false, say at which input.
  Laid BY PROGRAM, IN A SANDBOX (cutbox-rows.mjs): the forced cells as the released guide's own fill.sh prints them over the translation 6e02e997a76e33bd… (all of the seat's roots in one cut). By AI agents, Wed Nov 11 2026. No macro, syntax, notation, axiom, sorry.
-/
import Derived.Test.YtngmkflmjjkjaaaChecked
import GoSem.Claim
import GoSem.ClaimJoined
import GoSem.ClaimMapViews
import Derived.JoinedTies
import Derived.KernelRfl
namespace Go.Proofs.Ytngmkflmjjkjaaa
/- THE CELL 'sum', in the pinned program and in every row, IS THE sha256 OF THE DUMP (.gsa) THAT YtngmkflmjjkjaaaProg.lean LOADS. Nothing in Lean hashes anything: it is a label: what it is worth is what the hold of that sum in a sandbox is worth. -/
noncomputable def Try.pinned : Pinned := { name := "ytngmkflmjjkjaaa", sum := "6e02e997a76e33bdbed5930c7d02a3dca0c773fc6f9935b01681608aaa7d9dc4", checked := Try.checked }
namespace Rows
def none {H : Type} : Left H := { results := [], args := [] }

/-- 'laws.FnRunHeap': WHATEVER THE INPUT: true; the input reads as it did. -/
def fnRunHeapSpec : ChangeSpec := { name := "fnRunHeap", fn := fun _ => fun
  | [d] => { results := [.lit (.bool true)], args := [d] }
  | _ => none }
def fnRunHeapRow : OpenClaim := { program := "ytngmkflmjjkjaaa", sum := "6e02e997a76e33bdbed5930c7d02a3dca0c773fc6f9935b01681608aaa7d9dc4", func := "loop.example/memorymanagers/laws.FnRunHeap", spec := "fnRunHeap", unfollowed := true, recurses := true, apart := false }
def FnRunHeapSaid : Prop := fnRunHeapRow.holds Try.pinned (OpenSpec.ofChange fnRunHeapSpec)

/-- ITS FALSE NEIGHBOUR: 'it returns false'. Refute it at one input. -/
def fnRunHeapWrong : ChangeSpec := { name := "fnRunHeap", fn := fun _ => fun
  | [d] => { results := [.lit (.bool false)], args := [d] }
  | _ => none }
def FnRunHeapWrongFalsely : Prop := fnRunHeapRow.holds Try.pinned (OpenSpec.ofChange fnRunHeapWrong)

/-- 'laws.FnCommandPossible': WHATEVER THE INPUT: true; the input reads as it did. -/
def fnCommandPossibleSpec : ChangeSpec := { name := "fnCommandPossible", fn := fun _ => fun
  | [d] => { results := [.lit (.bool true)], args := [d] }
  | _ => none }
def fnCommandPossibleRow : OpenClaim := { program := "ytngmkflmjjkjaaa", sum := "6e02e997a76e33bdbed5930c7d02a3dca0c773fc6f9935b01681608aaa7d9dc4", func := "loop.example/memorymanagers/laws.FnCommandPossible", spec := "fnCommandPossible", unfollowed := true, recurses := true, apart := false }
def FnCommandPossibleSaid : Prop := fnCommandPossibleRow.holds Try.pinned (OpenSpec.ofChange fnCommandPossibleSpec)

/-- ITS FALSE NEIGHBOUR: 'it returns false'. Refute it at one input. -/
def fnCommandPossibleWrong : ChangeSpec := { name := "fnCommandPossible", fn := fun _ => fun
  | [d] => { results := [.lit (.bool false)], args := [d] }
  | _ => none }
def FnCommandPossibleWrongFalsely : Prop := fnCommandPossibleRow.holds Try.pinned (OpenSpec.ofChange fnCommandPossibleWrong)

/-- 'laws.FnStepHeap': WHATEVER THE INPUT: true; the input reads as it did. -/
def fnStepHeapSpec : ChangeSpec := { name := "fnStepHeap", fn := fun _ => fun
  | [d] => { results := [.lit (.bool true)], args := [d] }
  | _ => none }
def fnStepHeapRow : OpenClaim := { program := "ytngmkflmjjkjaaa", sum := "6e02e997a76e33bdbed5930c7d02a3dca0c773fc6f9935b01681608aaa7d9dc4", func := "loop.example/memorymanagers/laws.FnStepHeap", spec := "fnStepHeap", unfollowed := true, recurses := true, apart := false }
def FnStepHeapSaid : Prop := fnStepHeapRow.holds Try.pinned (OpenSpec.ofChange fnStepHeapSpec)

/-- ITS FALSE NEIGHBOUR: 'it returns false'. Refute it at one input. -/
def fnStepHeapWrong : ChangeSpec := { name := "fnStepHeap", fn := fun _ => fun
  | [d] => { results := [.lit (.bool false)], args := [d] }
  | _ => none }
def FnStepHeapWrongFalsely : Prop := fnStepHeapRow.holds Try.pinned (OpenSpec.ofChange fnStepHeapWrong)

/-- 'laws.FnNewLives': WHATEVER THE INPUT: true; the input reads as it did. -/
def fnNewLivesSpec : ChangeSpec := { name := "fnNewLives", fn := fun _ => fun
  | [d] => { results := [.lit (.bool true)], args := [d] }
  | _ => none }
def fnNewLivesRow : OpenClaim := { program := "ytngmkflmjjkjaaa", sum := "6e02e997a76e33bdbed5930c7d02a3dca0c773fc6f9935b01681608aaa7d9dc4", func := "loop.example/memorymanagers/laws.FnNewLives", spec := "fnNewLives", unfollowed := true, recurses := true, apart := false }
def FnNewLivesSaid : Prop := fnNewLivesRow.holds Try.pinned (OpenSpec.ofChange fnNewLivesSpec)

/-- ITS FALSE NEIGHBOUR: 'it returns false'. Refute it at one input. -/
def fnNewLivesWrong : ChangeSpec := { name := "fnNewLives", fn := fun _ => fun
  | [d] => { results := [.lit (.bool false)], args := [d] }
  | _ => none }
def FnNewLivesWrongFalsely : Prop := fnNewLivesRow.holds Try.pinned (OpenSpec.ofChange fnNewLivesWrong)

/-- 'laws.FnDropLess': WHATEVER THE INPUT: true; the input reads as it did. -/
def fnDropLessSpec : ChangeSpec := { name := "fnDropLess", fn := fun _ => fun
  | [d] => { results := [.lit (.bool true)], args := [d] }
  | _ => none }
def fnDropLessRow : OpenClaim := { program := "ytngmkflmjjkjaaa", sum := "6e02e997a76e33bdbed5930c7d02a3dca0c773fc6f9935b01681608aaa7d9dc4", func := "loop.example/memorymanagers/laws.FnDropLess", spec := "fnDropLess", unfollowed := true, recurses := true, apart := false }
def FnDropLessSaid : Prop := fnDropLessRow.holds Try.pinned (OpenSpec.ofChange fnDropLessSpec)

/-- ITS FALSE NEIGHBOUR: 'it returns false'. Refute it at one input. -/
def fnDropLessWrong : ChangeSpec := { name := "fnDropLess", fn := fun _ => fun
  | [d] => { results := [.lit (.bool false)], args := [d] }
  | _ => none }
def FnDropLessWrongFalsely : Prop := fnDropLessRow.holds Try.pinned (OpenSpec.ofChange fnDropLessWrong)

/-- 'laws.FnSameView': WHATEVER THE INPUT: true; the input reads as it did. -/
def fnSameViewSpec : ChangeSpec := { name := "fnSameView", fn := fun _ => fun
  | [d1, d2] => { results := [.lit (.bool true)], args := [d1, d2] }
  | _ => none }
def fnSameViewRow : OpenClaim := { program := "ytngmkflmjjkjaaa", sum := "6e02e997a76e33bdbed5930c7d02a3dca0c773fc6f9935b01681608aaa7d9dc4", func := "loop.example/memorymanagers/laws.FnSameView", spec := "fnSameView", unfollowed := true, recurses := true, apart := false }
def FnSameViewSaid : Prop := fnSameViewRow.holds Try.pinned (OpenSpec.ofChange fnSameViewSpec)

/-- ITS FALSE NEIGHBOUR: 'it returns false'. Refute it at one input. -/
def fnSameViewWrong : ChangeSpec := { name := "fnSameView", fn := fun _ => fun
  | [d1, d2] => { results := [.lit (.bool false)], args := [d1, d2] }
  | _ => none }
def FnSameViewWrongFalsely : Prop := fnSameViewRow.holds Try.pinned (OpenSpec.ofChange fnSameViewWrong)

/-- 'laws.FnSlideHeap': WHATEVER THE INPUT: true; the input reads as it did. -/
def fnSlideHeapSpec : ChangeSpec := { name := "fnSlideHeap", fn := fun _ => fun
  | [d] => { results := [.lit (.bool true)], args := [d] }
  | _ => none }
def fnSlideHeapRow : OpenClaim := { program := "ytngmkflmjjkjaaa", sum := "6e02e997a76e33bdbed5930c7d02a3dca0c773fc6f9935b01681608aaa7d9dc4", func := "loop.example/memorymanagers/laws.FnSlideHeap", spec := "fnSlideHeap", unfollowed := true, recurses := true, apart := false }
def FnSlideHeapSaid : Prop := fnSlideHeapRow.holds Try.pinned (OpenSpec.ofChange fnSlideHeapSpec)

/-- ITS FALSE NEIGHBOUR: 'it returns false'. Refute it at one input. -/
def fnSlideHeapWrong : ChangeSpec := { name := "fnSlideHeap", fn := fun _ => fun
  | [d] => { results := [.lit (.bool false)], args := [d] }
  | _ => none }
def FnSlideHeapWrongFalsely : Prop := fnSlideHeapRow.holds Try.pinned (OpenSpec.ofChange fnSlideHeapWrong)

/-- 'laws.FnSlideSweep': WHATEVER THE INPUT: true; the input reads as it did. -/
def fnSlideSweepSpec : ChangeSpec := { name := "fnSlideSweep", fn := fun _ => fun
  | [d] => { results := [.lit (.bool true)], args := [d] }
  | _ => none }
def fnSlideSweepRow : OpenClaim := { program := "ytngmkflmjjkjaaa", sum := "6e02e997a76e33bdbed5930c7d02a3dca0c773fc6f9935b01681608aaa7d9dc4", func := "loop.example/memorymanagers/laws.FnSlideSweep", spec := "fnSlideSweep", unfollowed := true, recurses := true, apart := false }
def FnSlideSweepSaid : Prop := fnSlideSweepRow.holds Try.pinned (OpenSpec.ofChange fnSlideSweepSpec)

/-- ITS FALSE NEIGHBOUR: 'it returns false'. Refute it at one input. -/
def fnSlideSweepWrong : ChangeSpec := { name := "fnSlideSweep", fn := fun _ => fun
  | [d] => { results := [.lit (.bool false)], args := [d] }
  | _ => none }
def FnSlideSweepWrongFalsely : Prop := fnSlideSweepRow.holds Try.pinned (OpenSpec.ofChange fnSlideSweepWrong)

/-- 'laws.FnSweepCopy': WHATEVER THE INPUT: true; the input reads as it did. -/
def fnSweepCopySpec : ChangeSpec := { name := "fnSweepCopy", fn := fun _ => fun
  | [d] => { results := [.lit (.bool true)], args := [d] }
  | _ => none }
def fnSweepCopyRow : OpenClaim := { program := "ytngmkflmjjkjaaa", sum := "6e02e997a76e33bdbed5930c7d02a3dca0c773fc6f9935b01681608aaa7d9dc4", func := "loop.example/memorymanagers/laws.FnSweepCopy", spec := "fnSweepCopy", unfollowed := true, recurses := true, apart := false }
def FnSweepCopySaid : Prop := fnSweepCopyRow.holds Try.pinned (OpenSpec.ofChange fnSweepCopySpec)

/-- ITS FALSE NEIGHBOUR: 'it returns false'. Refute it at one input. -/
def fnSweepCopyWrong : ChangeSpec := { name := "fnSweepCopy", fn := fun _ => fun
  | [d] => { results := [.lit (.bool false)], args := [d] }
  | _ => none }
def FnSweepCopyWrongFalsely : Prop := fnSweepCopyRow.holds Try.pinned (OpenSpec.ofChange fnSweepCopyWrong)

/-- 'laws.FnStepSweep': WHATEVER THE INPUT: true; the input reads as it did. -/
def fnStepSweepSpec : ChangeSpec := { name := "fnStepSweep", fn := fun _ => fun
  | [d] => { results := [.lit (.bool true)], args := [d] }
  | _ => none }
def fnStepSweepRow : OpenClaim := { program := "ytngmkflmjjkjaaa", sum := "6e02e997a76e33bdbed5930c7d02a3dca0c773fc6f9935b01681608aaa7d9dc4", func := "loop.example/memorymanagers/laws.FnStepSweep", spec := "fnStepSweep", unfollowed := true, recurses := true, apart := false }
def FnStepSweepSaid : Prop := fnStepSweepRow.holds Try.pinned (OpenSpec.ofChange fnStepSweepSpec)

/-- ITS FALSE NEIGHBOUR: 'it returns false'. Refute it at one input. -/
def fnStepSweepWrong : ChangeSpec := { name := "fnStepSweep", fn := fun _ => fun
  | [d] => { results := [.lit (.bool false)], args := [d] }
  | _ => none }
def FnStepSweepWrongFalsely : Prop := fnStepSweepRow.holds Try.pinned (OpenSpec.ofChange fnStepSweepWrong)

/-- 'laws.FnRunSlide': WHATEVER THE INPUT: true; the input reads as it did. -/
def fnRunSlideSpec : ChangeSpec := { name := "fnRunSlide", fn := fun _ => fun
  | [d] => { results := [.lit (.bool true)], args := [d] }
  | _ => none }
def fnRunSlideRow : OpenClaim := { program := "ytngmkflmjjkjaaa", sum := "6e02e997a76e33bdbed5930c7d02a3dca0c773fc6f9935b01681608aaa7d9dc4", func := "loop.example/memorymanagers/laws.FnRunSlide", spec := "fnRunSlide", unfollowed := true, recurses := true, apart := false }
def FnRunSlideSaid : Prop := fnRunSlideRow.holds Try.pinned (OpenSpec.ofChange fnRunSlideSpec)

/-- ITS FALSE NEIGHBOUR: 'it returns false'. Refute it at one input. -/
def fnRunSlideWrong : ChangeSpec := { name := "fnRunSlide", fn := fun _ => fun
  | [d] => { results := [.lit (.bool false)], args := [d] }
  | _ => none }
def FnRunSlideWrongFalsely : Prop := fnRunSlideRow.holds Try.pinned (OpenSpec.ofChange fnRunSlideWrong)

/-- 'laws.FnRunLimits': WHATEVER THE INPUT: true; the input reads as it did. -/
def fnRunLimitsSpec : ChangeSpec := { name := "fnRunLimits", fn := fun _ => fun
  | [d] => { results := [.lit (.bool true)], args := [d] }
  | _ => none }
def fnRunLimitsRow : OpenClaim := { program := "ytngmkflmjjkjaaa", sum := "6e02e997a76e33bdbed5930c7d02a3dca0c773fc6f9935b01681608aaa7d9dc4", func := "loop.example/memorymanagers/laws.FnRunLimits", spec := "fnRunLimits", unfollowed := true, recurses := true, apart := false }
def FnRunLimitsSaid : Prop := fnRunLimitsRow.holds Try.pinned (OpenSpec.ofChange fnRunLimitsSpec)

/-- ITS FALSE NEIGHBOUR: 'it returns false'. Refute it at one input. -/
def fnRunLimitsWrong : ChangeSpec := { name := "fnRunLimits", fn := fun _ => fun
  | [d] => { results := [.lit (.bool false)], args := [d] }
  | _ => none }
def FnRunLimitsWrongFalsely : Prop := fnRunLimitsRow.holds Try.pinned (OpenSpec.ofChange fnRunLimitsWrong)

/- THE SECOND FORM. 'bulk': how many values and letters a reading holds, each counted each time it is reached (what is shared counts as often as it is met; a slice's spare places count too). A statement '..UptoSaid' is the law's where the arguments, and the package variables that the reading takes, are together of bulk at most 1048576: NARROWER than '..Said'. Prove '..Said' where nothing that the law and all that it calls make is longer than what came in: it says more and counts as full. Else prove '..UptoSaid'. A law counts once. -/
mutual
def uptoBulk {H : Type} : DataW H → Nat
  | .lit (.string bytes) => bytes.length + 1
  | .lit _ => 1
  | .nil => 1
  | .ptr d => uptoBulk d + 1
  | .slice elems spare => uptoBulkAll elems + uptoBulkAll spare + 1
  | .agg parts => uptoBulkAll parts + 1
  | .iface _ d => uptoBulk d + 1
  | .map entries => uptoBulkEntries entries + 1
  | .held _ => 1
def uptoBulkAll {H : Type} : List (DataW H) → Nat
  | [] => 0
  | d :: r => uptoBulk d + uptoBulkAll r
def uptoBulkEntries {H : Type} : List (Lit × DataW H) → Nat
  | [] => 0
  | x :: r => uptoBulkEntry x + uptoBulkEntries r
def uptoBulkEntry {H : Type} : Lit × DataW H → Nat
  | (.string bytes, d) => bytes.length + uptoBulk d + 1
  | (_, d) => uptoBulk d + 1
 end
def uptoSmall : (H : Type) → List (DataW H) → Bool := fun _ ds => decide (uptoBulkAll ds ≤ 1048576)
def OpenSpec.upto (s : _root_.Go.ChangeSpec) : _root_.Go.OpenSpec := { _root_.Go.OpenSpec.ofChange s with cond := some uptoSmall }

/-- 'laws.FnRunHeap', WHERE WHAT IT READS IS OF BULK AT MOST 1048576: true; the input reads as it did. -/
def fnRunHeapUptoRow : OpenClaim := { program := "ytngmkflmjjkjaaa", sum := "6e02e997a76e33bdbed5930c7d02a3dca0c773fc6f9935b01681608aaa7d9dc4", func := "loop.example/memorymanagers/laws.FnRunHeap", spec := "fnRunHeap", unfollowed := true, recurses := true, apart := false, narrowed := true }
def FnRunHeapUptoSaid : Prop := fnRunHeapUptoRow.holds Try.pinned (OpenSpec.upto fnRunHeapSpec)

/-- 'laws.FnCommandPossible', WHERE WHAT IT READS IS OF BULK AT MOST 1048576: true; the input reads as it did. -/
def fnCommandPossibleUptoRow : OpenClaim := { program := "ytngmkflmjjkjaaa", sum := "6e02e997a76e33bdbed5930c7d02a3dca0c773fc6f9935b01681608aaa7d9dc4", func := "loop.example/memorymanagers/laws.FnCommandPossible", spec := "fnCommandPossible", unfollowed := true, recurses := true, apart := false, narrowed := true }
def FnCommandPossibleUptoSaid : Prop := fnCommandPossibleUptoRow.holds Try.pinned (OpenSpec.upto fnCommandPossibleSpec)

/-- 'laws.FnStepHeap', WHERE WHAT IT READS IS OF BULK AT MOST 1048576: true; the input reads as it did. -/
def fnStepHeapUptoRow : OpenClaim := { program := "ytngmkflmjjkjaaa", sum := "6e02e997a76e33bdbed5930c7d02a3dca0c773fc6f9935b01681608aaa7d9dc4", func := "loop.example/memorymanagers/laws.FnStepHeap", spec := "fnStepHeap", unfollowed := true, recurses := true, apart := false, narrowed := true }
def FnStepHeapUptoSaid : Prop := fnStepHeapUptoRow.holds Try.pinned (OpenSpec.upto fnStepHeapSpec)

/-- 'laws.FnNewLives', WHERE WHAT IT READS IS OF BULK AT MOST 1048576: true; the input reads as it did. -/
def fnNewLivesUptoRow : OpenClaim := { program := "ytngmkflmjjkjaaa", sum := "6e02e997a76e33bdbed5930c7d02a3dca0c773fc6f9935b01681608aaa7d9dc4", func := "loop.example/memorymanagers/laws.FnNewLives", spec := "fnNewLives", unfollowed := true, recurses := true, apart := false, narrowed := true }
def FnNewLivesUptoSaid : Prop := fnNewLivesUptoRow.holds Try.pinned (OpenSpec.upto fnNewLivesSpec)

/-- 'laws.FnDropLess', WHERE WHAT IT READS IS OF BULK AT MOST 1048576: true; the input reads as it did. -/
def fnDropLessUptoRow : OpenClaim := { program := "ytngmkflmjjkjaaa", sum := "6e02e997a76e33bdbed5930c7d02a3dca0c773fc6f9935b01681608aaa7d9dc4", func := "loop.example/memorymanagers/laws.FnDropLess", spec := "fnDropLess", unfollowed := true, recurses := true, apart := false, narrowed := true }
def FnDropLessUptoSaid : Prop := fnDropLessUptoRow.holds Try.pinned (OpenSpec.upto fnDropLessSpec)

/-- 'laws.FnSameView', WHERE WHAT IT READS IS OF BULK AT MOST 1048576: true; the input reads as it did. -/
def fnSameViewUptoRow : OpenClaim := { program := "ytngmkflmjjkjaaa", sum := "6e02e997a76e33bdbed5930c7d02a3dca0c773fc6f9935b01681608aaa7d9dc4", func := "loop.example/memorymanagers/laws.FnSameView", spec := "fnSameView", unfollowed := true, recurses := true, apart := false, narrowed := true }
def FnSameViewUptoSaid : Prop := fnSameViewUptoRow.holds Try.pinned (OpenSpec.upto fnSameViewSpec)

/-- 'laws.FnSlideHeap', WHERE WHAT IT READS IS OF BULK AT MOST 1048576: true; the input reads as it did. -/
def fnSlideHeapUptoRow : OpenClaim := { program := "ytngmkflmjjkjaaa", sum := "6e02e997a76e33bdbed5930c7d02a3dca0c773fc6f9935b01681608aaa7d9dc4", func := "loop.example/memorymanagers/laws.FnSlideHeap", spec := "fnSlideHeap", unfollowed := true, recurses := true, apart := false, narrowed := true }
def FnSlideHeapUptoSaid : Prop := fnSlideHeapUptoRow.holds Try.pinned (OpenSpec.upto fnSlideHeapSpec)

/-- 'laws.FnSlideSweep', WHERE WHAT IT READS IS OF BULK AT MOST 1048576: true; the input reads as it did. -/
def fnSlideSweepUptoRow : OpenClaim := { program := "ytngmkflmjjkjaaa", sum := "6e02e997a76e33bdbed5930c7d02a3dca0c773fc6f9935b01681608aaa7d9dc4", func := "loop.example/memorymanagers/laws.FnSlideSweep", spec := "fnSlideSweep", unfollowed := true, recurses := true, apart := false, narrowed := true }
def FnSlideSweepUptoSaid : Prop := fnSlideSweepUptoRow.holds Try.pinned (OpenSpec.upto fnSlideSweepSpec)

/-- 'laws.FnSweepCopy', WHERE WHAT IT READS IS OF BULK AT MOST 1048576: true; the input reads as it did. -/
def fnSweepCopyUptoRow : OpenClaim := { program := "ytngmkflmjjkjaaa", sum := "6e02e997a76e33bdbed5930c7d02a3dca0c773fc6f9935b01681608aaa7d9dc4", func := "loop.example/memorymanagers/laws.FnSweepCopy", spec := "fnSweepCopy", unfollowed := true, recurses := true, apart := false, narrowed := true }
def FnSweepCopyUptoSaid : Prop := fnSweepCopyUptoRow.holds Try.pinned (OpenSpec.upto fnSweepCopySpec)

/-- 'laws.FnStepSweep', WHERE WHAT IT READS IS OF BULK AT MOST 1048576: true; the input reads as it did. -/
def fnStepSweepUptoRow : OpenClaim := { program := "ytngmkflmjjkjaaa", sum := "6e02e997a76e33bdbed5930c7d02a3dca0c773fc6f9935b01681608aaa7d9dc4", func := "loop.example/memorymanagers/laws.FnStepSweep", spec := "fnStepSweep", unfollowed := true, recurses := true, apart := false, narrowed := true }
def FnStepSweepUptoSaid : Prop := fnStepSweepUptoRow.holds Try.pinned (OpenSpec.upto fnStepSweepSpec)

/-- 'laws.FnRunSlide', WHERE WHAT IT READS IS OF BULK AT MOST 1048576: true; the input reads as it did. -/
def fnRunSlideUptoRow : OpenClaim := { program := "ytngmkflmjjkjaaa", sum := "6e02e997a76e33bdbed5930c7d02a3dca0c773fc6f9935b01681608aaa7d9dc4", func := "loop.example/memorymanagers/laws.FnRunSlide", spec := "fnRunSlide", unfollowed := true, recurses := true, apart := false, narrowed := true }
def FnRunSlideUptoSaid : Prop := fnRunSlideUptoRow.holds Try.pinned (OpenSpec.upto fnRunSlideSpec)

/-- 'laws.FnRunLimits', WHERE WHAT IT READS IS OF BULK AT MOST 1048576: true; the input reads as it did. -/
def fnRunLimitsUptoRow : OpenClaim := { program := "ytngmkflmjjkjaaa", sum := "6e02e997a76e33bdbed5930c7d02a3dca0c773fc6f9935b01681608aaa7d9dc4", func := "loop.example/memorymanagers/laws.FnRunLimits", spec := "fnRunLimits", unfollowed := true, recurses := true, apart := false, narrowed := true }
def FnRunLimitsUptoSaid : Prop := fnRunLimitsUptoRow.holds Try.pinned (OpenSpec.upto fnRunLimitsSpec)

end Rows
end Go.Proofs.Ytngmkflmjjkjaaa
