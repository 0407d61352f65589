/-
  No cell of these rows narrows 'for every input' (looked for: loops, veiled, ifaces, maps, wideKeys, modest, calm, conditions, laid).
  DERIVED. THE GIVEN ROWS OF THIS SEAT. 12 by the template 'for every input the law returns true; each argument reads behind the call as it read before'; 0 by the template 'total and deterministic' (their statements: YtkmfhadanbfadaaTotals.lean).
  GIVEN WITH THE SEED: the statements are not yours to turn. If you find one false, say at which input.
  Laid BY PROGRAM, IN A SANDBOX (cutbox-rows.mjs): the forced cells as the released guide's own fill.sh prints them over the translation b1357b201210c087… (all of the seat's roots in one cut). By AI agents, Wed Nov 11 2026. No macro, syntax, notation, axiom, sorry.
-/
import Derived.Test.YtkmfhadanbfadaaChecked
import GoSem.Claim
import GoSem.ClaimJoined
import GoSem.ClaimMapViews
import Derived.JoinedTies
import Derived.KernelRfl
namespace Go.Proofs.Ytkmfhadanbfadaa
/- THE CELL 'sum', in the pinned program and in every row, IS THE sha256 OF THE DUMP (.gsa) THAT YtkmfhadanbfadaaProg.lean LOADS. Nothing in Lean hashes anything: it is a label: what it is worth is what the hold of that sum in a sandbox is worth. -/
noncomputable def Try.pinned : Pinned := { name := "ytkmfhadanbfadaa", sum := "b1357b201210c087ae6b05ab024a8c9262f73e5ae3cb0e298ea6e045f839f58e", checked := Try.checked }
namespace Rows
def none {H : Type} : Left H := { results := [], args := [] }

/-- 'laws.FnExactSnapFinish': WHATEVER THE INPUT: true; the input reads as it did. -/
def fnExactSnapFinishSpec : ChangeSpec := { name := "fnExactSnapFinish", fn := fun _ => fun
  | [d] => { results := [.lit (.bool true)], args := [d] }
  | _ => none }
def fnExactSnapFinishRow : OpenClaim := { program := "ytkmfhadanbfadaa", sum := "b1357b201210c087ae6b05ab024a8c9262f73e5ae3cb0e298ea6e045f839f58e", func := "loop.example/memorymanagers/laws.FnExactSnapFinish", spec := "fnExactSnapFinish", apart := false }
def FnExactSnapFinishSaid : Prop := fnExactSnapFinishRow.holds Try.pinned (OpenSpec.ofChange fnExactSnapFinishSpec)

/-- ITS FALSE NEIGHBOUR: 'it returns false'. Refute it at one input. -/
def fnExactSnapFinishWrong : ChangeSpec := { name := "fnExactSnapFinish", fn := fun _ => fun
  | [d] => { results := [.lit (.bool false)], args := [d] }
  | _ => none }
def FnExactSnapFinishWrongFalsely : Prop := fnExactSnapFinishRow.holds Try.pinned (OpenSpec.ofChange fnExactSnapFinishWrong)

/-- 'laws.FnExactSnapCommand': WHATEVER THE INPUT: true; the input reads as it did. -/
def fnExactSnapCommandSpec : ChangeSpec := { name := "fnExactSnapCommand", fn := fun _ => fun
  | [d1, d2] => { results := [.lit (.bool true)], args := [d1, d2] }
  | _ => none }
def fnExactSnapCommandRow : OpenClaim := { program := "ytkmfhadanbfadaa", sum := "b1357b201210c087ae6b05ab024a8c9262f73e5ae3cb0e298ea6e045f839f58e", func := "loop.example/memorymanagers/laws.FnExactSnapCommand", spec := "fnExactSnapCommand", unfollowed := true, recurses := true, apart := false }
def FnExactSnapCommandSaid : Prop := fnExactSnapCommandRow.holds Try.pinned (OpenSpec.ofChange fnExactSnapCommandSpec)

/-- ITS FALSE NEIGHBOUR: 'it returns false'. Refute it at one input. -/
def fnExactSnapCommandWrong : ChangeSpec := { name := "fnExactSnapCommand", fn := fun _ => fun
  | [d1, d2] => { results := [.lit (.bool false)], args := [d1, d2] }
  | _ => none }
def FnExactSnapCommandWrongFalsely : Prop := fnExactSnapCommandRow.holds Try.pinned (OpenSpec.ofChange fnExactSnapCommandWrong)

/-- 'laws.FnExactPaintCommand': WHATEVER THE INPUT: true; the input reads as it did. -/
def fnExactPaintCommandSpec : ChangeSpec := { name := "fnExactPaintCommand", fn := fun _ => fun
  | [d1, d2] => { results := [.lit (.bool true)], args := [d1, d2] }
  | _ => none }
def fnExactPaintCommandRow : OpenClaim := { program := "ytkmfhadanbfadaa", sum := "b1357b201210c087ae6b05ab024a8c9262f73e5ae3cb0e298ea6e045f839f58e", func := "loop.example/memorymanagers/laws.FnExactPaintCommand", spec := "fnExactPaintCommand", unfollowed := true, recurses := true, apart := false }
def FnExactPaintCommandSaid : Prop := fnExactPaintCommandRow.holds Try.pinned (OpenSpec.ofChange fnExactPaintCommandSpec)

/-- ITS FALSE NEIGHBOUR: 'it returns false'. Refute it at one input. -/
def fnExactPaintCommandWrong : ChangeSpec := { name := "fnExactPaintCommand", fn := fun _ => fun
  | [d1, d2] => { results := [.lit (.bool false)], args := [d1, d2] }
  | _ => none }
def FnExactPaintCommandWrongFalsely : Prop := fnExactPaintCommandRow.holds Try.pinned (OpenSpec.ofChange fnExactPaintCommandWrong)

/-- 'laws.FnExactRunPaint': WHATEVER THE INPUT: true; the input reads as it did. -/
def fnExactRunPaintSpec : ChangeSpec := { name := "fnExactRunPaint", fn := fun _ => fun
  | [d1, d2] => { results := [.lit (.bool true)], args := [d1, d2] }
  | _ => none }
def fnExactRunPaintRow : OpenClaim := { program := "ytkmfhadanbfadaa", sum := "b1357b201210c087ae6b05ab024a8c9262f73e5ae3cb0e298ea6e045f839f58e", func := "loop.example/memorymanagers/laws.FnExactRunPaint", spec := "fnExactRunPaint", unfollowed := true, recurses := true, apart := false }
def FnExactRunPaintSaid : Prop := fnExactRunPaintRow.holds Try.pinned (OpenSpec.ofChange fnExactRunPaintSpec)

/-- ITS FALSE NEIGHBOUR: 'it returns false'. Refute it at one input. -/
def fnExactRunPaintWrong : ChangeSpec := { name := "fnExactRunPaint", fn := fun _ => fun
  | [d1, d2] => { results := [.lit (.bool false)], args := [d1, d2] }
  | _ => none }
def FnExactRunPaintWrongFalsely : Prop := fnExactRunPaintRow.holds Try.pinned (OpenSpec.ofChange fnExactRunPaintWrong)

/-- 'laws.FnExactStepSweep': WHATEVER THE INPUT: true; the input reads as it did. -/
def fnExactStepSweepSpec : ChangeSpec := { name := "fnExactStepSweep", fn := fun _ => fun
  | [d1, d2, d3] => { results := [.lit (.bool true)], args := [d1, d2, d3] }
  | _ => none }
def fnExactStepSweepRow : OpenClaim := { program := "ytkmfhadanbfadaa", sum := "b1357b201210c087ae6b05ab024a8c9262f73e5ae3cb0e298ea6e045f839f58e", func := "loop.example/memorymanagers/laws.FnExactStepSweep", spec := "fnExactStepSweep", unfollowed := true, recurses := true, apart := false }
def FnExactStepSweepSaid : Prop := fnExactStepSweepRow.holds Try.pinned (OpenSpec.ofChange fnExactStepSweepSpec)

/-- ITS FALSE NEIGHBOUR: 'it returns false'. Refute it at one input. -/
def fnExactStepSweepWrong : ChangeSpec := { name := "fnExactStepSweep", fn := fun _ => fun
  | [d1, d2, d3] => { results := [.lit (.bool false)], args := [d1, d2, d3] }
  | _ => none }
def FnExactStepSweepWrongFalsely : Prop := fnExactStepSweepRow.holds Try.pinned (OpenSpec.ofChange fnExactStepSweepWrong)

/-- 'laws.FnExactRunSweep': WHATEVER THE INPUT: true; the input reads as it did. -/
def fnExactRunSweepSpec : ChangeSpec := { name := "fnExactRunSweep", fn := fun _ => fun
  | [d1, d2] => { results := [.lit (.bool true)], args := [d1, d2] }
  | _ => none }
def fnExactRunSweepRow : OpenClaim := { program := "ytkmfhadanbfadaa", sum := "b1357b201210c087ae6b05ab024a8c9262f73e5ae3cb0e298ea6e045f839f58e", func := "loop.example/memorymanagers/laws.FnExactRunSweep", spec := "fnExactRunSweep", unfollowed := true, recurses := true, apart := false }
def FnExactRunSweepSaid : Prop := fnExactRunSweepRow.holds Try.pinned (OpenSpec.ofChange fnExactRunSweepSpec)

/-- ITS FALSE NEIGHBOUR: 'it returns false'. Refute it at one input. -/
def fnExactRunSweepWrong : ChangeSpec := { name := "fnExactRunSweep", fn := fun _ => fun
  | [d1, d2] => { results := [.lit (.bool false)], args := [d1, d2] }
  | _ => none }
def FnExactRunSweepWrongFalsely : Prop := fnExactRunSweepRow.holds Try.pinned (OpenSpec.ofChange fnExactRunSweepWrong)

/-- 'laws.FnExactCollectAged': WHATEVER THE INPUT: true; the input reads as it did. -/
def fnExactCollectAgedSpec : ChangeSpec := { name := "fnExactCollectAged", fn := fun _ => fun
  | [d] => { results := [.lit (.bool true)], args := [d] }
  | _ => none }
def fnExactCollectAgedRow : OpenClaim := { program := "ytkmfhadanbfadaa", sum := "b1357b201210c087ae6b05ab024a8c9262f73e5ae3cb0e298ea6e045f839f58e", func := "loop.example/memorymanagers/laws.FnExactCollectAged", spec := "fnExactCollectAged", unfollowed := true, recurses := true, apart := false }
def FnExactCollectAgedSaid : Prop := fnExactCollectAgedRow.holds Try.pinned (OpenSpec.ofChange fnExactCollectAgedSpec)

/-- ITS FALSE NEIGHBOUR: 'it returns false'. Refute it at one input. -/
def fnExactCollectAgedWrong : ChangeSpec := { name := "fnExactCollectAged", fn := fun _ => fun
  | [d] => { results := [.lit (.bool false)], args := [d] }
  | _ => none }
def FnExactCollectAgedWrongFalsely : Prop := fnExactCollectAgedRow.holds Try.pinned (OpenSpec.ofChange fnExactCollectAgedWrong)

/-- 'laws.FnExactRunCopy': WHATEVER THE INPUT: true; the input reads as it did. -/
def fnExactRunCopySpec : ChangeSpec := { name := "fnExactRunCopy", fn := fun _ => fun
  | [d1, d2] => { results := [.lit (.bool true)], args := [d1, d2] }
  | _ => none }
def fnExactRunCopyRow : OpenClaim := { program := "ytkmfhadanbfadaa", sum := "b1357b201210c087ae6b05ab024a8c9262f73e5ae3cb0e298ea6e045f839f58e", func := "loop.example/memorymanagers/laws.FnExactRunCopy", spec := "fnExactRunCopy", unfollowed := true, recurses := true, apart := false }
def FnExactRunCopySaid : Prop := fnExactRunCopyRow.holds Try.pinned (OpenSpec.ofChange fnExactRunCopySpec)

/-- ITS FALSE NEIGHBOUR: 'it returns false'. Refute it at one input. -/
def fnExactRunCopyWrong : ChangeSpec := { name := "fnExactRunCopy", fn := fun _ => fun
  | [d1, d2] => { results := [.lit (.bool false)], args := [d1, d2] }
  | _ => none }
def FnExactRunCopyWrongFalsely : Prop := fnExactRunCopyRow.holds Try.pinned (OpenSpec.ofChange fnExactRunCopyWrong)

/-- 'laws.FnExactRunSlide': WHATEVER THE INPUT: true; the input reads as it did. -/
def fnExactRunSlideSpec : ChangeSpec := { name := "fnExactRunSlide", fn := fun _ => fun
  | [d1, d2] => { results := [.lit (.bool true)], args := [d1, d2] }
  | _ => none }
def fnExactRunSlideRow : OpenClaim := { program := "ytkmfhadanbfadaa", sum := "b1357b201210c087ae6b05ab024a8c9262f73e5ae3cb0e298ea6e045f839f58e", func := "loop.example/memorymanagers/laws.FnExactRunSlide", spec := "fnExactRunSlide", unfollowed := true, recurses := true, apart := false }
def FnExactRunSlideSaid : Prop := fnExactRunSlideRow.holds Try.pinned (OpenSpec.ofChange fnExactRunSlideSpec)

/-- ITS FALSE NEIGHBOUR: 'it returns false'. Refute it at one input. -/
def fnExactRunSlideWrong : ChangeSpec := { name := "fnExactRunSlide", fn := fun _ => fun
  | [d1, d2] => { results := [.lit (.bool false)], args := [d1, d2] }
  | _ => none }
def FnExactRunSlideWrongFalsely : Prop := fnExactRunSlideRow.holds Try.pinned (OpenSpec.ofChange fnExactRunSlideWrong)

/-- 'laws.FnExactStepAged': WHATEVER THE INPUT: true; the input reads as it did. -/
def fnExactStepAgedSpec : ChangeSpec := { name := "fnExactStepAged", fn := fun _ => fun
  | [d1, d2] => { results := [.lit (.bool true)], args := [d1, d2] }
  | _ => none }
def fnExactStepAgedRow : OpenClaim := { program := "ytkmfhadanbfadaa", sum := "b1357b201210c087ae6b05ab024a8c9262f73e5ae3cb0e298ea6e045f839f58e", func := "loop.example/memorymanagers/laws.FnExactStepAged", spec := "fnExactStepAged", unfollowed := true, recurses := true, apart := false }
def FnExactStepAgedSaid : Prop := fnExactStepAgedRow.holds Try.pinned (OpenSpec.ofChange fnExactStepAgedSpec)

/-- ITS FALSE NEIGHBOUR: 'it returns false'. Refute it at one input. -/
def fnExactStepAgedWrong : ChangeSpec := { name := "fnExactStepAged", fn := fun _ => fun
  | [d1, d2] => { results := [.lit (.bool false)], args := [d1, d2] }
  | _ => none }
def FnExactStepAgedWrongFalsely : Prop := fnExactStepAgedRow.holds Try.pinned (OpenSpec.ofChange fnExactStepAgedWrong)

/-- 'laws.FnExactCollectYoung': WHATEVER THE INPUT: true; the input reads as it did. -/
def fnExactCollectYoungSpec : ChangeSpec := { name := "fnExactCollectYoung", fn := fun _ => fun
  | [d] => { results := [.lit (.bool true)], args := [d] }
  | _ => none }
def fnExactCollectYoungRow : OpenClaim := { program := "ytkmfhadanbfadaa", sum := "b1357b201210c087ae6b05ab024a8c9262f73e5ae3cb0e298ea6e045f839f58e", func := "loop.example/memorymanagers/laws.FnExactCollectYoung", spec := "fnExactCollectYoung", unfollowed := true, recurses := true, apart := false }
def FnExactCollectYoungSaid : Prop := fnExactCollectYoungRow.holds Try.pinned (OpenSpec.ofChange fnExactCollectYoungSpec)

/-- ITS FALSE NEIGHBOUR: 'it returns false'. Refute it at one input. -/
def fnExactCollectYoungWrong : ChangeSpec := { name := "fnExactCollectYoung", fn := fun _ => fun
  | [d] => { results := [.lit (.bool false)], args := [d] }
  | _ => none }
def FnExactCollectYoungWrongFalsely : Prop := fnExactCollectYoungRow.holds Try.pinned (OpenSpec.ofChange fnExactCollectYoungWrong)

/-- 'laws.FnExactRunAged': WHATEVER THE INPUT: true; the input reads as it did. -/
def fnExactRunAgedSpec : ChangeSpec := { name := "fnExactRunAged", fn := fun _ => fun
  | [d1, d2] => { results := [.lit (.bool true)], args := [d1, d2] }
  | _ => none }
def fnExactRunAgedRow : OpenClaim := { program := "ytkmfhadanbfadaa", sum := "b1357b201210c087ae6b05ab024a8c9262f73e5ae3cb0e298ea6e045f839f58e", func := "loop.example/memorymanagers/laws.FnExactRunAged", spec := "fnExactRunAged", unfollowed := true, recurses := true, apart := false }
def FnExactRunAgedSaid : Prop := fnExactRunAgedRow.holds Try.pinned (OpenSpec.ofChange fnExactRunAgedSpec)

/-- ITS FALSE NEIGHBOUR: 'it returns false'. Refute it at one input. -/
def fnExactRunAgedWrong : ChangeSpec := { name := "fnExactRunAged", fn := fun _ => fun
  | [d1, d2] => { results := [.lit (.bool false)], args := [d1, d2] }
  | _ => none }
def FnExactRunAgedWrongFalsely : Prop := fnExactRunAgedRow.holds Try.pinned (OpenSpec.ofChange fnExactRunAgedWrong)

/- THE SECOND FORM. 'bulk': how many values and letters a reading holds, each counted each time it is reached (what is shared counts as often as it is met; a slice's spare places count too). A statement '..UptoSaid' is the law's where the arguments, and the package variables that the reading takes, are together of bulk at most 1048576: NARROWER than '..Said'. Prove '..Said' where nothing that the law and all that it calls make is longer than what came in: it says more and counts as full. Else prove '..UptoSaid'. A law counts once. -/
mutual
def uptoBulk {H : Type} : DataW H → Nat
  | .lit (.string bytes) => bytes.length + 1
  | .lit _ => 1
  | .nil => 1
  | .ptr d => uptoBulk d + 1
  | .slice elems spare => uptoBulkAll elems + uptoBulkAll spare + 1
  | .agg parts => uptoBulkAll parts + 1
  | .iface _ d => uptoBulk d + 1
  | .map entries => uptoBulkEntries entries + 1
  | .held _ => 1
def uptoBulkAll {H : Type} : List (DataW H) → Nat
  | [] => 0
  | d :: r => uptoBulk d + uptoBulkAll r
def uptoBulkEntries {H : Type} : List (Lit × DataW H) → Nat
  | [] => 0
  | x :: r => uptoBulkEntry x + uptoBulkEntries r
def uptoBulkEntry {H : Type} : Lit × DataW H → Nat
  | (.string bytes, d) => bytes.length + uptoBulk d + 1
  | (_, d) => uptoBulk d + 1
 end
def uptoSmall : (H : Type) → List (DataW H) → Bool := fun _ ds => decide (uptoBulkAll ds ≤ 1048576)
def OpenSpec.upto (s : _root_.Go.ChangeSpec) : _root_.Go.OpenSpec := { _root_.Go.OpenSpec.ofChange s with cond := some uptoSmall }

/-- 'laws.FnExactSnapFinish', WHERE WHAT IT READS IS OF BULK AT MOST 1048576: true; the input reads as it did. -/
def fnExactSnapFinishUptoRow : OpenClaim := { program := "ytkmfhadanbfadaa", sum := "b1357b201210c087ae6b05ab024a8c9262f73e5ae3cb0e298ea6e045f839f58e", func := "loop.example/memorymanagers/laws.FnExactSnapFinish", spec := "fnExactSnapFinish", apart := false, narrowed := true }
def FnExactSnapFinishUptoSaid : Prop := fnExactSnapFinishUptoRow.holds Try.pinned (OpenSpec.upto fnExactSnapFinishSpec)

/-- 'laws.FnExactSnapCommand', WHERE WHAT IT READS IS OF BULK AT MOST 1048576: true; the input reads as it did. -/
def fnExactSnapCommandUptoRow : OpenClaim := { program := "ytkmfhadanbfadaa", sum := "b1357b201210c087ae6b05ab024a8c9262f73e5ae3cb0e298ea6e045f839f58e", func := "loop.example/memorymanagers/laws.FnExactSnapCommand", spec := "fnExactSnapCommand", unfollowed := true, recurses := true, apart := false, narrowed := true }
def FnExactSnapCommandUptoSaid : Prop := fnExactSnapCommandUptoRow.holds Try.pinned (OpenSpec.upto fnExactSnapCommandSpec)

/-- 'laws.FnExactPaintCommand', WHERE WHAT IT READS IS OF BULK AT MOST 1048576: true; the input reads as it did. -/
def fnExactPaintCommandUptoRow : OpenClaim := { program := "ytkmfhadanbfadaa", sum := "b1357b201210c087ae6b05ab024a8c9262f73e5ae3cb0e298ea6e045f839f58e", func := "loop.example/memorymanagers/laws.FnExactPaintCommand", spec := "fnExactPaintCommand", unfollowed := true, recurses := true, apart := false, narrowed := true }
def FnExactPaintCommandUptoSaid : Prop := fnExactPaintCommandUptoRow.holds Try.pinned (OpenSpec.upto fnExactPaintCommandSpec)

/-- 'laws.FnExactRunPaint', WHERE WHAT IT READS IS OF BULK AT MOST 1048576: true; the input reads as it did. -/
def fnExactRunPaintUptoRow : OpenClaim := { program := "ytkmfhadanbfadaa", sum := "b1357b201210c087ae6b05ab024a8c9262f73e5ae3cb0e298ea6e045f839f58e", func := "loop.example/memorymanagers/laws.FnExactRunPaint", spec := "fnExactRunPaint", unfollowed := true, recurses := true, apart := false, narrowed := true }
def FnExactRunPaintUptoSaid : Prop := fnExactRunPaintUptoRow.holds Try.pinned (OpenSpec.upto fnExactRunPaintSpec)

/-- 'laws.FnExactStepSweep', WHERE WHAT IT READS IS OF BULK AT MOST 1048576: true; the input reads as it did. -/
def fnExactStepSweepUptoRow : OpenClaim := { program := "ytkmfhadanbfadaa", sum := "b1357b201210c087ae6b05ab024a8c9262f73e5ae3cb0e298ea6e045f839f58e", func := "loop.example/memorymanagers/laws.FnExactStepSweep", spec := "fnExactStepSweep", unfollowed := true, recurses := true, apart := false, narrowed := true }
def FnExactStepSweepUptoSaid : Prop := fnExactStepSweepUptoRow.holds Try.pinned (OpenSpec.upto fnExactStepSweepSpec)

/-- 'laws.FnExactRunSweep', WHERE WHAT IT READS IS OF BULK AT MOST 1048576: true; the input reads as it did. -/
def fnExactRunSweepUptoRow : OpenClaim := { program := "ytkmfhadanbfadaa", sum := "b1357b201210c087ae6b05ab024a8c9262f73e5ae3cb0e298ea6e045f839f58e", func := "loop.example/memorymanagers/laws.FnExactRunSweep", spec := "fnExactRunSweep", unfollowed := true, recurses := true, apart := false, narrowed := true }
def FnExactRunSweepUptoSaid : Prop := fnExactRunSweepUptoRow.holds Try.pinned (OpenSpec.upto fnExactRunSweepSpec)

/-- 'laws.FnExactCollectAged', WHERE WHAT IT READS IS OF BULK AT MOST 1048576: true; the input reads as it did. -/
def fnExactCollectAgedUptoRow : OpenClaim := { program := "ytkmfhadanbfadaa", sum := "b1357b201210c087ae6b05ab024a8c9262f73e5ae3cb0e298ea6e045f839f58e", func := "loop.example/memorymanagers/laws.FnExactCollectAged", spec := "fnExactCollectAged", unfollowed := true, recurses := true, apart := false, narrowed := true }
def FnExactCollectAgedUptoSaid : Prop := fnExactCollectAgedUptoRow.holds Try.pinned (OpenSpec.upto fnExactCollectAgedSpec)

/-- 'laws.FnExactRunCopy', WHERE WHAT IT READS IS OF BULK AT MOST 1048576: true; the input reads as it did. -/
def fnExactRunCopyUptoRow : OpenClaim := { program := "ytkmfhadanbfadaa", sum := "b1357b201210c087ae6b05ab024a8c9262f73e5ae3cb0e298ea6e045f839f58e", func := "loop.example/memorymanagers/laws.FnExactRunCopy", spec := "fnExactRunCopy", unfollowed := true, recurses := true, apart := false, narrowed := true }
def FnExactRunCopyUptoSaid : Prop := fnExactRunCopyUptoRow.holds Try.pinned (OpenSpec.upto fnExactRunCopySpec)

/-- 'laws.FnExactRunSlide', WHERE WHAT IT READS IS OF BULK AT MOST 1048576: true; the input reads as it did. -/
def fnExactRunSlideUptoRow : OpenClaim := { program := "ytkmfhadanbfadaa", sum := "b1357b201210c087ae6b05ab024a8c9262f73e5ae3cb0e298ea6e045f839f58e", func := "loop.example/memorymanagers/laws.FnExactRunSlide", spec := "fnExactRunSlide", unfollowed := true, recurses := true, apart := false, narrowed := true }
def FnExactRunSlideUptoSaid : Prop := fnExactRunSlideUptoRow.holds Try.pinned (OpenSpec.upto fnExactRunSlideSpec)

/-- 'laws.FnExactStepAged', WHERE WHAT IT READS IS OF BULK AT MOST 1048576: true; the input reads as it did. -/
def fnExactStepAgedUptoRow : OpenClaim := { program := "ytkmfhadanbfadaa", sum := "b1357b201210c087ae6b05ab024a8c9262f73e5ae3cb0e298ea6e045f839f58e", func := "loop.example/memorymanagers/laws.FnExactStepAged", spec := "fnExactStepAged", unfollowed := true, recurses := true, apart := false, narrowed := true }
def FnExactStepAgedUptoSaid : Prop := fnExactStepAgedUptoRow.holds Try.pinned (OpenSpec.upto fnExactStepAgedSpec)

/-- 'laws.FnExactCollectYoung', WHERE WHAT IT READS IS OF BULK AT MOST 1048576: true; the input reads as it did. -/
def fnExactCollectYoungUptoRow : OpenClaim := { program := "ytkmfhadanbfadaa", sum := "b1357b201210c087ae6b05ab024a8c9262f73e5ae3cb0e298ea6e045f839f58e", func := "loop.example/memorymanagers/laws.FnExactCollectYoung", spec := "fnExactCollectYoung", unfollowed := true, recurses := true, apart := false, narrowed := true }
def FnExactCollectYoungUptoSaid : Prop := fnExactCollectYoungUptoRow.holds Try.pinned (OpenSpec.upto fnExactCollectYoungSpec)

/-- 'laws.FnExactRunAged', WHERE WHAT IT READS IS OF BULK AT MOST 1048576: true; the input reads as it did. -/
def fnExactRunAgedUptoRow : OpenClaim := { program := "ytkmfhadanbfadaa", sum := "b1357b201210c087ae6b05ab024a8c9262f73e5ae3cb0e298ea6e045f839f58e", func := "loop.example/memorymanagers/laws.FnExactRunAged", spec := "fnExactRunAged", unfollowed := true, recurses := true, apart := false, narrowed := true }
def FnExactRunAgedUptoSaid : Prop := fnExactRunAgedUptoRow.holds Try.pinned (OpenSpec.upto fnExactRunAgedSpec)

end Rows
end Go.Proofs.Ytkmfhadanbfadaa
