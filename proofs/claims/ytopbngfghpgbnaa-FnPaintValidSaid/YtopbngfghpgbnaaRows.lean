/-
  No cell of these rows narrows 'for every input' (looked for: loops, veiled, ifaces, maps, wideKeys, modest, calm, conditions, laid).
  DERIVED. THE GIVEN ROWS OF THIS SEAT. 12 by the template 'for every input the law returns true; each argument reads behind the call as it read before'; 0 by the template 'total and deterministic' (their statements: YtopbngfghpgbnaaTotals.lean).
  GIVEN WITH THE SEED: the statements are not yours to turn. If you find one false, say at which input.
  Laid BY PROGRAM, IN A SANDBOX (cutbox-rows.mjs): the forced cells as the released guide's own fill.sh prints them over the translation 1e5dfbac94d46ace… (all of the seat's roots in one cut). By AI agents, Wed Nov 11 2026. No macro, syntax, notation, axiom, sorry.
-/
import Derived.Test.YtopbngfghpgbnaaChecked
import GoSem.Claim
import GoSem.ClaimJoined
import GoSem.ClaimMapViews
import Derived.JoinedTies
import Derived.KernelRfl
namespace Go.Proofs.Ytopbngfghpgbnaa
/- THE CELL 'sum', in the pinned program and in every row, IS THE sha256 OF THE DUMP (.gsa) THAT YtopbngfghpgbnaaProg.lean LOADS. Nothing in Lean hashes anything: it is a label: what it is worth is what the hold of that sum in a sandbox is worth. -/
noncomputable def Try.pinned : Pinned := { name := "ytopbngfghpgbnaa", sum := "1e5dfbac94d46aceb6658c975ead330206ec9ee0e17eaa558bb9c3941fe4b6b4", checked := Try.checked }
namespace Rows
def none {H : Type} : Left H := { results := [], args := [] }

/-- 'laws.FnPaintValid': WHATEVER THE INPUT: true; the input reads as it did. -/
def fnPaintValidSpec : ChangeSpec := { name := "fnPaintValid", fn := fun _ => fun
  | [d] => { results := [.lit (.bool true)], args := [d] }
  | _ => none }
def fnPaintValidRow : OpenClaim := { program := "ytopbngfghpgbnaa", sum := "1e5dfbac94d46aceb6658c975ead330206ec9ee0e17eaa558bb9c3941fe4b6b4", func := "loop.example/memorymanagers/laws.FnPaintValid", spec := "fnPaintValid", apart := false }
def FnPaintValidSaid : Prop := fnPaintValidRow.holds Try.pinned (OpenSpec.ofChange fnPaintValidSpec)

/-- ITS FALSE NEIGHBOUR: 'it returns false'. Refute it at one input. -/
def fnPaintValidWrong : ChangeSpec := { name := "fnPaintValid", fn := fun _ => fun
  | [d] => { results := [.lit (.bool false)], args := [d] }
  | _ => none }
def FnPaintValidWrongFalsely : Prop := fnPaintValidRow.holds Try.pinned (OpenSpec.ofChange fnPaintValidWrong)

/-- 'laws.FnPaintStart': WHATEVER THE INPUT: true; the input reads as it did. -/
def fnPaintStartSpec : ChangeSpec := { name := "fnPaintStart", fn := fun _ => fun
  | [d] => { results := [.lit (.bool true)], args := [d] }
  | _ => none }
def fnPaintStartRow : OpenClaim := { program := "ytopbngfghpgbnaa", sum := "1e5dfbac94d46aceb6658c975ead330206ec9ee0e17eaa558bb9c3941fe4b6b4", func := "loop.example/memorymanagers/laws.FnPaintStart", spec := "fnPaintStart", apart := false }
def FnPaintStartSaid : Prop := fnPaintStartRow.holds Try.pinned (OpenSpec.ofChange fnPaintStartSpec)

/-- ITS FALSE NEIGHBOUR: 'it returns false'. Refute it at one input. -/
def fnPaintStartWrong : ChangeSpec := { name := "fnPaintStart", fn := fun _ => fun
  | [d] => { results := [.lit (.bool false)], args := [d] }
  | _ => none }
def FnPaintStartWrongFalsely : Prop := fnPaintStartRow.holds Try.pinned (OpenSpec.ofChange fnPaintStartWrong)

/-- 'laws.FnPaintStep': WHATEVER THE INPUT: true; the input reads as it did. -/
def fnPaintStepSpec : ChangeSpec := { name := "fnPaintStep", fn := fun _ => fun
  | [d] => { results := [.lit (.bool true)], args := [d] }
  | _ => none }
def fnPaintStepRow : OpenClaim := { program := "ytopbngfghpgbnaa", sum := "1e5dfbac94d46aceb6658c975ead330206ec9ee0e17eaa558bb9c3941fe4b6b4", func := "loop.example/memorymanagers/laws.FnPaintStep", spec := "fnPaintStep", apart := false }
def FnPaintStepSaid : Prop := fnPaintStepRow.holds Try.pinned (OpenSpec.ofChange fnPaintStepSpec)

/-- ITS FALSE NEIGHBOUR: 'it returns false'. Refute it at one input. -/
def fnPaintStepWrong : ChangeSpec := { name := "fnPaintStep", fn := fun _ => fun
  | [d] => { results := [.lit (.bool false)], args := [d] }
  | _ => none }
def FnPaintStepWrongFalsely : Prop := fnPaintStepRow.holds Try.pinned (OpenSpec.ofChange fnPaintStepWrong)

/-- 'laws.FnPaintCommand': WHATEVER THE INPUT: true; the input reads as it did. -/
def fnPaintCommandSpec : ChangeSpec := { name := "fnPaintCommand", fn := fun _ => fun
  | [d] => { results := [.lit (.bool true)], args := [d] }
  | _ => none }
def fnPaintCommandRow : OpenClaim := { program := "ytopbngfghpgbnaa", sum := "1e5dfbac94d46aceb6658c975ead330206ec9ee0e17eaa558bb9c3941fe4b6b4", func := "loop.example/memorymanagers/laws.FnPaintCommand", spec := "fnPaintCommand", unfollowed := true, recurses := true, apart := false }
def FnPaintCommandSaid : Prop := fnPaintCommandRow.holds Try.pinned (OpenSpec.ofChange fnPaintCommandSpec)

/-- ITS FALSE NEIGHBOUR: 'it returns false'. Refute it at one input. -/
def fnPaintCommandWrong : ChangeSpec := { name := "fnPaintCommand", fn := fun _ => fun
  | [d] => { results := [.lit (.bool false)], args := [d] }
  | _ => none }
def FnPaintCommandWrongFalsely : Prop := fnPaintCommandRow.holds Try.pinned (OpenSpec.ofChange fnPaintCommandWrong)

/-- 'laws.FnPaintFinish': WHATEVER THE INPUT: true; the input reads as it did. -/
def fnPaintFinishSpec : ChangeSpec := { name := "fnPaintFinish", fn := fun _ => fun
  | [d] => { results := [.lit (.bool true)], args := [d] }
  | _ => none }
def fnPaintFinishRow : OpenClaim := { program := "ytopbngfghpgbnaa", sum := "1e5dfbac94d46aceb6658c975ead330206ec9ee0e17eaa558bb9c3941fe4b6b4", func := "loop.example/memorymanagers/laws.FnPaintFinish", spec := "fnPaintFinish", unfollowed := true, recurses := true, apart := false }
def FnPaintFinishSaid : Prop := fnPaintFinishRow.holds Try.pinned (OpenSpec.ofChange fnPaintFinishSpec)

/-- ITS FALSE NEIGHBOUR: 'it returns false'. Refute it at one input. -/
def fnPaintFinishWrong : ChangeSpec := { name := "fnPaintFinish", fn := fun _ => fun
  | [d] => { results := [.lit (.bool false)], args := [d] }
  | _ => none }
def FnPaintFinishWrongFalsely : Prop := fnPaintFinishRow.holds Try.pinned (OpenSpec.ofChange fnPaintFinishWrong)

/-- 'laws.FnPaintEarly': WHATEVER THE INPUT: true; the input reads as it did. -/
def fnPaintEarlySpec : ChangeSpec := { name := "fnPaintEarly", fn := fun _ => fun
  | [d] => { results := [.lit (.bool true)], args := [d] }
  | _ => none }
def fnPaintEarlyRow : OpenClaim := { program := "ytopbngfghpgbnaa", sum := "1e5dfbac94d46aceb6658c975ead330206ec9ee0e17eaa558bb9c3941fe4b6b4", func := "loop.example/memorymanagers/laws.FnPaintEarly", spec := "fnPaintEarly", apart := false }
def FnPaintEarlySaid : Prop := fnPaintEarlyRow.holds Try.pinned (OpenSpec.ofChange fnPaintEarlySpec)

/-- ITS FALSE NEIGHBOUR: 'it returns false'. Refute it at one input. -/
def fnPaintEarlyWrong : ChangeSpec := { name := "fnPaintEarly", fn := fun _ => fun
  | [d] => { results := [.lit (.bool false)], args := [d] }
  | _ => none }
def FnPaintEarlyWrongFalsely : Prop := fnPaintEarlyRow.holds Try.pinned (OpenSpec.ofChange fnPaintEarlyWrong)

/-- 'laws.FnRunPaint': WHATEVER THE INPUT: true; the input reads as it did. -/
def fnRunPaintSpec : ChangeSpec := { name := "fnRunPaint", fn := fun _ => fun
  | [d] => { results := [.lit (.bool true)], args := [d] }
  | _ => none }
def fnRunPaintRow : OpenClaim := { program := "ytopbngfghpgbnaa", sum := "1e5dfbac94d46aceb6658c975ead330206ec9ee0e17eaa558bb9c3941fe4b6b4", func := "loop.example/memorymanagers/laws.FnRunPaint", spec := "fnRunPaint", unfollowed := true, recurses := true, apart := false }
def FnRunPaintSaid : Prop := fnRunPaintRow.holds Try.pinned (OpenSpec.ofChange fnRunPaintSpec)

/-- ITS FALSE NEIGHBOUR: 'it returns false'. Refute it at one input. -/
def fnRunPaintWrong : ChangeSpec := { name := "fnRunPaint", fn := fun _ => fun
  | [d] => { results := [.lit (.bool false)], args := [d] }
  | _ => none }
def FnRunPaintWrongFalsely : Prop := fnRunPaintRow.holds Try.pinned (OpenSpec.ofChange fnRunPaintWrong)

/-- 'laws.FnAgedValid': WHATEVER THE INPUT: true; the input reads as it did. -/
def fnAgedValidSpec : ChangeSpec := { name := "fnAgedValid", fn := fun _ => fun
  | [d] => { results := [.lit (.bool true)], args := [d] }
  | _ => none }
def fnAgedValidRow : OpenClaim := { program := "ytopbngfghpgbnaa", sum := "1e5dfbac94d46aceb6658c975ead330206ec9ee0e17eaa558bb9c3941fe4b6b4", func := "loop.example/memorymanagers/laws.FnAgedValid", spec := "fnAgedValid", apart := false }
def FnAgedValidSaid : Prop := fnAgedValidRow.holds Try.pinned (OpenSpec.ofChange fnAgedValidSpec)

/-- ITS FALSE NEIGHBOUR: 'it returns false'. Refute it at one input. -/
def fnAgedValidWrong : ChangeSpec := { name := "fnAgedValid", fn := fun _ => fun
  | [d] => { results := [.lit (.bool false)], args := [d] }
  | _ => none }
def FnAgedValidWrongFalsely : Prop := fnAgedValidRow.holds Try.pinned (OpenSpec.ofChange fnAgedValidWrong)

/-- 'laws.FnStepAged': WHATEVER THE INPUT: true; the input reads as it did. -/
def fnStepAgedSpec : ChangeSpec := { name := "fnStepAged", fn := fun _ => fun
  | [d] => { results := [.lit (.bool true)], args := [d] }
  | _ => none }
def fnStepAgedRow : OpenClaim := { program := "ytopbngfghpgbnaa", sum := "1e5dfbac94d46aceb6658c975ead330206ec9ee0e17eaa558bb9c3941fe4b6b4", func := "loop.example/memorymanagers/laws.FnStepAged", spec := "fnStepAged", unfollowed := true, recurses := true, apart := false }
def FnStepAgedSaid : Prop := fnStepAgedRow.holds Try.pinned (OpenSpec.ofChange fnStepAgedSpec)

/-- ITS FALSE NEIGHBOUR: 'it returns false'. Refute it at one input. -/
def fnStepAgedWrong : ChangeSpec := { name := "fnStepAged", fn := fun _ => fun
  | [d] => { results := [.lit (.bool false)], args := [d] }
  | _ => none }
def FnStepAgedWrongFalsely : Prop := fnStepAgedRow.holds Try.pinned (OpenSpec.ofChange fnStepAgedWrong)

/-- 'laws.FnCollectYoung': WHATEVER THE INPUT: true; the input reads as it did. -/
def fnCollectYoungSpec : ChangeSpec := { name := "fnCollectYoung", fn := fun _ => fun
  | [d] => { results := [.lit (.bool true)], args := [d] }
  | _ => none }
def fnCollectYoungRow : OpenClaim := { program := "ytopbngfghpgbnaa", sum := "1e5dfbac94d46aceb6658c975ead330206ec9ee0e17eaa558bb9c3941fe4b6b4", func := "loop.example/memorymanagers/laws.FnCollectYoung", spec := "fnCollectYoung", unfollowed := true, recurses := true, apart := false }
def FnCollectYoungSaid : Prop := fnCollectYoungRow.holds Try.pinned (OpenSpec.ofChange fnCollectYoungSpec)

/-- ITS FALSE NEIGHBOUR: 'it returns false'. Refute it at one input. -/
def fnCollectYoungWrong : ChangeSpec := { name := "fnCollectYoung", fn := fun _ => fun
  | [d] => { results := [.lit (.bool false)], args := [d] }
  | _ => none }
def FnCollectYoungWrongFalsely : Prop := fnCollectYoungRow.holds Try.pinned (OpenSpec.ofChange fnCollectYoungWrong)

/-- 'laws.FnCollectAged': WHATEVER THE INPUT: true; the input reads as it did. -/
def fnCollectAgedSpec : ChangeSpec := { name := "fnCollectAged", fn := fun _ => fun
  | [d] => { results := [.lit (.bool true)], args := [d] }
  | _ => none }
def fnCollectAgedRow : OpenClaim := { program := "ytopbngfghpgbnaa", sum := "1e5dfbac94d46aceb6658c975ead330206ec9ee0e17eaa558bb9c3941fe4b6b4", func := "loop.example/memorymanagers/laws.FnCollectAged", spec := "fnCollectAged", unfollowed := true, recurses := true, apart := false }
def FnCollectAgedSaid : Prop := fnCollectAgedRow.holds Try.pinned (OpenSpec.ofChange fnCollectAgedSpec)

/-- ITS FALSE NEIGHBOUR: 'it returns false'. Refute it at one input. -/
def fnCollectAgedWrong : ChangeSpec := { name := "fnCollectAged", fn := fun _ => fun
  | [d] => { results := [.lit (.bool false)], args := [d] }
  | _ => none }
def FnCollectAgedWrongFalsely : Prop := fnCollectAgedRow.holds Try.pinned (OpenSpec.ofChange fnCollectAgedWrong)

/-- 'laws.FnRunAged': WHATEVER THE INPUT: true; the input reads as it did. -/
def fnRunAgedSpec : ChangeSpec := { name := "fnRunAged", fn := fun _ => fun
  | [d] => { results := [.lit (.bool true)], args := [d] }
  | _ => none }
def fnRunAgedRow : OpenClaim := { program := "ytopbngfghpgbnaa", sum := "1e5dfbac94d46aceb6658c975ead330206ec9ee0e17eaa558bb9c3941fe4b6b4", func := "loop.example/memorymanagers/laws.FnRunAged", spec := "fnRunAged", unfollowed := true, recurses := true, apart := false }
def FnRunAgedSaid : Prop := fnRunAgedRow.holds Try.pinned (OpenSpec.ofChange fnRunAgedSpec)

/-- ITS FALSE NEIGHBOUR: 'it returns false'. Refute it at one input. -/
def fnRunAgedWrong : ChangeSpec := { name := "fnRunAged", fn := fun _ => fun
  | [d] => { results := [.lit (.bool false)], args := [d] }
  | _ => none }
def FnRunAgedWrongFalsely : Prop := fnRunAgedRow.holds Try.pinned (OpenSpec.ofChange fnRunAgedWrong)

/- THE SECOND FORM. 'bulk': how many values and letters a reading holds, each counted each time it is reached (what is shared counts as often as it is met; a slice's spare places count too). A statement '..UptoSaid' is the law's where the arguments, and the package variables that the reading takes, are together of bulk at most 1048576: NARROWER than '..Said'. Prove '..Said' where nothing that the law and all that it calls make is longer than what came in: it says more and counts as full. Else prove '..UptoSaid'. A law counts once. -/
mutual
def uptoBulk {H : Type} : DataW H → Nat
  | .lit (.string bytes) => bytes.length + 1
  | .lit _ => 1
  | .nil => 1
  | .ptr d => uptoBulk d + 1
  | .slice elems spare => uptoBulkAll elems + uptoBulkAll spare + 1
  | .agg parts => uptoBulkAll parts + 1
  | .iface _ d => uptoBulk d + 1
  | .map entries => uptoBulkEntries entries + 1
  | .held _ => 1
def uptoBulkAll {H : Type} : List (DataW H) → Nat
  | [] => 0
  | d :: r => uptoBulk d + uptoBulkAll r
def uptoBulkEntries {H : Type} : List (Lit × DataW H) → Nat
  | [] => 0
  | x :: r => uptoBulkEntry x + uptoBulkEntries r
def uptoBulkEntry {H : Type} : Lit × DataW H → Nat
  | (.string bytes, d) => bytes.length + uptoBulk d + 1
  | (_, d) => uptoBulk d + 1
 end
def uptoSmall : (H : Type) → List (DataW H) → Bool := fun _ ds => decide (uptoBulkAll ds ≤ 1048576)
def OpenSpec.upto (s : _root_.Go.ChangeSpec) : _root_.Go.OpenSpec := { _root_.Go.OpenSpec.ofChange s with cond := some uptoSmall }

/-- 'laws.FnPaintValid', WHERE WHAT IT READS IS OF BULK AT MOST 1048576: true; the input reads as it did. -/
def fnPaintValidUptoRow : OpenClaim := { program := "ytopbngfghpgbnaa", sum := "1e5dfbac94d46aceb6658c975ead330206ec9ee0e17eaa558bb9c3941fe4b6b4", func := "loop.example/memorymanagers/laws.FnPaintValid", spec := "fnPaintValid", apart := false, narrowed := true }
def FnPaintValidUptoSaid : Prop := fnPaintValidUptoRow.holds Try.pinned (OpenSpec.upto fnPaintValidSpec)

/-- 'laws.FnPaintStart', WHERE WHAT IT READS IS OF BULK AT MOST 1048576: true; the input reads as it did. -/
def fnPaintStartUptoRow : OpenClaim := { program := "ytopbngfghpgbnaa", sum := "1e5dfbac94d46aceb6658c975ead330206ec9ee0e17eaa558bb9c3941fe4b6b4", func := "loop.example/memorymanagers/laws.FnPaintStart", spec := "fnPaintStart", apart := false, narrowed := true }
def FnPaintStartUptoSaid : Prop := fnPaintStartUptoRow.holds Try.pinned (OpenSpec.upto fnPaintStartSpec)

/-- 'laws.FnPaintStep', WHERE WHAT IT READS IS OF BULK AT MOST 1048576: true; the input reads as it did. -/
def fnPaintStepUptoRow : OpenClaim := { program := "ytopbngfghpgbnaa", sum := "1e5dfbac94d46aceb6658c975ead330206ec9ee0e17eaa558bb9c3941fe4b6b4", func := "loop.example/memorymanagers/laws.FnPaintStep", spec := "fnPaintStep", apart := false, narrowed := true }
def FnPaintStepUptoSaid : Prop := fnPaintStepUptoRow.holds Try.pinned (OpenSpec.upto fnPaintStepSpec)

/-- 'laws.FnPaintCommand', WHERE WHAT IT READS IS OF BULK AT MOST 1048576: true; the input reads as it did. -/
def fnPaintCommandUptoRow : OpenClaim := { program := "ytopbngfghpgbnaa", sum := "1e5dfbac94d46aceb6658c975ead330206ec9ee0e17eaa558bb9c3941fe4b6b4", func := "loop.example/memorymanagers/laws.FnPaintCommand", spec := "fnPaintCommand", unfollowed := true, recurses := true, apart := false, narrowed := true }
def FnPaintCommandUptoSaid : Prop := fnPaintCommandUptoRow.holds Try.pinned (OpenSpec.upto fnPaintCommandSpec)

/-- 'laws.FnPaintFinish', WHERE WHAT IT READS IS OF BULK AT MOST 1048576: true; the input reads as it did. -/
def fnPaintFinishUptoRow : OpenClaim := { program := "ytopbngfghpgbnaa", sum := "1e5dfbac94d46aceb6658c975ead330206ec9ee0e17eaa558bb9c3941fe4b6b4", func := "loop.example/memorymanagers/laws.FnPaintFinish", spec := "fnPaintFinish", unfollowed := true, recurses := true, apart := false, narrowed := true }
def FnPaintFinishUptoSaid : Prop := fnPaintFinishUptoRow.holds Try.pinned (OpenSpec.upto fnPaintFinishSpec)

/-- 'laws.FnPaintEarly', WHERE WHAT IT READS IS OF BULK AT MOST 1048576: true; the input reads as it did. -/
def fnPaintEarlyUptoRow : OpenClaim := { program := "ytopbngfghpgbnaa", sum := "1e5dfbac94d46aceb6658c975ead330206ec9ee0e17eaa558bb9c3941fe4b6b4", func := "loop.example/memorymanagers/laws.FnPaintEarly", spec := "fnPaintEarly", apart := false, narrowed := true }
def FnPaintEarlyUptoSaid : Prop := fnPaintEarlyUptoRow.holds Try.pinned (OpenSpec.upto fnPaintEarlySpec)

/-- 'laws.FnRunPaint', WHERE WHAT IT READS IS OF BULK AT MOST 1048576: true; the input reads as it did. -/
def fnRunPaintUptoRow : OpenClaim := { program := "ytopbngfghpgbnaa", sum := "1e5dfbac94d46aceb6658c975ead330206ec9ee0e17eaa558bb9c3941fe4b6b4", func := "loop.example/memorymanagers/laws.FnRunPaint", spec := "fnRunPaint", unfollowed := true, recurses := true, apart := false, narrowed := true }
def FnRunPaintUptoSaid : Prop := fnRunPaintUptoRow.holds Try.pinned (OpenSpec.upto fnRunPaintSpec)

/-- 'laws.FnAgedValid', WHERE WHAT IT READS IS OF BULK AT MOST 1048576: true; the input reads as it did. -/
def fnAgedValidUptoRow : OpenClaim := { program := "ytopbngfghpgbnaa", sum := "1e5dfbac94d46aceb6658c975ead330206ec9ee0e17eaa558bb9c3941fe4b6b4", func := "loop.example/memorymanagers/laws.FnAgedValid", spec := "fnAgedValid", apart := false, narrowed := true }
def FnAgedValidUptoSaid : Prop := fnAgedValidUptoRow.holds Try.pinned (OpenSpec.upto fnAgedValidSpec)

/-- 'laws.FnStepAged', WHERE WHAT IT READS IS OF BULK AT MOST 1048576: true; the input reads as it did. -/
def fnStepAgedUptoRow : OpenClaim := { program := "ytopbngfghpgbnaa", sum := "1e5dfbac94d46aceb6658c975ead330206ec9ee0e17eaa558bb9c3941fe4b6b4", func := "loop.example/memorymanagers/laws.FnStepAged", spec := "fnStepAged", unfollowed := true, recurses := true, apart := false, narrowed := true }
def FnStepAgedUptoSaid : Prop := fnStepAgedUptoRow.holds Try.pinned (OpenSpec.upto fnStepAgedSpec)

/-- 'laws.FnCollectYoung', WHERE WHAT IT READS IS OF BULK AT MOST 1048576: true; the input reads as it did. -/
def fnCollectYoungUptoRow : OpenClaim := { program := "ytopbngfghpgbnaa", sum := "1e5dfbac94d46aceb6658c975ead330206ec9ee0e17eaa558bb9c3941fe4b6b4", func := "loop.example/memorymanagers/laws.FnCollectYoung", spec := "fnCollectYoung", unfollowed := true, recurses := true, apart := false, narrowed := true }
def FnCollectYoungUptoSaid : Prop := fnCollectYoungUptoRow.holds Try.pinned (OpenSpec.upto fnCollectYoungSpec)

/-- 'laws.FnCollectAged', WHERE WHAT IT READS IS OF BULK AT MOST 1048576: true; the input reads as it did. -/
def fnCollectAgedUptoRow : OpenClaim := { program := "ytopbngfghpgbnaa", sum := "1e5dfbac94d46aceb6658c975ead330206ec9ee0e17eaa558bb9c3941fe4b6b4", func := "loop.example/memorymanagers/laws.FnCollectAged", spec := "fnCollectAged", unfollowed := true, recurses := true, apart := false, narrowed := true }
def FnCollectAgedUptoSaid : Prop := fnCollectAgedUptoRow.holds Try.pinned (OpenSpec.upto fnCollectAgedSpec)

/-- 'laws.FnRunAged', WHERE WHAT IT READS IS OF BULK AT MOST 1048576: true; the input reads as it did. -/
def fnRunAgedUptoRow : OpenClaim := { program := "ytopbngfghpgbnaa", sum := "1e5dfbac94d46aceb6658c975ead330206ec9ee0e17eaa558bb9c3941fe4b6b4", func := "loop.example/memorymanagers/laws.FnRunAged", spec := "fnRunAged", unfollowed := true, recurses := true, apart := false, narrowed := true }
def FnRunAgedUptoSaid : Prop := fnRunAgedUptoRow.holds Try.pinned (OpenSpec.upto fnRunAgedSpec)

end Rows
end Go.Proofs.Ytopbngfghpgbnaa
