/-
  No cell of these rows narrows 'for every input' (looked for: loops, veiled, ifaces, maps, wideKeys, modest, calm, conditions, laid).
  DERIVED. THE GIVEN ROWS OF THIS SEAT. 5 by the template 'for every input the law returns true; each argument reads behind the call as it read before'; 0 by the template 'total and deterministic' (their statements: YtbnokkdhanlhpaaTotals.lean).
  GIVEN WITH THE SEED: the statements are not yours to turn. If you find one false, say at which input.
  Laid BY PROGRAM, IN A SANDBOX (cutbox-rows.mjs): the forced cells as the released guide's own fill.sh prints them over the translation 758df6d3789050bb… (all of the seat's roots in one cut). By AI agents, Wed Nov 11 2026. No macro, syntax, notation, axiom, sorry.
-/
import Derived.Test.YtbnokkdhanlhpaaChecked
import GoSem.Claim
import GoSem.ClaimJoined
import GoSem.ClaimMapViews
import Derived.JoinedTies
import Derived.KernelRfl
namespace Go.Proofs.Ytbnokkdhanlhpaa
/- THE CELL 'sum', in the pinned program and in every row, IS THE sha256 OF THE DUMP (.gsa) THAT YtbnokkdhanlhpaaProg.lean LOADS. Nothing in Lean hashes anything: it is a label: what it is worth is what the hold of that sum in a sandbox is worth. -/
noncomputable def Try.pinned : Pinned := { name := "ytbnokkdhanlhpaa", sum := "758df6d3789050bbe1049baa3e7684632c9ea6970719324adeee9bd9fdee9bf4", checked := Try.checked }
namespace Rows
def none {H : Type} : Left H := { results := [], args := [] }

/-- 'laws.FnStepCounted': WHATEVER THE INPUT: true; the input reads as it did. -/
def fnStepCountedSpec : ChangeSpec := { name := "fnStepCounted", fn := fun _ => fun
  | [d] => { results := [.lit (.bool true)], args := [d] }
  | _ => none }
def fnStepCountedRow : OpenClaim := { program := "ytbnokkdhanlhpaa", sum := "758df6d3789050bbe1049baa3e7684632c9ea6970719324adeee9bd9fdee9bf4", func := "loop.example/memorymanagers/laws.FnStepCounted", spec := "fnStepCounted", unfollowed := true, recurses := true, apart := false }
def FnStepCountedSaid : Prop := fnStepCountedRow.holds Try.pinned (OpenSpec.ofChange fnStepCountedSpec)

/-- ITS FALSE NEIGHBOUR: 'it returns false'. Refute it at one input. -/
def fnStepCountedWrong : ChangeSpec := { name := "fnStepCounted", fn := fun _ => fun
  | [d] => { results := [.lit (.bool false)], args := [d] }
  | _ => none }
def FnStepCountedWrongFalsely : Prop := fnStepCountedRow.holds Try.pinned (OpenSpec.ofChange fnStepCountedWrong)

/-- 'laws.FnRunCounted': WHATEVER THE INPUT: true; the input reads as it did. -/
def fnRunCountedSpec : ChangeSpec := { name := "fnRunCounted", fn := fun _ => fun
  | [d] => { results := [.lit (.bool true)], args := [d] }
  | _ => none }
def fnRunCountedRow : OpenClaim := { program := "ytbnokkdhanlhpaa", sum := "758df6d3789050bbe1049baa3e7684632c9ea6970719324adeee9bd9fdee9bf4", func := "loop.example/memorymanagers/laws.FnRunCounted", spec := "fnRunCounted", unfollowed := true, recurses := true, apart := false }
def FnRunCountedSaid : Prop := fnRunCountedRow.holds Try.pinned (OpenSpec.ofChange fnRunCountedSpec)

/-- ITS FALSE NEIGHBOUR: 'it returns false'. Refute it at one input. -/
def fnRunCountedWrong : ChangeSpec := { name := "fnRunCounted", fn := fun _ => fun
  | [d] => { results := [.lit (.bool false)], args := [d] }
  | _ => none }
def FnRunCountedWrongFalsely : Prop := fnRunCountedRow.holds Try.pinned (OpenSpec.ofChange fnRunCountedWrong)

/-- 'laws.FnCountsComplete': WHATEVER THE INPUT: true; the input reads as it did. -/
def fnCountsCompleteSpec : ChangeSpec := { name := "fnCountsComplete", fn := fun _ => fun
  | [d] => { results := [.lit (.bool true)], args := [d] }
  | _ => none }
def fnCountsCompleteRow : OpenClaim := { program := "ytbnokkdhanlhpaa", sum := "758df6d3789050bbe1049baa3e7684632c9ea6970719324adeee9bd9fdee9bf4", func := "loop.example/memorymanagers/laws.FnCountsComplete", spec := "fnCountsComplete", unfollowed := true, recurses := true, apart := false }
def FnCountsCompleteSaid : Prop := fnCountsCompleteRow.holds Try.pinned (OpenSpec.ofChange fnCountsCompleteSpec)

/-- ITS FALSE NEIGHBOUR: 'it returns false'. Refute it at one input. -/
def fnCountsCompleteWrong : ChangeSpec := { name := "fnCountsComplete", fn := fun _ => fun
  | [d] => { results := [.lit (.bool false)], args := [d] }
  | _ => none }
def FnCountsCompleteWrongFalsely : Prop := fnCountsCompleteRow.holds Try.pinned (OpenSpec.ofChange fnCountsCompleteWrong)

/-- 'laws.FnExactStepCounted': WHATEVER THE INPUT: true; the input reads as it did. -/
def fnExactStepCountedSpec : ChangeSpec := { name := "fnExactStepCounted", fn := fun _ => fun
  | [d1, d2] => { results := [.lit (.bool true)], args := [d1, d2] }
  | _ => none }
def fnExactStepCountedRow : OpenClaim := { program := "ytbnokkdhanlhpaa", sum := "758df6d3789050bbe1049baa3e7684632c9ea6970719324adeee9bd9fdee9bf4", func := "loop.example/memorymanagers/laws.FnExactStepCounted", spec := "fnExactStepCounted", unfollowed := true, recurses := true, apart := false }
def FnExactStepCountedSaid : Prop := fnExactStepCountedRow.holds Try.pinned (OpenSpec.ofChange fnExactStepCountedSpec)

/-- ITS FALSE NEIGHBOUR: 'it returns false'. Refute it at one input. -/
def fnExactStepCountedWrong : ChangeSpec := { name := "fnExactStepCounted", fn := fun _ => fun
  | [d1, d2] => { results := [.lit (.bool false)], args := [d1, d2] }
  | _ => none }
def FnExactStepCountedWrongFalsely : Prop := fnExactStepCountedRow.holds Try.pinned (OpenSpec.ofChange fnExactStepCountedWrong)

/-- 'laws.FnExactRunCounted': WHATEVER THE INPUT: true; the input reads as it did. -/
def fnExactRunCountedSpec : ChangeSpec := { name := "fnExactRunCounted", fn := fun _ => fun
  | [d] => { results := [.lit (.bool true)], args := [d] }
  | _ => none }
def fnExactRunCountedRow : OpenClaim := { program := "ytbnokkdhanlhpaa", sum := "758df6d3789050bbe1049baa3e7684632c9ea6970719324adeee9bd9fdee9bf4", func := "loop.example/memorymanagers/laws.FnExactRunCounted", spec := "fnExactRunCounted", unfollowed := true, recurses := true, apart := false }
def FnExactRunCountedSaid : Prop := fnExactRunCountedRow.holds Try.pinned (OpenSpec.ofChange fnExactRunCountedSpec)

/-- ITS FALSE NEIGHBOUR: 'it returns false'. Refute it at one input. -/
def fnExactRunCountedWrong : ChangeSpec := { name := "fnExactRunCounted", fn := fun _ => fun
  | [d] => { results := [.lit (.bool false)], args := [d] }
  | _ => none }
def FnExactRunCountedWrongFalsely : Prop := fnExactRunCountedRow.holds Try.pinned (OpenSpec.ofChange fnExactRunCountedWrong)

/- THE SECOND FORM. 'bulk': how many values and letters a reading holds, each counted each time it is reached (what is shared counts as often as it is met; a slice's spare places count too). A statement '..UptoSaid' is the law's where the arguments, and the package variables that the reading takes, are together of bulk at most 1048576: NARROWER than '..Said'. Prove '..Said' where nothing that the law and all that it calls make is longer than what came in: it says more and counts as full. Else prove '..UptoSaid'. A law counts once. -/
mutual
def uptoBulk {H : Type} : DataW H → Nat
  | .lit (.string bytes) => bytes.length + 1
  | .lit _ => 1
  | .nil => 1
  | .ptr d => uptoBulk d + 1
  | .slice elems spare => uptoBulkAll elems + uptoBulkAll spare + 1
  | .agg parts => uptoBulkAll parts + 1
  | .iface _ d => uptoBulk d + 1
  | .map entries => uptoBulkEntries entries + 1
  | .held _ => 1
def uptoBulkAll {H : Type} : List (DataW H) → Nat
  | [] => 0
  | d :: r => uptoBulk d + uptoBulkAll r
def uptoBulkEntries {H : Type} : List (Lit × DataW H) → Nat
  | [] => 0
  | x :: r => uptoBulkEntry x + uptoBulkEntries r
def uptoBulkEntry {H : Type} : Lit × DataW H → Nat
  | (.string bytes, d) => bytes.length + uptoBulk d + 1
  | (_, d) => uptoBulk d + 1
 end
def uptoSmall : (H : Type) → List (DataW H) → Bool := fun _ ds => decide (uptoBulkAll ds ≤ 1048576)
def OpenSpec.upto (s : _root_.Go.ChangeSpec) : _root_.Go.OpenSpec := { _root_.Go.OpenSpec.ofChange s with cond := some uptoSmall }

/-- 'laws.FnStepCounted', WHERE WHAT IT READS IS OF BULK AT MOST 1048576: true; the input reads as it did. -/
def fnStepCountedUptoRow : OpenClaim := { program := "ytbnokkdhanlhpaa", sum := "758df6d3789050bbe1049baa3e7684632c9ea6970719324adeee9bd9fdee9bf4", func := "loop.example/memorymanagers/laws.FnStepCounted", spec := "fnStepCounted", unfollowed := true, recurses := true, apart := false, narrowed := true }
def FnStepCountedUptoSaid : Prop := fnStepCountedUptoRow.holds Try.pinned (OpenSpec.upto fnStepCountedSpec)

/-- 'laws.FnRunCounted', WHERE WHAT IT READS IS OF BULK AT MOST 1048576: true; the input reads as it did. -/
def fnRunCountedUptoRow : OpenClaim := { program := "ytbnokkdhanlhpaa", sum := "758df6d3789050bbe1049baa3e7684632c9ea6970719324adeee9bd9fdee9bf4", func := "loop.example/memorymanagers/laws.FnRunCounted", spec := "fnRunCounted", unfollowed := true, recurses := true, apart := false, narrowed := true }
def FnRunCountedUptoSaid : Prop := fnRunCountedUptoRow.holds Try.pinned (OpenSpec.upto fnRunCountedSpec)

/-- 'laws.FnCountsComplete', WHERE WHAT IT READS IS OF BULK AT MOST 1048576: true; the input reads as it did. -/
def fnCountsCompleteUptoRow : OpenClaim := { program := "ytbnokkdhanlhpaa", sum := "758df6d3789050bbe1049baa3e7684632c9ea6970719324adeee9bd9fdee9bf4", func := "loop.example/memorymanagers/laws.FnCountsComplete", spec := "fnCountsComplete", unfollowed := true, recurses := true, apart := false, narrowed := true }
def FnCountsCompleteUptoSaid : Prop := fnCountsCompleteUptoRow.holds Try.pinned (OpenSpec.upto fnCountsCompleteSpec)

/-- 'laws.FnExactStepCounted', WHERE WHAT IT READS IS OF BULK AT MOST 1048576: true; the input reads as it did. -/
def fnExactStepCountedUptoRow : OpenClaim := { program := "ytbnokkdhanlhpaa", sum := "758df6d3789050bbe1049baa3e7684632c9ea6970719324adeee9bd9fdee9bf4", func := "loop.example/memorymanagers/laws.FnExactStepCounted", spec := "fnExactStepCounted", unfollowed := true, recurses := true, apart := false, narrowed := true }
def FnExactStepCountedUptoSaid : Prop := fnExactStepCountedUptoRow.holds Try.pinned (OpenSpec.upto fnExactStepCountedSpec)

/-- 'laws.FnExactRunCounted', WHERE WHAT IT READS IS OF BULK AT MOST 1048576: true; the input reads as it did. -/
def fnExactRunCountedUptoRow : OpenClaim := { program := "ytbnokkdhanlhpaa", sum := "758df6d3789050bbe1049baa3e7684632c9ea6970719324adeee9bd9fdee9bf4", func := "loop.example/memorymanagers/laws.FnExactRunCounted", spec := "fnExactRunCounted", unfollowed := true, recurses := true, apart := false, narrowed := true }
def FnExactRunCountedUptoSaid : Prop := fnExactRunCountedUptoRow.holds Try.pinned (OpenSpec.upto fnExactRunCountedSpec)

end Rows
end Go.Proofs.Ytbnokkdhanlhpaa
