/-
  No cell of these rows narrows 'for every input' (looked for: loops, veiled, ifaces, maps, wideKeys, modest, calm, conditions, laid).
  DERIVED. THE GIVEN ROWS OF THIS SEAT. 3 by the template 'for every input the law returns true; each argument reads behind the call as it read before'; 0 by the template 'total and deterministic' (their statements: YtpkdocbbajmihaaTotals.lean).
  GIVEN WITH THE SEED: the statements are not yours to turn. If you find one false, say at which input.
  Laid BY PROGRAM, IN A SANDBOX (cutbox-rows.mjs): the forced cells as the released guide's own fill.sh prints them over the translation 55008931a9d02ee3… (all of the seat's roots in one cut). By AI agents, Wed Nov 11 2026. No macro, syntax, notation, axiom, sorry.
-/
import Derived.Test.YtpkdocbbajmihaaChecked
import GoSem.Claim
import GoSem.ClaimJoined
import GoSem.ClaimMapViews
import Derived.JoinedTies
import Derived.KernelRfl
namespace Go.Proofs.Ytpkdocbbajmihaa
/- THE CELL 'sum', in the pinned program and in every row, IS THE sha256 OF THE DUMP (.gsa) THAT YtpkdocbbajmihaaProg.lean LOADS. Nothing in Lean hashes anything: it is a label: what it is worth is what the hold of that sum in a sandbox is worth. -/
noncomputable def Try.pinned : Pinned := { name := "ytpkdocbbajmihaa", sum := "55008931a9d02ee35a524ab3f384cfa5099f3bf83c7cbb7700324af7aab57d6d", checked := Try.checked }
namespace Rows
def none {H : Type} : Left H := { results := [], args := [] }

/-- 'laws.FnExactPaintValid': WHATEVER THE INPUT: true; the input reads as it did. -/
def fnExactPaintValidSpec : ChangeSpec := { name := "fnExactPaintValid", fn := fun _ => fun
  | [d] => { results := [.lit (.bool true)], args := [d] }
  | _ => none }
def fnExactPaintValidRow : OpenClaim := { program := "ytpkdocbbajmihaa", sum := "55008931a9d02ee35a524ab3f384cfa5099f3bf83c7cbb7700324af7aab57d6d", func := "loop.example/memorymanagers/laws.FnExactPaintValid", spec := "fnExactPaintValid", apart := false }
def FnExactPaintValidSaid : Prop := fnExactPaintValidRow.holds Try.pinned (OpenSpec.ofChange fnExactPaintValidSpec)

/-- ITS FALSE NEIGHBOUR: 'it returns false'. Refute it at one input. -/
def fnExactPaintValidWrong : ChangeSpec := { name := "fnExactPaintValid", fn := fun _ => fun
  | [d] => { results := [.lit (.bool false)], args := [d] }
  | _ => none }
def FnExactPaintValidWrongFalsely : Prop := fnExactPaintValidRow.holds Try.pinned (OpenSpec.ofChange fnExactPaintValidWrong)

/-- 'laws.FnExactSnapValid': WHATEVER THE INPUT: true; the input reads as it did. -/
def fnExactSnapValidSpec : ChangeSpec := { name := "fnExactSnapValid", fn := fun _ => fun
  | [d] => { results := [.lit (.bool true)], args := [d] }
  | _ => none }
def fnExactSnapValidRow : OpenClaim := { program := "ytpkdocbbajmihaa", sum := "55008931a9d02ee35a524ab3f384cfa5099f3bf83c7cbb7700324af7aab57d6d", func := "loop.example/memorymanagers/laws.FnExactSnapValid", spec := "fnExactSnapValid", apart := false }
def FnExactSnapValidSaid : Prop := fnExactSnapValidRow.holds Try.pinned (OpenSpec.ofChange fnExactSnapValidSpec)

/-- ITS FALSE NEIGHBOUR: 'it returns false'. Refute it at one input. -/
def fnExactSnapValidWrong : ChangeSpec := { name := "fnExactSnapValid", fn := fun _ => fun
  | [d] => { results := [.lit (.bool false)], args := [d] }
  | _ => none }
def FnExactSnapValidWrongFalsely : Prop := fnExactSnapValidRow.holds Try.pinned (OpenSpec.ofChange fnExactSnapValidWrong)

/-- 'laws.FnExactAgedValid': WHATEVER THE INPUT: true; the input reads as it did. -/
def fnExactAgedValidSpec : ChangeSpec := { name := "fnExactAgedValid", fn := fun _ => fun
  | [d] => { results := [.lit (.bool true)], args := [d] }
  | _ => none }
def fnExactAgedValidRow : OpenClaim := { program := "ytpkdocbbajmihaa", sum := "55008931a9d02ee35a524ab3f384cfa5099f3bf83c7cbb7700324af7aab57d6d", func := "loop.example/memorymanagers/laws.FnExactAgedValid", spec := "fnExactAgedValid", apart := false }
def FnExactAgedValidSaid : Prop := fnExactAgedValidRow.holds Try.pinned (OpenSpec.ofChange fnExactAgedValidSpec)

/-- ITS FALSE NEIGHBOUR: 'it returns false'. Refute it at one input. -/
def fnExactAgedValidWrong : ChangeSpec := { name := "fnExactAgedValid", fn := fun _ => fun
  | [d] => { results := [.lit (.bool false)], args := [d] }
  | _ => none }
def FnExactAgedValidWrongFalsely : Prop := fnExactAgedValidRow.holds Try.pinned (OpenSpec.ofChange fnExactAgedValidWrong)

/- THE SECOND FORM. 'bulk': how many values and letters a reading holds, each counted each time it is reached (what is shared counts as often as it is met; a slice's spare places count too). A statement '..UptoSaid' is the law's where the arguments, and the package variables that the reading takes, are together of bulk at most 1048576: NARROWER than '..Said'. Prove '..Said' where nothing that the law and all that it calls make is longer than what came in: it says more and counts as full. Else prove '..UptoSaid'. A law counts once. -/
mutual
def uptoBulk {H : Type} : DataW H → Nat
  | .lit (.string bytes) => bytes.length + 1
  | .lit _ => 1
  | .nil => 1
  | .ptr d => uptoBulk d + 1
  | .slice elems spare => uptoBulkAll elems + uptoBulkAll spare + 1
  | .agg parts => uptoBulkAll parts + 1
  | .iface _ d => uptoBulk d + 1
  | .map entries => uptoBulkEntries entries + 1
  | .held _ => 1
def uptoBulkAll {H : Type} : List (DataW H) → Nat
  | [] => 0
  | d :: r => uptoBulk d + uptoBulkAll r
def uptoBulkEntries {H : Type} : List (Lit × DataW H) → Nat
  | [] => 0
  | x :: r => uptoBulkEntry x + uptoBulkEntries r
def uptoBulkEntry {H : Type} : Lit × DataW H → Nat
  | (.string bytes, d) => bytes.length + uptoBulk d + 1
  | (_, d) => uptoBulk d + 1
 end
def uptoSmall : (H : Type) → List (DataW H) → Bool := fun _ ds => decide (uptoBulkAll ds ≤ 1048576)
def OpenSpec.upto (s : _root_.Go.ChangeSpec) : _root_.Go.OpenSpec := { _root_.Go.OpenSpec.ofChange s with cond := some uptoSmall }

/-- 'laws.FnExactPaintValid', WHERE WHAT IT READS IS OF BULK AT MOST 1048576: true; the input reads as it did. -/
def fnExactPaintValidUptoRow : OpenClaim := { program := "ytpkdocbbajmihaa", sum := "55008931a9d02ee35a524ab3f384cfa5099f3bf83c7cbb7700324af7aab57d6d", func := "loop.example/memorymanagers/laws.FnExactPaintValid", spec := "fnExactPaintValid", apart := false, narrowed := true }
def FnExactPaintValidUptoSaid : Prop := fnExactPaintValidUptoRow.holds Try.pinned (OpenSpec.upto fnExactPaintValidSpec)

/-- 'laws.FnExactSnapValid', WHERE WHAT IT READS IS OF BULK AT MOST 1048576: true; the input reads as it did. -/
def fnExactSnapValidUptoRow : OpenClaim := { program := "ytpkdocbbajmihaa", sum := "55008931a9d02ee35a524ab3f384cfa5099f3bf83c7cbb7700324af7aab57d6d", func := "loop.example/memorymanagers/laws.FnExactSnapValid", spec := "fnExactSnapValid", apart := false, narrowed := true }
def FnExactSnapValidUptoSaid : Prop := fnExactSnapValidUptoRow.holds Try.pinned (OpenSpec.upto fnExactSnapValidSpec)

/-- 'laws.FnExactAgedValid', WHERE WHAT IT READS IS OF BULK AT MOST 1048576: true; the input reads as it did. -/
def fnExactAgedValidUptoRow : OpenClaim := { program := "ytpkdocbbajmihaa", sum := "55008931a9d02ee35a524ab3f384cfa5099f3bf83c7cbb7700324af7aab57d6d", func := "loop.example/memorymanagers/laws.FnExactAgedValid", spec := "fnExactAgedValid", apart := false, narrowed := true }
def FnExactAgedValidUptoSaid : Prop := fnExactAgedValidUptoRow.holds Try.pinned (OpenSpec.upto fnExactAgedValidSpec)

end Rows
end Go.Proofs.Ytpkdocbbajmihaa
