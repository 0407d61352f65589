/-
  No cell of these rows narrows 'for every input' (looked for: loops, veiled, ifaces, maps, wideKeys, modest, calm, conditions, laid).
  DERIVED. THE GIVEN ROWS OF THIS SEAT. 3 by the template 'for every input the law returns true; each argument reads behind the call as it read before'; 0 by the template 'total and deterministic' (their statements: YtmlgndeihfpfgaaTotals.lean).
  GIVEN WITH THE SEED: the statements are not yours to turn. If you find one false, say at which input.
  Laid BY PROGRAM, IN A SANDBOX (cutbox-rows.mjs): the forced cells as the released guide's own fill.sh prints them over the translation 7f73421cf53843f0… (all of the seat's roots in one cut). By AI agents, Wed Nov 11 2026. No macro, syntax, notation, axiom, sorry.
-/
import Derived.Test.YtmlgndeihfpfgaaChecked
import GoSem.Claim
import GoSem.ClaimJoined
import GoSem.ClaimMapViews
import Derived.JoinedTies
import Derived.KernelRfl
namespace Go.Proofs.Ytmlgndeihfpfgaa
/- THE CELL 'sum', in the pinned program and in every row, IS THE sha256 OF THE DUMP (.gsa) THAT YtmlgndeihfpfgaaProg.lean LOADS. Nothing in Lean hashes anything: it is a label: what it is worth is what the hold of that sum in a sandbox is worth. -/
noncomputable def Try.pinned : Pinned := { name := "ytmlgndeihfpfgaa", sum := "7f73421cf53843f0259a0d61f31e9fa393982702ea5e03010bedf4b1bb295371", checked := Try.checked }
namespace Rows
def none {H : Type} : Left H := { results := [], args := [] }

/-- 'laws.FnCopySlide': WHATEVER THE INPUT: true; the input reads as it did. -/
def fnCopySlideSpec : ChangeSpec := { name := "fnCopySlide", fn := fun _ => fun
  | [d] => { results := [.lit (.bool true)], args := [d] }
  | _ => none }
def fnCopySlideRow : OpenClaim := { program := "ytmlgndeihfpfgaa", sum := "7f73421cf53843f0259a0d61f31e9fa393982702ea5e03010bedf4b1bb295371", func := "loop.example/memorymanagers/laws.FnCopySlide", spec := "fnCopySlide", unfollowed := true, recurses := true, apart := false }
def FnCopySlideSaid : Prop := fnCopySlideRow.holds Try.pinned (OpenSpec.ofChange fnCopySlideSpec)

/-- ITS FALSE NEIGHBOUR: 'it returns false'. Refute it at one input. -/
def fnCopySlideWrong : ChangeSpec := { name := "fnCopySlide", fn := fun _ => fun
  | [d] => { results := [.lit (.bool false)], args := [d] }
  | _ => none }
def FnCopySlideWrongFalsely : Prop := fnCopySlideRow.holds Try.pinned (OpenSpec.ofChange fnCopySlideWrong)

/-- 'laws.FnPaintSweep': WHATEVER THE INPUT: true; the input reads as it did. -/
def fnPaintSweepSpec : ChangeSpec := { name := "fnPaintSweep", fn := fun _ => fun
  | [d] => { results := [.lit (.bool true)], args := [d] }
  | _ => none }
def fnPaintSweepRow : OpenClaim := { program := "ytmlgndeihfpfgaa", sum := "7f73421cf53843f0259a0d61f31e9fa393982702ea5e03010bedf4b1bb295371", func := "loop.example/memorymanagers/laws.FnPaintSweep", spec := "fnPaintSweep", unfollowed := true, recurses := true, apart := false }
def FnPaintSweepSaid : Prop := fnPaintSweepRow.holds Try.pinned (OpenSpec.ofChange fnPaintSweepSpec)

/-- ITS FALSE NEIGHBOUR: 'it returns false'. Refute it at one input. -/
def fnPaintSweepWrong : ChangeSpec := { name := "fnPaintSweep", fn := fun _ => fun
  | [d] => { results := [.lit (.bool false)], args := [d] }
  | _ => none }
def FnPaintSweepWrongFalsely : Prop := fnPaintSweepRow.holds Try.pinned (OpenSpec.ofChange fnPaintSweepWrong)

/-- 'laws.FnAgedFull': WHATEVER THE INPUT: true; the input reads as it did. -/
def fnAgedFullSpec : ChangeSpec := { name := "fnAgedFull", fn := fun _ => fun
  | [d] => { results := [.lit (.bool true)], args := [d] }
  | _ => none }
def fnAgedFullRow : OpenClaim := { program := "ytmlgndeihfpfgaa", sum := "7f73421cf53843f0259a0d61f31e9fa393982702ea5e03010bedf4b1bb295371", func := "loop.example/memorymanagers/laws.FnAgedFull", spec := "fnAgedFull", unfollowed := true, recurses := true, apart := false }
def FnAgedFullSaid : Prop := fnAgedFullRow.holds Try.pinned (OpenSpec.ofChange fnAgedFullSpec)

/-- ITS FALSE NEIGHBOUR: 'it returns false'. Refute it at one input. -/
def fnAgedFullWrong : ChangeSpec := { name := "fnAgedFull", fn := fun _ => fun
  | [d] => { results := [.lit (.bool false)], args := [d] }
  | _ => none }
def FnAgedFullWrongFalsely : Prop := fnAgedFullRow.holds Try.pinned (OpenSpec.ofChange fnAgedFullWrong)

/- THE SECOND FORM. 'bulk': how many values and letters a reading holds, each counted each time it is reached (what is shared counts as often as it is met; a slice's spare places count too). A statement '..UptoSaid' is the law's where the arguments, and the package variables that the reading takes, are together of bulk at most 1048576: NARROWER than '..Said'. Prove '..Said' where nothing that the law and all that it calls make is longer than what came in: it says more and counts as full. Else prove '..UptoSaid'. A law counts once. -/
mutual
def uptoBulk {H : Type} : DataW H → Nat
  | .lit (.string bytes) => bytes.length + 1
  | .lit _ => 1
  | .nil => 1
  | .ptr d => uptoBulk d + 1
  | .slice elems spare => uptoBulkAll elems + uptoBulkAll spare + 1
  | .agg parts => uptoBulkAll parts + 1
  | .iface _ d => uptoBulk d + 1
  | .map entries => uptoBulkEntries entries + 1
  | .held _ => 1
def uptoBulkAll {H : Type} : List (DataW H) → Nat
  | [] => 0
  | d :: r => uptoBulk d + uptoBulkAll r
def uptoBulkEntries {H : Type} : List (Lit × DataW H) → Nat
  | [] => 0
  | x :: r => uptoBulkEntry x + uptoBulkEntries r
def uptoBulkEntry {H : Type} : Lit × DataW H → Nat
  | (.string bytes, d) => bytes.length + uptoBulk d + 1
  | (_, d) => uptoBulk d + 1
 end
def uptoSmall : (H : Type) → List (DataW H) → Bool := fun _ ds => decide (uptoBulkAll ds ≤ 1048576)
def OpenSpec.upto (s : _root_.Go.ChangeSpec) : _root_.Go.OpenSpec := { _root_.Go.OpenSpec.ofChange s with cond := some uptoSmall }

/-- 'laws.FnCopySlide', WHERE WHAT IT READS IS OF BULK AT MOST 1048576: true; the input reads as it did. -/
def fnCopySlideUptoRow : OpenClaim := { program := "ytmlgndeihfpfgaa", sum := "7f73421cf53843f0259a0d61f31e9fa393982702ea5e03010bedf4b1bb295371", func := "loop.example/memorymanagers/laws.FnCopySlide", spec := "fnCopySlide", unfollowed := true, recurses := true, apart := false, narrowed := true }
def FnCopySlideUptoSaid : Prop := fnCopySlideUptoRow.holds Try.pinned (OpenSpec.upto fnCopySlideSpec)

/-- 'laws.FnPaintSweep', WHERE WHAT IT READS IS OF BULK AT MOST 1048576: true; the input reads as it did. -/
def fnPaintSweepUptoRow : OpenClaim := { program := "ytmlgndeihfpfgaa", sum := "7f73421cf53843f0259a0d61f31e9fa393982702ea5e03010bedf4b1bb295371", func := "loop.example/memorymanagers/laws.FnPaintSweep", spec := "fnPaintSweep", unfollowed := true, recurses := true, apart := false, narrowed := true }
def FnPaintSweepUptoSaid : Prop := fnPaintSweepUptoRow.holds Try.pinned (OpenSpec.upto fnPaintSweepSpec)

/-- 'laws.FnAgedFull', WHERE WHAT IT READS IS OF BULK AT MOST 1048576: true; the input reads as it did. -/
def fnAgedFullUptoRow : OpenClaim := { program := "ytmlgndeihfpfgaa", sum := "7f73421cf53843f0259a0d61f31e9fa393982702ea5e03010bedf4b1bb295371", func := "loop.example/memorymanagers/laws.FnAgedFull", spec := "fnAgedFull", unfollowed := true, recurses := true, apart := false, narrowed := true }
def FnAgedFullUptoSaid : Prop := fnAgedFullUptoRow.holds Try.pinned (OpenSpec.upto fnAgedFullSpec)

end Rows
end Go.Proofs.Ytmlgndeihfpfgaa
