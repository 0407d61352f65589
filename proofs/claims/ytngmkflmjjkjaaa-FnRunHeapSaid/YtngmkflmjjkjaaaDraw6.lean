/- What the laws draw: a program. -/
import Derived.Test.YtngmkflmjjkjaaaChecked
import Derived.Deep.QuietTactic
import Derived.BigQuiet
import Derived.Test.YtngmkflmjjkjaaaDraw5
namespace Go.Proofs.Ytngmkflmjjkjaaa
open Go.RowKit
set_option maxRecDepth 100000
set_option linter.unusedSimpArgs false
set_option linter.unusedVariables false
set_option maxHeartbeats 4000000 in
theorem drawRunHeap_any (C : Option Addr) (bs : List Int) (c : Nat) (w : World) (hr : RF fu w C bs) (hb : ∀ x ∈ bs, 0 ≤ x ∧ x < 256) (hc : bs.length ≤ c) (hc2 : c ≤ 9223372036854775807) :
    Calls Try.prog 15 #[.slice C bs.length c] w fun e w' => ∃ L S cS, e = .returned (.slice S (L : List CmdM).length cS) ∧ OO w' S cS L ∧ (∀ b ∈ blk S, w.heap.size ≤ b) ∧ L.length ≤ 41 ∧ Below w.heap.size w w' := by
  go_enter Try.func15, Try.ntmps15
  go_wp2_with fail
  (with_reducible refine (l20Open_any C bs c _ hr hb hc hc2).mono ?_); rintro e w1 ⟨g, rfl, hR, hB1⟩
  have HR := Lib.hid hR
  have hg := hR.lt
  have hz1 := hB1.size
  have HB1 := Lib.hid hB1
  clear hR hB1
  go_wp2_with fail
  (with_reducible refine (l20Program_any w.heap.size g 1000 14 _ (HR.out.le (by omega)) (by omega) (by omega)).mono ?_); rintro e w2 ⟨L, S, cS, rfl, hS, hSB, hL, -, hO, -⟩
  have HS := Lib.hid hS
  have HSB := Lib.hid hSB
  have HB2 : Hid (Below w.heap.size w w2) := HB1.out.trans (hO.below (by omega) (by simp; omega))
  clear hS hSB hO
  go_wp2_with fail
  go_ret
  exact ⟨L, S, cS, rfl, HS.out, fun b hb9 => Nat.le_trans hz1 (HSB.out b hb9), hL, HB2.out⟩
end Go.Proofs.Ytngmkflmjjkjaaa
