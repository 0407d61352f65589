/- What the laws draw: an instruction. -/
import Derived.Test.YtngmkflmjjkjaaaChecked
import Derived.Deep.QuietTactic
import Derived.BigQuiet
import Derived.IntWalk
import Derived.Test.YtngmkflmjjkjaaaGrDraw
import Derived.Test.YtngmkflmjjkjaaaCtx
namespace Go.Proofs.Ytngmkflmjjkjaaa
open Go.RowKit
set_option maxRecDepth 100000
set_option linter.unusedSimpArgs false
set_option linter.unusedVariables false
set_option maxHeartbeats 4000000 in
theorem drawCommandValid_any (C : Option Addr) (bs : List Int) (c : Nat) (w : World) (hr : RF fu w C bs) (hb : ∀ x ∈ bs, 0 ≤ x ∧ x < 256) (hc : bs.length ≤ c) (hc2 : c ≤ 9223372036854775807) :
    Calls Try.prog 34 #[.slice C bs.length c] w fun e w' => ∃ o, e = .returned (cmdV o) ∧ Below w.heap.size w w' := by
  go_enter Try.func34, Try.ntmps34
  go_wp2_with fail
  refine Calls.gen (fun W => Bx W w.heap.size [.int .i64 0, .int .i64 0, .int .i64 0, .int .i64 0] ∧ Below w.heap.size w W ∧ RF fu W C bs) ⟨Bx.new w [.int .i64 0, .int .i64 0, .int .i64 0, .int .i64 0] 36, blw_, hr.below blw_⟩ ?_
  clear hr
  rintro W0 ⟨X2, HB, hr⟩
  have zB := HB.size
  have hw0 := X2.lt
  (with_reducible refine (l20Open_any C bs c _ hr hb hc hc2).mono ?_); rintro e w1 ⟨g, rfl, HR, hB⟩
  have X2 := X2.below hB
  have HB := HB.trans (hB.mono zB)
  have hg := HR.lt
  clear hB hr zB
  go_wp2_with fail
  (with_reducible refine (l20Command_any W0.heap.size g 1000 2 _ (HR.le (by omega)) (by omega) (by omega)).mono ?_); rintro e w2 ⟨o, rfl, -, hO, -⟩
  have X2 := X2.only hO (by simp; omega)
  have HB := HB.trans (hO.below (B := w.heap.size) HB.size (by simp; omega))
  clear hO HR
  have q0 := X2.c 0 _ rfl
  have q1 := X2.c 1 _ rfl
  have q2 := X2.c 2 _ rfl
  have q3 := X2.c 3 _ rfl
  have qf0 := X2.f 0
  have qf1 := X2.f 1
  have qf2 := X2.f 2
  have qf3 := X2.f 3
  simp only [cmdV]
  go_wp2_with fail
  refine bodyPost_ret (v := cmdV o) (by simp [results, Try.results34, go_sem, q0, q1, q2, q3, cmdV]) rfl ⟨o, rfl, blw_⟩
end Go.Proofs.Ytngmkflmjjkjaaa
