/- FnCommandPossible: the law's call returns true. -/
import Derived.Test.YtngmkflmjjkjaaaChecked
import Derived.Deep.QuietTactic
import Derived.BigQuiet
import Derived.Deep.RegionWith
import Derived.Test.YtngmkflmjjkjaaaDrawA
import Derived.Test.YtngmkflmjjkjaaaGrSame
import Derived.Test.YtngmkflmjjkjaaaCtx
import Derived.Test.YtngmkflmjjkjaaaStepH
import Derived.Test.YtngmkflmjjkjaaaGrCmd
import Derived.Test.YtngmkflmjjkjaaaGrIso
namespace Go.Proofs.Ytngmkflmjjkjaaa
open Go.RowKit
set_option maxRecDepth 100000
set_option linter.unusedSimpArgs false
set_option linter.unusedVariables false
set_option maxHeartbeats 4000000 in
theorem walkCommandPossible (C : Option Addr) (bs : List Int) (c : Nat) (w : World) (hr : RF fu w C bs) (hb : ∀ x ∈ bs, 0 ≤ x ∧ x < 256) (hc : bs.length ≤ c) (hc2 : c ≤ 9223372036854775807) :
    Calls Try.prog 4 #[.slice C bs.length c] w fun e w' => e = .returned (.bool true) ∧ Below w.heap.size w w' := by
  by_cases hbig : 1048576 < bs.length
  · go_enter Try.func4, Try.ntmps4
    go_wp2
    go_ret
    exact ⟨rfl, (by repeat (first | ((with_reducible refine Below.setc ?_ ?_ _); focus (first | omega | (simp; done) | (simp; omega))) | ((with_reducible refine Below.allocc ?_ ?_ _); focus (first | omega | (simp; done) | (simp; omega))) | (with_reducible refine Below.drew ?_) | (with_reducible refine Below.drewn ?_) | (with_reducible assumption) | (with_reducible exact Below.refl _ _) | ((with_reducible refine Below.stepp (by with_reducible assumption) ?_ ?_); focus (first | omega | (simp; done) | (simp; omega)))))⟩
  go_enter Try.func4, Try.ntmps4
  go_wp2_with fail
  (with_reducible refine (drawCommandPossible_any C bs c _ hr hb hc hc2).mono ?_); rintro e w1 ⟨v, h, o, rfl, hV, hB⟩
  obtain ⟨A, n, A', n', rfl⟩ := hV.parts
  have zB := hB.size
  have HLaw := Lib.hid (law_CommandPossible h o)
  clear hr hb
  simp only [cmdV]
  go_wp2_with fail
  refine Calls.gen (fun W => Below w.heap.size w W ∧ RH W (.agg #[.slice A h.cells.length n, .slice A' h.roots.length n']) h ∧ Bx W w1.heap.size [.slice A h.cells.length n, .slice A' h.roots.length n'] ∧ Bx W (w1.heap.size + 1) [.int .i64 o.op, .int .i64 o.a, .int .i64 o.b, .int .i64 o.c]) ⟨(by repeat (first | ((with_reducible refine Below.setc ?_ ?_ _); focus (first | omega | (simp; done) | (simp; omega))) | ((with_reducible refine Below.allocc ?_ ?_ _); focus (first | omega | (simp; done) | (simp; omega))) | (with_reducible refine Below.drew ?_) | (with_reducible refine Below.drewn ?_) | (with_reducible assumption) | (with_reducible exact Below.refl _ _) | ((with_reducible refine Below.stepp (by with_reducible assumption) ?_ ?_); focus (first | omega | (simp; done) | (simp; omega))))), hV.below (by repeat (first | ((with_reducible refine Below.setc ?_ ?_ _); focus (first | omega | (simp; done) | (simp; omega))) | ((with_reducible refine Below.allocc ?_ ?_ _); focus (first | omega | (simp; done) | (simp; omega))) | (with_reducible refine Below.drew ?_) | (with_reducible refine Below.drewn ?_) | (with_reducible assumption) | (with_reducible exact Below.refl _ _) | ((with_reducible refine Below.stepp (by with_reducible assumption) ?_ ?_); focus (first | omega | (simp; done) | (simp; omega))))), (Bx.new w1 [.slice A h.cells.length n, .slice A' h.roots.length n'] 28).below (by repeat (first | ((with_reducible refine Below.setc ?_ ?_ _); focus (first | omega | (simp; done) | (simp; omega))) | ((with_reducible refine Below.allocc ?_ ?_ _); focus (first | omega | (simp; done) | (simp; omega))) | (with_reducible refine Below.drew ?_) | (with_reducible refine Below.drewn ?_) | (with_reducible assumption) | (with_reducible exact Below.refl _ _) | ((with_reducible refine Below.stepp (by with_reducible assumption) ?_ ?_); focus (first | omega | (simp; done) | (simp; omega))))), by simpa using Bx.new (w1.alloc (.cells #[.slice A h.cells.length n, .slice A' h.roots.length n'] 28)) [.int .i64 o.op, .int .i64 o.a, .int .i64 o.b, .int .i64 o.c] 36⟩ ?_
  obtain ⟨bc, hbc⟩ : ∃ x, Hid (x = w1.heap.size + 1) := ⟨_, rfl⟩
  rw [← hbc.out]
  generalize w1.heap.size = bh
  clear hB hV zB hbc
  rintro W ⟨HB, HV, HH, HC⟩
  (with_reducible refine (implCommandPossible_any _ h o _ HV).mono ?_); rintro e w2 ⟨rfl, hB⟩
  have HB := HB.trans (hB.mono HB.size)
  have HV := HV.below hB
  have HH := HH.below hB
  have HC := HC.below hB
  clear hB
  have c0 := HH.c 0 _ rfl
  have c1 := HH.c 1 _ rfl
  have d0 := HC.c 0 _ rfl
  have d1 := HC.c 1 _ rfl
  have d2 := HC.c 2 _ rfl
  have d3 := HC.c 3 _ rfl
  go_wp2_with fail
  (with_reducible refine (specCommandPossible_any _ h o _ HV).mono ?_); rintro e w2 ⟨rfl, hB⟩
  have HB := HB.trans (hB.mono HB.size)
  have HV := HV.below hB
  have HH := HH.below hB
  have HC := HC.below hB
  clear hB c0 c1 d0 d1 d2 d3
  have c0 := HH.c 0 _ rfl
  have c1 := HH.c 1 _ rfl
  have d0 := HC.c 0 _ rfl
  have d1 := HC.c 1 _ rfl
  have d2 := HC.c 2 _ rfl
  have d3 := HC.c 3 _ rfl
  go_wp2_with fail
  (with_reducible refine (implStepHeap_any _ h o _ HV).mono ?_); rintro e w2 ⟨v2, rfl, oH, hB⟩
  obtain ⟨A2, n2, A2', n2', rfl⟩ := oH.rh.parts
  have HB := HB.trans (hB.mono HB.size)
  have zB := HB.size
  have HV := HV.below hB
  have HH := HH.below hB
  have HC := HC.below hB
  rw [HLaw.out]
  clear hB c0 c1 d0 d1 d2 d3 oH HV
  go_upto_region 8 with fail
  refine Code.gen (fun W => Below w.heap.size w W ∧ Bx W bh [.slice A h.cells.length n, .slice A' h.roots.length n'] ∧ Bx W bc [.int .i64 o.op, .int .i64 o.a, .int .i64 o.b, .int .i64 o.c]) ⟨(by repeat (first | ((with_reducible refine Below.setc ?_ ?_ _); focus (first | omega | (simp; done) | (simp; omega))) | ((with_reducible refine Below.allocc ?_ ?_ _); focus (first | omega | (simp; done) | (simp; omega))) | (with_reducible refine Below.drew ?_) | (with_reducible refine Below.drewn ?_) | (with_reducible assumption) | (with_reducible exact Below.refl _ _) | ((with_reducible refine Below.stepp (by with_reducible assumption) ?_ ?_); focus (first | omega | (simp; done) | (simp; omega))))), HH.below (by repeat (first | ((with_reducible refine Below.setc ?_ ?_ _); focus (first | omega | (simp; done) | (simp; omega))) | ((with_reducible refine Below.allocc ?_ ?_ _); focus (first | omega | (simp; done) | (simp; omega))) | (with_reducible refine Below.drew ?_) | (with_reducible refine Below.drewn ?_) | (with_reducible assumption) | (with_reducible exact Below.refl _ _) | ((with_reducible refine Below.stepp (by with_reducible assumption) ?_ ?_); focus (first | omega | (simp; done) | (simp; omega))))), HC.below (by repeat (first | ((with_reducible refine Below.setc ?_ ?_ _); focus (first | omega | (simp; done) | (simp; omega))) | ((with_reducible refine Below.allocc ?_ ?_ _); focus (first | omega | (simp; done) | (simp; omega))) | (with_reducible refine Below.drew ?_) | (with_reducible refine Below.drewn ?_) | (with_reducible assumption) | (with_reducible exact Below.refl _ _) | ((with_reducible refine Below.stepp (by with_reducible assumption) ?_ ?_); focus (first | omega | (simp; done) | (simp; omega)))))⟩ ?_
  clear HB HH HC zB
  rintro W ⟨HB, HH, HC⟩
  have c0 := HH.c 0 _ rfl
  have c1 := HH.c 1 _ rfl
  have d0 := HC.c 0 _ rfl
  have zB := HB.size
  clear HH HC
  rcases bool_ft (possM h o) with hp | hp
  · rw [hp]
    simp only [Bool.false_and]
    go_wp2_with fail
    (with_reducible refine (alive_any _).mono ?_); rintro e w3 ⟨rfl, hB⟩
    have zb := hB.size
    go_wp2_with fail
    go_ret
    exact ⟨rfl, (by repeat (first | ((with_reducible refine Below.setc ?_ ?_ _); focus (first | omega | (simp; done) | (simp; omega))) | ((with_reducible refine Below.allocc ?_ ?_ _); focus (first | omega | (simp; done) | (simp; omega))) | (with_reducible refine Below.drew ?_) | (with_reducible refine Below.drewn ?_) | (with_reducible assumption) | (with_reducible exact Below.refl _ _) | ((with_reducible refine Below.stepp (by with_reducible assumption) ?_ ?_); focus (first | omega | (simp; done) | (simp; omega)))))⟩
  · rw [hp]
    simp only [Bool.true_and]
    by_cases h1 : o.op = 1
    · by_cases h4 : h.cells.length < 40
      · have h4i : (h.cells.length : Int) < 40 := by omega
        rw [h1] at d0
        simp only [h1, h4, decide_true, Bool.not_true, Bool.or_true, Bool.false_or]
        go_wp2_with fail
        (with_reducible refine (alive_any _).mono ?_); rintro e w3 ⟨rfl, hB⟩
        have zb := hB.size
        go_wp2_with fail
        go_ret
        exact ⟨rfl, (by repeat (first | ((with_reducible refine Below.setc ?_ ?_ _); focus (first | omega | (simp; done) | (simp; omega))) | ((with_reducible refine Below.allocc ?_ ?_ _); focus (first | omega | (simp; done) | (simp; omega))) | (with_reducible refine Below.drew ?_) | (with_reducible refine Below.drewn ?_) | (with_reducible assumption) | (with_reducible exact Below.refl _ _) | ((with_reducible refine Below.stepp (by with_reducible assumption) ?_ ?_); focus (first | omega | (simp; done) | (simp; omega)))))⟩
      · have h4i : ¬ (h.cells.length : Int) < 40 := by omega
        rw [h1] at d0
        simp only [h1, h4, decide_true, decide_false, Bool.not_true, Bool.or_false, Bool.false_or]
        go_wp2_with fail
        (with_reducible refine (alive_any _).mono ?_); rintro e w3 ⟨rfl, hB⟩
        have zb := hB.size
        go_wp2_with fail
        go_ret
        exact ⟨rfl, (by repeat (first | ((with_reducible refine Below.setc ?_ ?_ _); focus (first | omega | (simp; done) | (simp; omega))) | ((with_reducible refine Below.allocc ?_ ?_ _); focus (first | omega | (simp; done) | (simp; omega))) | (with_reducible refine Below.drew ?_) | (with_reducible refine Below.drewn ?_) | (with_reducible assumption) | (with_reducible exact Below.refl _ _) | ((with_reducible refine Below.stepp (by with_reducible assumption) ?_ ?_); focus (first | omega | (simp; done) | (simp; omega)))))⟩
    · have h1b : (o.op != 1) = true := by simp [h1]
      simp only [h1, decide_false, Bool.not_false, Bool.true_or]
      go_wp2_with fail
      (with_reducible refine (alive_any _).mono ?_); rintro e w3 ⟨rfl, hB⟩
      have zb := hB.size
      go_wp2_with fail
      go_ret
      exact ⟨rfl, (by repeat (first | ((with_reducible refine Below.setc ?_ ?_ _); focus (first | omega | (simp; done) | (simp; omega))) | ((with_reducible refine Below.allocc ?_ ?_ _); focus (first | omega | (simp; done) | (simp; omega))) | (with_reducible refine Below.drew ?_) | (with_reducible refine Below.drewn ?_) | (with_reducible assumption) | (with_reducible exact Below.refl _ _) | ((with_reducible refine Below.stepp (by with_reducible assumption) ?_ ?_); focus (first | omega | (simp; done) | (simp; omega)))))⟩
end Go.Proofs.Ytngmkflmjjkjaaa
