/- The reference's drawing: readers, instructions. -/
import Derived.Test.YtngmkflmjjkjaaaChecked
import Derived.Deep.QuietTactic
import Derived.BigQuiet
import Derived.IntWalk
import Derived.Deep.RegionWith
import Derived.Deep.DeepCutAuto
import Derived.Test.YtngmkflmjjkjaaaDraw1
import Derived.Test.YtngmkflmjjkjaaaGrData
namespace Go.Proofs.Ytngmkflmjjkjaaa
open Go.RowKit
set_option maxRecDepth 100000
set_option linter.unusedSimpArgs false
set_option linter.unusedVariables false
set_option maxHeartbeats 4000000 in
theorem odd_any (lo g K : Nat) (n : Int) (w : World) (h : Rd lo w g (K + 1)) (hn1 : 0 ≤ n) (hn2 : n ≤ 1048576) :
    Calls Try.prog 97 #[.pointer (some ⟨g, 0, none⟩), .int .i64 n] w fun e w' => ∃ b : Bool, e = .returned (.bool b) ∧ (n = 0 → b = false) ∧ Only [g] w w' ∧ Rd lo w' g K := by
  have H := Lib.hid h
  clear h
  by_cases h1 : n = 0
  · subst h1
    go_enter Try.func97, Try.ntmps97
    go_wp2
    go_ret
    exact ⟨false, rfl, fun _ => rfl, Only.refl _ _, H.out.le (by omega)⟩
  · have h2 : 0 < n := by omega
    go_enter Try.func97, Try.ntmps97
    go_wp2_with fail
    (with_reducible refine (pick_any lo g K n _ H.out (by omega) (by omega)).mono ?_)
    rintro e w1 ⟨k, rfl, -, -, hOn, hR⟩
    have HOn := Lib.hid hOn
    have HR := Lib.hid hR
    clear hOn hR
    go_wp2_with fail
    go_ret
    exact ⟨_, rfl, fun h9 => absurd h9 h1, HOn.out, HR.out⟩
set_option maxHeartbeats 4000000 in
theorem l20Open_any (C : Option Addr) (bs : List Int) (c : Nat) (w : World) (hr : RF fu w C bs) (hb : ∀ x ∈ bs, 0 ≤ x ∧ x < 256) (hc : bs.length ≤ c) (hc2 : c ≤ 9223372036854775807) :
    Calls Try.prog 55 #[.slice C bs.length c] w fun e w' => ∃ g, e = .returned (.pointer (some ⟨g, 0, none⟩)) ∧ Rd w.heap.size w' g 1048576 ∧ Below w.heap.size w w' := by
  have hfar : ∀ b o, C = some ⟨b, o, none⟩ → 0 < bs.length → b < w.heap.size := fun b o e hl => by
    obtain ⟨b2, o2, x, rfl, -, -, h3⟩ := hr.at_ hl
    injection e with e; injection e with e1 e2; omega
  have HF := Lib.hid hfar
  have HR := Lib.hid hr
  have HB := Lib.hid hb
  clear hfar hr hb
  by_cases hl : bs.length ≤ 2000
  · go_enter Try.func55, Try.ntmps55
    go_wp2
    go_ret
    refine ⟨w.heap.size, rfl, ⟨C, bs, c, 0, by omega, ⟨by simp [go_sem], by simp [go_sem], fun o => by simp [go_sem], HR.out.below (by repeat (first | ((with_reducible refine Below.setc ?_ ?_ _); focus (first | omega | (simp; done) | (simp; omega))) | ((with_reducible refine Below.allocc ?_ ?_ _); focus (first | omega | (simp; done) | (simp; omega))) | (with_reducible refine Below.drew ?_) | (with_reducible refine Below.drewn ?_) | (with_reducible assumption) | (with_reducible exact Below.refl _ _) | ((with_reducible refine Below.stepp (by with_reducible assumption) ?_ ?_); focus (first | omega | (simp; done) | (simp; omega))))), HB.out, HF.out, Nat.le_refl _, by simp, hl⟩⟩, (by repeat (first | ((with_reducible refine Below.setc ?_ ?_ _); focus (first | omega | (simp; done) | (simp; omega))) | ((with_reducible refine Below.allocc ?_ ?_ _); focus (first | omega | (simp; done) | (simp; omega))) | (with_reducible refine Below.drew ?_) | (with_reducible refine Below.drewn ?_) | (with_reducible assumption) | (with_reducible exact Below.refl _ _) | ((with_reducible refine Below.stepp (by with_reducible assumption) ?_ ?_); focus (first | omega | (simp; done) | (simp; omega)))))⟩
  · have hlt : (bs.take 2000).length = 2000 := by simp; omega
    have hc3 : 2000 ≤ c := by omega
    go_enter Try.func55, Try.ntmps55
    go_wp2
    go_ret
    refine ⟨w.heap.size, rfl, ⟨C, bs.take 2000, c, 0, by omega, ⟨by rw [hlt]; simp [go_sem], by simp [go_sem], fun o => by simp [go_sem], fun i hi => ?_, fun x hx => HB.out x (List.mem_of_mem_take hx), fun b o e _ => HF.out b o e (by omega), Nat.le_refl _, by simp, by omega⟩⟩, (by repeat (first | ((with_reducible refine Below.setc ?_ ?_ _); focus (first | omega | (simp; done) | (simp; omega))) | ((with_reducible refine Below.allocc ?_ ?_ _); focus (first | omega | (simp; done) | (simp; omega))) | (with_reducible refine Below.drew ?_) | (with_reducible refine Below.drewn ?_) | (with_reducible assumption) | (with_reducible exact Below.refl _ _) | ((with_reducible refine Below.stepp (by with_reducible assumption) ?_ ?_); focus (first | omega | (simp; done) | (simp; omega)))))⟩
    obtain ⟨b, o, x, h1, h2, h3⟩ := (HR.out.below (w' := w.alloc (.cells #[.slice C 2000 c, .int .i64 0] 101)) (by repeat (first | ((with_reducible refine Below.setc ?_ ?_ _); focus (first | omega | (simp; done) | (simp; omega))) | ((with_reducible refine Below.allocc ?_ ?_ _); focus (first | omega | (simp; done) | (simp; omega))) | (with_reducible refine Below.drew ?_) | (with_reducible refine Below.drewn ?_) | (with_reducible assumption) | (with_reducible exact Below.refl _ _) | ((with_reducible refine Below.stepp (by with_reducible assumption) ?_ ?_); focus (first | omega | (simp; done) | (simp; omega)))))) i (by omega)
    exact ⟨b, o, x, h1, by rw [List.getElem?_take_of_lt (by omega)]; exact h2, h3⟩
end Go.Proofs.Ytngmkflmjjkjaaa
