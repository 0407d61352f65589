/- The reference's drawing: the allowance, a job. -/
import Derived.Test.YtngmkflmjjkjaaaChecked
import Derived.Deep.QuietTactic
import Derived.BigQuiet
import Derived.IntWalk
import Derived.Deep.RegionWith
import Derived.Test.YtngmkflmjjkjaaaDraw4
namespace Go.Proofs.Ytngmkflmjjkjaaa
open Go.RowKit
set_option maxRecDepth 100000
set_option linter.unusedSimpArgs false
set_option linter.unusedVariables false
set_option maxHeartbeats 4000000 in
theorem l20Limit_any (lo g K : Nat) (w : World) (h : Rd lo w g (K + 3)) :
    Calls Try.prog 91 #[.pointer (some ⟨g, 0, none⟩)] w fun e w' => ∃ r : Nat, e = .returned (.int .i64 (r : Int)) ∧ r ≤ 41 ∧ Only [g] w w' ∧ Rd lo w' g K := by
  have H := Lib.hid h
  clear h
  have hlt := H.out.lt
  go_enter Try.func91, Try.ntmps91
  go_wp2_with fail
  (with_reducible refine (pick_any lo g (K + 2) 8 _ H.out (by omega) (by omega)).mono ?_); rintro e w1 ⟨x, rfl, hx, -, hO1, hR1⟩
  have hxI := hx (by omega)
  have HR1 := Lib.hid hR1
  have HOn1 := Lib.hid hO1
  have hz1 := hO1.size
  clear hx hR1 hO1
  go_wp2_with fail
  (with_reducible refine (pick_any lo g (K + 1) 40 _ HR1.out (by omega) (by omega)).mono ?_); rintro e w2 ⟨y, rfl, hy, -, hO2, hR2⟩
  have hyI := hy (by omega)
  have HR2 := Lib.hid hR2
  have HOn2 : Hid (Only [g] w w2) := HOn1.out.trans hO2
  have hz2 := hO2.size
  clear hy hR2 hO2
  go_wp2_with fail
  have hs2 : w2.heap.size ∉ [g] := by simp; omega
  have hs3 : w2.heap.size + 1 ∉ [g] := by simp; omega
  (with_reducible refine (pick_any lo g K 8 _ (HR2.out.below (by repeat (first | ((with_reducible refine Below.setc ?_ ?_ _); focus (first | omega | (simp; done) | (simp; omega))) | ((with_reducible refine Below.allocc ?_ ?_ _); focus (first | omega | (simp; done) | (simp; omega))) | (with_reducible refine Below.drew ?_) | (with_reducible refine Below.drewn ?_) | (with_reducible assumption) | (with_reducible exact Below.refl _ _) | ((with_reducible refine Below.stepp (by with_reducible assumption) ?_ ?_); focus (first | omega | (simp; done) | (simp; omega)))))) (by omega) (by omega)).mono ?_); rintro e w3 ⟨z, rfl, hz, -, hO3, hR3⟩
  have hzI := hz (by omega)
  have F10 : ∃ v : Nat, v < 4 ∧ w3.cell? ⟨w2.heap.size + 1, z, none⟩ = some (.int .i64 (v : Int)) := by
    rcases (by omega : z = 0 ∨ z = 1 ∨ z = 2 ∨ z = 3 ∨ z = 4 ∨ z = 5 ∨ z = 6 ∨ z = 7) with rfl | rfl | rfl | rfl | rfl | rfl | rfl | rfl
    · exact ⟨0, by omega, hO3.cell (by simp [go_sem]) hs3⟩
    · exact ⟨0, by omega, hO3.cell (by simp [go_sem]) hs3⟩
    · exact ⟨0, by omega, hO3.cell (by simp [go_sem]) hs3⟩
    · exact ⟨1, by omega, hO3.cell (by simp [go_sem]) hs3⟩
    · exact ⟨1, by omega, hO3.cell (by simp [go_sem]) hs3⟩
    · exact ⟨1, by omega, hO3.cell (by simp [go_sem]) hs3⟩
    · exact ⟨2, by omega, hO3.cell (by simp [go_sem]) hs3⟩
    · exact ⟨3, by omega, hO3.cell (by simp [go_sem]) hs3⟩
  obtain ⟨v, hv, m10⟩ := F10
  have F9 : ∃ r : Nat, r ≤ 41 ∧ w3.cell? ⟨w2.heap.size, v, none⟩ = some (.int .i64 (r : Int)) := by
    rcases (by omega : v = 0 ∨ v = 1 ∨ v = 2 ∨ v = 3) with rfl | rfl | rfl | rfl
    · exact ⟨1 + x, by omega, hO3.cell (by simp [go_sem]) hs2⟩
    · exact ⟨1 + y, by omega, hO3.cell (by simp [go_sem]) hs2⟩
    · exact ⟨0, by omega, hO3.cell (by simp [go_sem]) hs2⟩
    · exact ⟨41, by omega, hO3.cell (by simp [go_sem]) hs2⟩
  obtain ⟨r, hr, m9⟩ := F9
  have HR3 := Lib.hid hR3
  have HOn3 : Hid (Only [g] w w3) := (HOn2.out.thenb (B := w2.heap.size) (by repeat (first | ((with_reducible refine Below.setc ?_ ?_ _); focus (first | omega | (simp; done) | (simp; omega))) | ((with_reducible refine Below.allocc ?_ ?_ _); focus (first | omega | (simp; done) | (simp; omega))) | (with_reducible refine Below.drew ?_) | (with_reducible refine Below.drewn ?_) | (with_reducible assumption) | (with_reducible exact Below.refl _ _) | ((with_reducible refine Below.stepp (by with_reducible assumption) ?_ ?_); focus (first | omega | (simp; done) | (simp; omega))))) (by omega)).trans hO3
  have hvI : (v : Int) < 4 := by omega
  clear hz hR3 hO3
  go_wp2_with fail
  go_ret
  exact ⟨r, rfl, hr, HOn3.out, HR3.out⟩
set_option maxHeartbeats 4000000 in
theorem l20Job_any (lo g K : Nat) (w : World) (h : Rd lo w g (K + 1003)) :
    Calls Try.prog 95 #[.pointer (some ⟨g, 0, none⟩)] w fun e w' => ∃ L S c, ∃ r : Nat, e = .returned (.tuple #[.slice S (L : List CmdM).length c, .int .i64 (r : Int)]) ∧ r ≤ 41 ∧ OO w' S c L ∧ (∀ b ∈ blk S, w.heap.size ≤ b) ∧ L.length ≤ 41 ∧ Only [g] w w' ∧ Rd lo w' g K := by
  have H := Lib.hid h
  clear h
  have hlt := H.out.lt
  go_enter Try.func95, Try.ntmps95
  go_wp2_with fail
  (with_reducible refine (l20Program_any lo g (K + 3) 16 _ H.out (by omega) (by omega)).mono ?_); rintro e w1 ⟨L, S, c, rfl, hS, hSB, hL, -, hO1, hR1⟩
  have HR1 := Lib.hid hR1
  have HOn1 := Lib.hid hO1
  have HS := Lib.hid hS
  have HSB := Lib.hid hSB
  have hz1 := hO1.size
  clear hS hSB hO1 hR1
  go_wp2_with fail
  (with_reducible refine (l20Limit_any lo g K _ HR1.out).mono ?_); rintro e w2 ⟨r, rfl, hr, hO2, hR2⟩
  have HS2 := Lib.hid (OO.only HS.out hO2 (fun b hb => by have := HSB.out b hb; simp; omega))
  have HR2 := Lib.hid hR2
  have HOn2 : Hid (Only [g] w w2) := HOn1.out.trans hO2
  clear hR2 hO2
  go_wp2_with fail
  refine bodyPost_ret (v := .tuple #[.slice S L.length c, .int .i64 (r : Int)]) (by simp [results, Try.results95, go_sem]) rfl ?_
  exact ⟨L, S, c, r, rfl, hr, HS2.out, HSB.out, hL, HOn2.out, HR2.out⟩
end Go.Proofs.Ytngmkflmjjkjaaa
