/- Texts of one family, one behind the other: Same, Alive. -/
import Derived.Test.YtngmkflmjjkjaaaChecked
import Derived.Deep.QuietTactic
import Derived.BigQuiet
import Derived.IntWalk
import Derived.Test.YtngmkflmjjkjaaaGrTo
import Derived.Test.YtngmkflmjjkjaaaGrOwn
/- The comparisons same.. of the laws and of the program: they tell whether both sides read as the same. -/
namespace Go.Proofs.Ytngmkflmjjkjaaa
open Go.RowKit
set_option maxRecDepth 100000
set_option linter.unusedSimpArgs false
set_option linter.unusedVariables false
end Go.Proofs.Ytngmkflmjjkjaaa

/- The laws' fixed answer. -/
namespace Go.Proofs.Ytngmkflmjjkjaaa
open Go.RowKit
set_option maxRecDepth 100000
set_option linter.unusedSimpArgs false
set_option linter.unusedVariables false
theorem isTotal_3 (w : World) : Calls Try.prog 123 #[.int .i64 3] w fun e w' => e = .returned (.bool true) ∧ w' = w := by
  go_enter Try.func123, Try.ntmps123
  go_wp2
  go_ret
  exact ⟨rfl, rfl⟩
theorem blocksValid_3 (g c : Nat) (w : World) (h0 : w.cell? ⟨g, 0, none⟩ = some (.int .i64 0)) (h1 : w.cell? ⟨g, 1, none⟩ = some (.int .i64 3)) (h2 : w.cell? ⟨g, 2, none⟩ = some (.bool false)) :
    Calls Try.prog 98 #[.slice (some ⟨g, 0, none⟩) 1 c, .int .i64 3] w fun e w' => e = .returned (.bool true) ∧ Below w.heap.size w w' := by
  go_enter Try.func98, Try.ntmps98
  go_wp2_with fail
  (with_reducible refine (isTotal_3 _).mono ?_)
  rintro e w1 ⟨rfl, rfl⟩
  go_wp2_with fail
  go_loopw [5, 13] (fun s i wr => ((i = .int .i64 0 ∧ s = .int .i64 0) ∨ (i = .int .i64 1 ∧ s = .int .i64 3)) ∧ Below w1.heap.size w1 wr) (fun _ i _ => 1 - (intOf i).toNat)
  case atStart => exact ⟨.inl ⟨rfl, rfl⟩, Below.refl _ _⟩
  case round =>
    obtain ⟨h, hB⟩ := hrel
    rcases h with ⟨rfl, rfl⟩ | ⟨rfl, rfl⟩
    · have hzB := hB.size
      have k0 := cell_below h0 hB
      have k1 := cell_below h1 hB
      have k2 := cell_below h2 hB
      clear h0 h1 h2
      go_wp2_with fail
      go_roundw
      case rel => exact ⟨.inr ⟨rfl, rfl⟩, (by repeat (first | ((with_reducible refine Below.setc ?_ ?_ _); focus (first | omega | (simp; done) | (simp; omega))) | ((with_reducible refine Below.allocc ?_ ?_ _); focus (first | omega | (simp; done) | (simp; omega))) | (with_reducible refine Below.drew ?_) | (with_reducible refine Below.drewn ?_) | (with_reducible assumption) | (with_reducible exact Below.refl _ _) | ((with_reducible refine Below.stepp (by with_reducible assumption) ?_ ?_); focus (first | omega | (simp; done) | (simp; omega)))))⟩
      case measure => simp [intOf]
    · clear h0 h1 h2
      go_wp2_with fail
      go_ret
      exact ⟨rfl, hB⟩
theorem freeWords_3 (g c : Nat) (w : World) (h0 : w.cell? ⟨g, 0, none⟩ = some (.int .i64 0)) (h1 : w.cell? ⟨g, 1, none⟩ = some (.int .i64 3)) (h2 : w.cell? ⟨g, 2, none⟩ = some (.bool false)) :
    Calls Try.prog 59 #[.slice (some ⟨g, 0, none⟩) 1 c, .int .i64 3] w fun e w' => e = .returned (.int .i64 3) ∧ Below w.heap.size w w' := by
  go_enter Try.func59, Try.ntmps59
  go_wp2_with fail
  (with_reducible refine (blocksValid_3 g c _ h0 h1 h2).mono ?_)
  rintro e w1 ⟨rfl, hB1⟩
  have h0 := cell_below h0 hB1
  have h1 := cell_below h1 hB1
  have h2 := cell_below h2 hB1
  go_wp2_with fail
  go_loopw [5, 14] (fun s i wr => ((i = .int .i64 0 ∧ s = .int .i64 0) ∨ (i = .int .i64 1 ∧ s = .int .i64 3)) ∧ Below w1.heap.size w1 wr) (fun _ i _ => 1 - (intOf i).toNat)
  case atStart => exact ⟨.inl ⟨rfl, rfl⟩, Below.refl _ _⟩
  case round =>
    obtain ⟨h, hB⟩ := hrel
    rcases h with ⟨rfl, rfl⟩ | ⟨rfl, rfl⟩
    · have hzB := hB.size
      have k0 := cell_below h0 hB
      have k1 := cell_below h1 hB
      have k2 := cell_below h2 hB
      clear h0 h1 h2
      go_wp2_with fail
      go_roundw
      case rel => exact ⟨.inr ⟨rfl, rfl⟩, (by repeat (first | ((with_reducible refine Below.setc ?_ ?_ _); focus (first | omega | (simp; done) | (simp; omega))) | ((with_reducible refine Below.allocc ?_ ?_ _); focus (first | omega | (simp; done) | (simp; omega))) | (with_reducible refine Below.drew ?_) | (with_reducible refine Below.drewn ?_) | (with_reducible assumption) | (with_reducible exact Below.refl _ _) | ((with_reducible refine Below.stepp (by with_reducible assumption) ?_ ?_); focus (first | omega | (simp; done) | (simp; omega)))))⟩
      case measure => simp [intOf]
    · clear h0 h1 h2
      go_wp2_with fail
      go_ret
      exact ⟨rfl, hB1.trans (hB.mono hB1.size)⟩
theorem alive_any (w : World) : Calls Try.prog 20 #[] w fun e w' => e = .returned (.bool true) ∧ Below w.heap.size w w' := by
  go_enter Try.func20, Try.ntmps20
  go_wp2_with fail
  (with_reducible refine (freeWords_3 w.heap.size _ _ ?_ ?_ ?_).mono ?_)
  · simp [go_sem]
  · simp [go_sem]
  · simp [go_sem]
  rintro e w1 ⟨rfl, hB⟩
  go_wp2_with fail
  go_ret
  exact ⟨rfl, (by repeat (first | ((with_reducible refine Below.setc ?_ ?_ _); focus (first | omega | (simp; done) | (simp; omega))) | ((with_reducible refine Below.allocc ?_ ?_ _); focus (first | omega | (simp; done) | (simp; omega))) | (with_reducible refine Below.drew ?_) | (with_reducible refine Below.drewn ?_) | (with_reducible assumption) | (with_reducible exact Below.refl _ _) | ((with_reducible refine Below.stepp (by with_reducible assumption) ?_ ?_); focus (first | omega | (simp; done) | (simp; omega)))))⟩
end Go.Proofs.Ytngmkflmjjkjaaa
