/- RunCopy and RunSlide of the program. -/
import Derived.Test.YtkmfhadanbfadaaChecked
import Derived.Deep.DeepCutAuto
import Derived.Test.YtkmfhadanbfadaaMovR
namespace Go.Proofs.Ytkmfhadanbfadaa
open Go.RowKit
set_option maxRecDepth 100000
set_option linter.unusedSimpArgs false
set_option linter.unusedVariables false
set_option maxHeartbeats 4000000 in
theorem implRunSlide_any (A : Option Addr) (l : List CmdM) (c : Nat) (limit : Int) (w : World) (hv0 : RO w A l) (hl : l.length ≤ 9223372036854775807) :
    Calls Try.prog 60 #[.slice A l.length c, .int .i64 limit] w fun e w' => ∃ v', e = .returned (.tuple #[v', .bool (runMoveM slideHeapM l limit).2]) ∧ OH w.heap.size w' v' (runMoveM slideHeapM l limit).1 ∧ Below w.heap.size w w' := by
  have HG0 : Hid (∀ W, Below ((w.alloc (.cells #[.slice none 0 0, .slice none 0 0] 32))).heap.size ((w.alloc (.cells #[.slice none 0 0, .slice none 0 0] 32))) W → (W.cell? ⟨w.heap.size, 0, none⟩ = some (.slice none 0 0) ∧ W.cell? ⟨w.heap.size, 1, none⟩ = some (.slice none 0 0) ∧ ∀ o, W.frozen? ⟨w.heap.size, o, none⟩ = false)) := fun W hW => ⟨cell_below (by simp [go_sem]) hW, cell_below (by simp [go_sem]) hW, fun o => ((bcell hW).2.1 _ _ (by simp)).trans (by simp [go_sem])⟩
  have hz0 : ((w.alloc (.cells #[.slice none 0 0, .slice none 0 0] 32))).heap.size = w.heap.size + 1 := by simp
  have hW0 : Below w.heap.size w ((w.alloc (.cells #[.slice none 0 0, .slice none 0 0] 32))) := (by repeat (first | ((with_reducible refine Below.setc ?_ ?_ _); focus (first | omega | (simp; done) | (simp; omega))) | ((with_reducible refine Below.allocc ?_ ?_ _); focus (first | omega | (simp; done) | (simp; omega))) | (with_reducible refine Below.drew ?_) | (with_reducible refine Below.drewn ?_) | (with_reducible assumption) | (with_reducible exact Below.refl _ _) | ((with_reducible refine Below.stepp (by with_reducible assumption) ?_ ?_); focus (first | omega | (simp; done) | (simp; omega)))))
  have hv := hv0.below hW0
  clear hv0
  go_enter Try.func60, Try.ntmps60
  go_wp2_with fail
  generalize ((w.alloc (.cells #[.slice none 0 0, .slice none 0 0] 32))) = W0 at *
  (with_reducible refine (runMovingSlide_any A l c limit _ (hv.below (by repeat (first | ((with_reducible refine Below.setc ?_ ?_ _); focus (first | omega | (simp; done) | (simp; omega))) | ((with_reducible refine Below.allocc ?_ ?_ _); focus (first | omega | (simp; done) | (simp; omega))) | (with_reducible refine Below.drew ?_) | (with_reducible refine Below.drewn ?_) | (with_reducible assumption) | (with_reducible exact Below.refl _ _) | ((with_reducible refine Below.stepp (by with_reducible assumption) ?_ ?_); focus (first | omega | (simp; done) | (simp; omega)))))) hl).mono ?_)
  rintro e w2 ⟨v2, rfl, ⟨B, d, B', d', os, rfl, hm, hO, hlo⟩, hB⟩
  have Y : Below W0.heap.size W0 w2 := hB
  have sY := Y.size
  obtain ⟨r0, r1, rf⟩ := HG0.out _ Y
  have rf0 := rf 0
  have rf1 := rf 1
  have X := hW0.trans (Y.mono hW0.size)
  have HOH : Hid (OH (w.heap.size + 1) w2 (.agg #[.slice B (runMoveM slideHeapM l limit).1.cells.length d, .slice B' (runMoveM slideHeapM l limit).1.roots.length d']) (runMoveM slideHeapM l limit).1) := ⟨B, d, B', d', os, rfl, hm, hO, fun b hb => by have := hlo b hb; omega⟩
  clear hm hO hlo hB Y rf
  go_wp2_with fail
  refine bodyPost_ret (v := .tuple #[.agg #[.slice B (runMoveM slideHeapM l limit).1.cells.length d, .slice B' (runMoveM slideHeapM l limit).1.roots.length d'], .bool (runMoveM slideHeapM l limit).2]) (by simp [results, Try.results60, go_sem, r0, r1]) rfl ⟨_, rfl, ?_, (by repeat (first | ((with_reducible refine Below.setc ?_ ?_ _); focus (first | omega | (simp; done) | (simp; omega))) | ((with_reducible refine Below.allocc ?_ ?_ _); focus (first | omega | (simp; done) | (simp; omega))) | (with_reducible refine Below.drew ?_) | (with_reducible refine Below.drewn ?_) | (with_reducible assumption) | (with_reducible exact Below.refl _ _) | ((with_reducible refine Below.stepp (by with_reducible assumption) ?_ ?_); focus (first | omega | (simp; done) | (simp; omega)))))⟩
  exact OH.lo_ (lo := w.heap.size + 1) (OH.setlt (OH.setlt HOH.out (by simp) _) (by simp) _) (by omega)
end Go.Proofs.Ytkmfhadanbfadaa
