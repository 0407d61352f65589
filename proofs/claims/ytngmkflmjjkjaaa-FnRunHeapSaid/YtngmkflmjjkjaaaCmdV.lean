/- The program's CommandValid; both CommandsValid. -/
import Derived.Test.YtngmkflmjjkjaaaChecked
import Derived.Deep.RegionHeld3
import Derived.Laws.EntriesVeiled
import Derived.Deep.DeepCutAuto
import Derived.Test.YtngmkflmjjkjaaaCmdI
namespace Go.Proofs.Ytngmkflmjjkjaaa
open Go.RowKit
set_option maxRecDepth 100000
set_option linter.unusedSimpArgs false
set_option linter.unusedVariables false
set_option maxHeartbeats 4000000 in
theorem implCommandValid_any (o : CmdM) (w : World) :
    Calls Try.prog 60 #[.agg #[.int .i64 o.op, .int .i64 o.a, .int .i64 o.b, .int .i64 o.c]] w fun e w' => e = .returned (.bool (cmdOk o)) ∧ Below w.heap.size w w' := by
  rcases Classical.em (1 ≤ o.op ∧ o.op ≤ 6) with ⟨hop1, hop6⟩ | hop
  · have k0 : (w.alloc (.cells #[.int .i64 o.op, .int .i64 o.a, .int .i64 o.b, .int .i64 o.c] 36)).cell? ⟨w.heap.size, 0, none⟩ = some (.int .i64 o.op) := by simp [go_sem]
    have k1 : (w.alloc (.cells #[.int .i64 o.op, .int .i64 o.a, .int .i64 o.b, .int .i64 o.c] 36)).cell? ⟨w.heap.size, 1, none⟩ = some (.int .i64 o.a) := by simp [go_sem]
    have k2 : (w.alloc (.cells #[.int .i64 o.op, .int .i64 o.a, .int .i64 o.b, .int .i64 o.c] 36)).cell? ⟨w.heap.size, 2, none⟩ = some (.int .i64 o.b) := by simp [go_sem]
    have k3 : (w.alloc (.cells #[.int .i64 o.op, .int .i64 o.a, .int .i64 o.b, .int .i64 o.c] 36)).cell? ⟨w.heap.size, 3, none⟩ = some (.int .i64 o.c) := by simp [go_sem]
    go_enter Try.func60, Try.ntmps60
    go_upto_region 3 with fail
    go_cut [3] (fun s3 wx => ∃ b3, s3 = .pointer (some ⟨b3, 0, none⟩) ∧ wx.cell? ⟨b3, 0, none⟩ = some (.int .i64 (maxB o.op)) ∧ wx.cell? ⟨b3, 1, none⟩ = some (.int .i64 (maxC o.op)) ∧ Below (w.alloc (.cells #[.int .i64 o.op, .int .i64 o.a, .int .i64 o.b, .int .i64 o.c] 36)).heap.size (w.alloc (.cells #[.int .i64 o.op, .int .i64 o.a, .int .i64 o.b, .int .i64 o.c] 36)) wx)
    case first =>
      obtain ⟨op, a, b, c⟩ := o
      dsimp only at *
      rcases (by omega : op = 1 ∨ op = 2 ∨ op = 3 ∨ op = 4 ∨ op = 5 ∨ op = 6) with rfl | rfl | rfl | rfl | rfl | rfl
      · have hix := opIx1
        go_region_held3 (fun w' => w'.cell? ⟨w.heap.size, 0, none⟩ = some (.int .i64 1))
          (first | exact cell_below k0 (by repeat (first | ((with_reducible refine Below.setc ?_ ?_ _); focus (first | omega | (simp; done) | (simp; omega))) | ((with_reducible refine Below.allocc ?_ ?_ _); focus (first | omega | (simp; done) | (simp; omega))) | (with_reducible refine Below.drew ?_) | (with_reducible refine Below.drewn ?_) | (with_reducible assumption) | (with_reducible exact Below.refl _ _) | ((with_reducible refine Below.stepp (by with_reducible assumption) ?_ ?_); focus (first | omega | (simp; done) | (simp; omega))))))
          (first | (go_at_call 66; (with_reducible refine (operations_any _).mono ?_); rintro e w1 ⟨rfl, rfl⟩))
        all_goals
          go_wp2_with fail
          go_meet
          exact ⟨_, rfl, by simp [go_sem, maxB], by simp [go_sem, maxC], (by repeat (first | ((with_reducible refine Below.setc ?_ ?_ _); focus (first | omega | (simp; done) | (simp; omega))) | ((with_reducible refine Below.allocc ?_ ?_ _); focus (first | omega | (simp; done) | (simp; omega))) | (with_reducible refine Below.drew ?_) | (with_reducible refine Below.drewn ?_) | (with_reducible assumption) | (with_reducible exact Below.refl _ _) | ((with_reducible refine Below.stepp (by with_reducible assumption) ?_ ?_); focus (first | omega | (simp; done) | (simp; omega)))))⟩
      · have hix := opIx2
        go_region_held3 (fun w' => w'.cell? ⟨w.heap.size, 0, none⟩ = some (.int .i64 2))
          (first | exact cell_below k0 (by repeat (first | ((with_reducible refine Below.setc ?_ ?_ _); focus (first | omega | (simp; done) | (simp; omega))) | ((with_reducible refine Below.allocc ?_ ?_ _); focus (first | omega | (simp; done) | (simp; omega))) | (with_reducible refine Below.drew ?_) | (with_reducible refine Below.drewn ?_) | (with_reducible assumption) | (with_reducible exact Below.refl _ _) | ((with_reducible refine Below.stepp (by with_reducible assumption) ?_ ?_); focus (first | omega | (simp; done) | (simp; omega))))))
          (first | (go_at_call 66; (with_reducible refine (operations_any _).mono ?_); rintro e w1 ⟨rfl, rfl⟩))
        all_goals
          go_wp2_with fail
          go_meet
          exact ⟨_, rfl, by simp [go_sem, maxB], by simp [go_sem, maxC], (by repeat (first | ((with_reducible refine Below.setc ?_ ?_ _); focus (first | omega | (simp; done) | (simp; omega))) | ((with_reducible refine Below.allocc ?_ ?_ _); focus (first | omega | (simp; done) | (simp; omega))) | (with_reducible refine Below.drew ?_) | (with_reducible refine Below.drewn ?_) | (with_reducible assumption) | (with_reducible exact Below.refl _ _) | ((with_reducible refine Below.stepp (by with_reducible assumption) ?_ ?_); focus (first | omega | (simp; done) | (simp; omega)))))⟩
      · have hix := opIx3
        go_region_held3 (fun w' => w'.cell? ⟨w.heap.size, 0, none⟩ = some (.int .i64 3))
          (first | exact cell_below k0 (by repeat (first | ((with_reducible refine Below.setc ?_ ?_ _); focus (first | omega | (simp; done) | (simp; omega))) | ((with_reducible refine Below.allocc ?_ ?_ _); focus (first | omega | (simp; done) | (simp; omega))) | (with_reducible refine Below.drew ?_) | (with_reducible refine Below.drewn ?_) | (with_reducible assumption) | (with_reducible exact Below.refl _ _) | ((with_reducible refine Below.stepp (by with_reducible assumption) ?_ ?_); focus (first | omega | (simp; done) | (simp; omega))))))
          (first | (go_at_call 66; (with_reducible refine (operations_any _).mono ?_); rintro e w1 ⟨rfl, rfl⟩))
        all_goals
          go_wp2_with fail
          go_meet
          exact ⟨_, rfl, by simp [go_sem, maxB], by simp [go_sem, maxC], (by repeat (first | ((with_reducible refine Below.setc ?_ ?_ _); focus (first | omega | (simp; done) | (simp; omega))) | ((with_reducible refine Below.allocc ?_ ?_ _); focus (first | omega | (simp; done) | (simp; omega))) | (with_reducible refine Below.drew ?_) | (with_reducible refine Below.drewn ?_) | (with_reducible assumption) | (with_reducible exact Below.refl _ _) | ((with_reducible refine Below.stepp (by with_reducible assumption) ?_ ?_); focus (first | omega | (simp; done) | (simp; omega)))))⟩
      · have hix := opIx4
        go_region_held3 (fun w' => w'.cell? ⟨w.heap.size, 0, none⟩ = some (.int .i64 4))
          (first | exact cell_below k0 (by repeat (first | ((with_reducible refine Below.setc ?_ ?_ _); focus (first | omega | (simp; done) | (simp; omega))) | ((with_reducible refine Below.allocc ?_ ?_ _); focus (first | omega | (simp; done) | (simp; omega))) | (with_reducible refine Below.drew ?_) | (with_reducible refine Below.drewn ?_) | (with_reducible assumption) | (with_reducible exact Below.refl _ _) | ((with_reducible refine Below.stepp (by with_reducible assumption) ?_ ?_); focus (first | omega | (simp; done) | (simp; omega))))))
          (first | (go_at_call 66; (with_reducible refine (operations_any _).mono ?_); rintro e w1 ⟨rfl, rfl⟩))
        all_goals
          go_wp2_with fail
          go_meet
          exact ⟨_, rfl, by simp [go_sem, maxB], by simp [go_sem, maxC], (by repeat (first | ((with_reducible refine Below.setc ?_ ?_ _); focus (first | omega | (simp; done) | (simp; omega))) | ((with_reducible refine Below.allocc ?_ ?_ _); focus (first | omega | (simp; done) | (simp; omega))) | (with_reducible refine Below.drew ?_) | (with_reducible refine Below.drewn ?_) | (with_reducible assumption) | (with_reducible exact Below.refl _ _) | ((with_reducible refine Below.stepp (by with_reducible assumption) ?_ ?_); focus (first | omega | (simp; done) | (simp; omega)))))⟩
      · have hix := opIx5
        go_region_held3 (fun w' => w'.cell? ⟨w.heap.size, 0, none⟩ = some (.int .i64 5))
          (first | exact cell_below k0 (by repeat (first | ((with_reducible refine Below.setc ?_ ?_ _); focus (first | omega | (simp; done) | (simp; omega))) | ((with_reducible refine Below.allocc ?_ ?_ _); focus (first | omega | (simp; done) | (simp; omega))) | (with_reducible refine Below.drew ?_) | (with_reducible refine Below.drewn ?_) | (with_reducible assumption) | (with_reducible exact Below.refl _ _) | ((with_reducible refine Below.stepp (by with_reducible assumption) ?_ ?_); focus (first | omega | (simp; done) | (simp; omega))))))
          (first | (go_at_call 66; (with_reducible refine (operations_any _).mono ?_); rintro e w1 ⟨rfl, rfl⟩))
        all_goals
          go_wp2_with fail
          go_meet
          exact ⟨_, rfl, by simp [go_sem, maxB], by simp [go_sem, maxC], (by repeat (first | ((with_reducible refine Below.setc ?_ ?_ _); focus (first | omega | (simp; done) | (simp; omega))) | ((with_reducible refine Below.allocc ?_ ?_ _); focus (first | omega | (simp; done) | (simp; omega))) | (with_reducible refine Below.drew ?_) | (with_reducible refine Below.drewn ?_) | (with_reducible assumption) | (with_reducible exact Below.refl _ _) | ((with_reducible refine Below.stepp (by with_reducible assumption) ?_ ?_); focus (first | omega | (simp; done) | (simp; omega)))))⟩
      · have hix := opIx6
        go_region_held3 (fun w' => w'.cell? ⟨w.heap.size, 0, none⟩ = some (.int .i64 6))
          (first | exact cell_below k0 (by repeat (first | ((with_reducible refine Below.setc ?_ ?_ _); focus (first | omega | (simp; done) | (simp; omega))) | ((with_reducible refine Below.allocc ?_ ?_ _); focus (first | omega | (simp; done) | (simp; omega))) | (with_reducible refine Below.drew ?_) | (with_reducible refine Below.drewn ?_) | (with_reducible assumption) | (with_reducible exact Below.refl _ _) | ((with_reducible refine Below.stepp (by with_reducible assumption) ?_ ?_); focus (first | omega | (simp; done) | (simp; omega))))))
          (first | (go_at_call 66; (with_reducible refine (operations_any _).mono ?_); rintro e w1 ⟨rfl, rfl⟩))
        all_goals
          go_wp2_with fail
          go_meet
          exact ⟨_, rfl, by simp [go_sem, maxB], by simp [go_sem, maxC], (by repeat (first | ((with_reducible refine Below.setc ?_ ?_ _); focus (first | omega | (simp; done) | (simp; omega))) | ((with_reducible refine Below.allocc ?_ ?_ _); focus (first | omega | (simp; done) | (simp; omega))) | (with_reducible refine Below.drew ?_) | (with_reducible refine Below.drewn ?_) | (with_reducible assumption) | (with_reducible exact Below.refl _ _) | ((with_reducible refine Below.stepp (by with_reducible assumption) ?_ ?_); focus (first | omega | (simp; done) | (simp; omega)))))⟩
    case rest =>
      obtain ⟨b3, rfl, p0, p1, hB⟩ := hcut
      have n1 := cell_below k1 hB
      have n2 := cell_below k2 hB
      have n3 := cell_below k3 hB
      have hw : Below w.heap.size w wc := (show Below w.heap.size w (w.alloc (.cells #[.int .i64 o.op, .int .i64 o.a, .int .i64 o.b, .int .i64 o.c] 36)) from (Below.refl _ _).alloc (Nat.le_refl _) _).trans (hB.mono (by simp))
      clear k0 k1 k2 k3 hB
      rcases Classical.em (0 ≤ o.a) with a0 | a0
      · rcases Classical.em (o.a < 4) with a4 | a4
        · rcases Classical.em (0 ≤ o.b) with b0 | b0
          · rcases Classical.em (o.b ≤ maxB o.op) with b4 | b4
            · rcases Classical.em (0 ≤ o.c) with c0 | c0
              · rcases Classical.em (o.c ≤ maxC o.op) with c4 | c4
                · have HN := Lib.hid (cmdOk_iff.2 ⟨⟨hop1, hop6⟩, ⟨a0, by omega⟩, ⟨b0, b4⟩, c0, c4⟩)
                  go_wp2
                  go_ret
                  exact ⟨ret_bool HN.out.symm, hw⟩
                · have HN := Lib.hid (cmdOk_not (o := o) (fun h => by omega)); go_wp2; go_ret; exact ⟨ret_bool HN.out.symm, hw⟩
              · have HN := Lib.hid (cmdOk_not (o := o) (fun h => by omega)); go_wp2; go_ret; exact ⟨ret_bool HN.out.symm, hw⟩
            · have HN := Lib.hid (cmdOk_not (o := o) (fun h => by omega)); go_wp2; go_ret; exact ⟨ret_bool HN.out.symm, hw⟩
          · have HN := Lib.hid (cmdOk_not (o := o) (fun h => by omega)); go_wp2; go_ret; exact ⟨ret_bool HN.out.symm, hw⟩
        · have HN := Lib.hid (cmdOk_not (o := o) (fun h => by omega)); go_wp2; go_ret; exact ⟨ret_bool HN.out.symm, hw⟩
      · have HN := Lib.hid (cmdOk_not (o := o) (fun h => by omega)); go_wp2; go_ret; exact ⟨ret_bool HN.out.symm, hw⟩
  · have HN := Lib.hid (cmdOk_not (o := o) (fun h => hop h.1))
    rcases Classical.em (o.op < 1) with h1 | h1
    · go_enter Try.func60, Try.ntmps60
      go_wp2
      go_ret
      exact ⟨ret_bool HN.out.symm, (by repeat (first | ((with_reducible refine Below.setc ?_ ?_ _); focus (first | omega | (simp; done) | (simp; omega))) | ((with_reducible refine Below.allocc ?_ ?_ _); focus (first | omega | (simp; done) | (simp; omega))) | (with_reducible refine Below.drew ?_) | (with_reducible refine Below.drewn ?_) | (with_reducible assumption) | (with_reducible exact Below.refl _ _) | ((with_reducible refine Below.stepp (by with_reducible assumption) ?_ ?_); focus (first | omega | (simp; done) | (simp; omega)))))⟩
    · have h6 : 6 < o.op := by omega
      go_enter Try.func60, Try.ntmps60
      go_wp2
      go_ret
      exact ⟨ret_bool HN.out.symm, (by repeat (first | ((with_reducible refine Below.setc ?_ ?_ _); focus (first | omega | (simp; done) | (simp; omega))) | ((with_reducible refine Below.allocc ?_ ?_ _); focus (first | omega | (simp; done) | (simp; omega))) | (with_reducible refine Below.drew ?_) | (with_reducible refine Below.drewn ?_) | (with_reducible assumption) | (with_reducible exact Below.refl _ _) | ((with_reducible refine Below.stepp (by with_reducible assumption) ?_ ?_); focus (first | omega | (simp; done) | (simp; omega)))))⟩
end Go.Proofs.Ytngmkflmjjkjaaa
