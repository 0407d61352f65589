/- The reference's HeapValid tells validM, and leaves memory as it is. -/
import Derived.Test.YtdkhpmlimnfgpaaChecked
import Derived.Test.YtdkhpmlimnfgpaaHeap
namespace Go.Proofs.Ytdkhpmlimnfgpaa
open Go.RowKit
set_option maxRecDepth 100000
set_option linter.unusedSimpArgs false

theorem validM_cells (h : HeapM) : validM h = (h.cells.all (cellOkM h.cells) && (decide (h.cells.length ≤ 40) && decide (h.roots.length = 4) && refsM h.cells h.roots)) := rfl
set_option maxHeartbeats 400000 in
theorem specHeapValid_any (v : Value) (h : HeapM) (w : World) (hv : RH w v h) :
    Calls Try.prog 67 #[v] w fun e w' => e = .returned (.bool (validM h)) ∧ Below w.heap.size w w' := by
  have hv' := hv
  obtain ⟨A, c, A', c', rfl, hc, hr, hl1, hl2⟩ := hv
  go_enter Try.func67, Try.ntmps67
  go_wp2
  go_loopw [3] (fun i wr => ∃ k : Nat, k ≤ h.cells.length ∧ i = .int .i64 k ∧ Hid (h.cells.all (cellOkM h.cells) = (h.cells.drop k).all (cellOkM h.cells)) ∧ Below (w.heap.size + 1) (w.alloc (.cells #[.slice A h.cells.length c, .slice A' h.roots.length c'] 29)) wr) (fun i _ => h.cells.length - (intOf i).toNat)
  case atStart => exact ⟨0, by omega, rfl, rfl, Below.refl _ _⟩
  case round =>
    obtain ⟨k, hk, rfl, HS, hB⟩ := hrel
    have hB0 : Below w.heap.size w wr := Below.trans (by repeat (first | ((with_reducible refine Below.setc ?_ ?_ _); focus (first | omega | (simp; done) | (simp; omega))) | ((with_reducible refine Below.allocc ?_ ?_ _); focus (first | omega | (simp; done) | (simp; omega))) | (with_reducible refine Below.drew ?_) | (with_reducible refine Below.drewn ?_) | (with_reducible assumption) | (with_reducible exact Below.refl _ _) | ((with_reducible refine Below.stepp (by with_reducible assumption) ?_ ?_); focus (first | omega | (simp; done) | (simp; omega))))) (hB.mono (by omega))
    obtain ⟨hbc, hbf, hbz⟩ := bcell (hB.mono (show (w.alloc (.cells #[.slice A h.cells.length c, .slice A' h.roots.length c'] 29)).heap.size ≤ w.heap.size + 1 by simp))
    have z0wr : w.heap.size < wr.heap.size := (by (try simp at hbz); omega)
    have hv2 := hv'.below hB0
    by_cases hlt : k < h.cells.length
    · obtain ⟨b, o, x, Ar, cr, rfl, gx, c1, c2, c3, hrr, hrl, hb⟩ := (hc.below hB0).at_ hlt
      have bad : cellOkM h.cells x = false → validM h = false := fun e => by rw [validM_cells, HS.out, all_drop _ gx, e]; simp
      have good : cellOkM h.cells x = true → Hid (h.cells.all (cellOkM h.cells) = (h.cells.drop (k + 1)).all (cellOkM h.cells)) := fun e => by unfold Hid; rw [HS.out, all_drop _ gx, e]; simp
      clear gx hc HS
      obtain ⟨u, d, rs⟩ := x
      dsimp only at c1 c2 c3 hrr hrl
      cases u
      · rcases Classical.em (d = 0) with h1 | h1
        · subst h1
          rcases Classical.em (rs.length = 0) with h2 | h2
          · have hrn : rs = [] := List.eq_nil_of_length_eq_zero h2
            subst hrn
            have HG := good (by rw [cellOk_free]; rfl)
            have hin : inB 0 0 99 = true := rfl
            have hrm : refsM h.cells [] = true := rfl
            clear good bad h2
            go_wp2_with (first | (go_at_call 100; refine (l1In_any _ _ _ _).mono ?_; rintro e w' ⟨rfl, rfl⟩) | (go_at_call 127; refine (l7Refs_any _ h _ [] _ _ (hv2.below (by repeat (first | ((with_reducible refine Below.setc ?_ ?_ _); focus (first | omega | (simp; done) | (simp; omega))) | ((with_reducible refine Below.allocc ?_ ?_ _); focus (first | omega | (simp; done) | (simp; omega))) | (with_reducible refine Below.drew ?_) | (with_reducible refine Below.drewn ?_) | (with_reducible assumption) | (with_reducible exact Below.refl _ _) | ((with_reducible refine Below.stepp (by with_reducible assumption) ?_ ?_); focus (first | omega | (simp; done) | (simp; omega)))))) (hrr.below (by repeat (first | ((with_reducible refine Below.setc ?_ ?_ _); focus (first | omega | (simp; done) | (simp; omega))) | ((with_reducible refine Below.allocc ?_ ?_ _); focus (first | omega | (simp; done) | (simp; omega))) | (with_reducible refine Below.drew ?_) | (with_reducible refine Below.drewn ?_) | (with_reducible assumption) | (with_reducible exact Below.refl _ _) | ((with_reducible refine Below.stepp (by with_reducible assumption) ?_ ?_); focus (first | omega | (simp; done) | (simp; omega)))))) hrl).mono ?_; rintro e w' ⟨rfl, hB2⟩))
            go_roundw
            case rel => exact ⟨k + 1, by omega, by go_num, HG, (by repeat (first | ((with_reducible refine Below.setc ?_ ?_ _); focus (first | omega | (simp; done) | (simp; omega))) | ((with_reducible refine Below.allocc ?_ ?_ _); focus (first | omega | (simp; done) | (simp; omega))) | (with_reducible refine Below.drew ?_) | (with_reducible refine Below.drewn ?_) | (with_reducible assumption) | (with_reducible exact Below.refl _ _) | ((with_reducible refine Below.stepp (by with_reducible assumption) ?_ ?_); focus (first | omega | (simp; done) | (simp; omega)))))⟩
            case measure => simp [intOf]; omega
          · have HF := Lib.hid (bad (by rw [cellOk_free]; simp [h2]))
            have h3 : 0 < rs.length := by omega
            clear good bad h2
            go_wp2
            go_ret
            exact ⟨ret_bool HF.out.symm, (by repeat (first | ((with_reducible refine Below.setc ?_ ?_ _); focus (first | omega | (simp; done) | (simp; omega))) | ((with_reducible refine Below.allocc ?_ ?_ _); focus (first | omega | (simp; done) | (simp; omega))) | (with_reducible refine Below.drew ?_) | (with_reducible refine Below.drewn ?_) | (with_reducible assumption) | (with_reducible exact Below.refl _ _) | ((with_reducible refine Below.stepp (by with_reducible assumption) ?_ ?_); focus (first | omega | (simp; done) | (simp; omega)))))⟩
        · have HF := Lib.hid (bad (by rw [cellOk_free]; simp [h1]))
          have h3 : (d != 0) = true := by simpa using h1
          clear good bad h1
          go_wp2
          go_ret
          exact ⟨ret_bool HF.out.symm, (by repeat (first | ((with_reducible refine Below.setc ?_ ?_ _); focus (first | omega | (simp; done) | (simp; omega))) | ((with_reducible refine Below.allocc ?_ ?_ _); focus (first | omega | (simp; done) | (simp; omega))) | (with_reducible refine Below.drew ?_) | (with_reducible refine Below.drewn ?_) | (with_reducible assumption) | (with_reducible exact Below.refl _ _) | ((with_reducible refine Below.stepp (by with_reducible assumption) ?_ ?_); focus (first | omega | (simp; done) | (simp; omega)))))⟩
      · cases hin : inB 0 d 99
        · have HF := Lib.hid (bad (by rw [cellOk_used, hin]; simp))
          clear good bad
          go_wp2_with (first | (go_at_call 100; refine (l1In_any _ _ _ _).mono ?_; rintro e w' ⟨rfl, rfl⟩) | (go_at_call 127; refine (l7Refs_any _ h _ rs _ _ (hv2.below (by repeat (first | ((with_reducible refine Below.setc ?_ ?_ _); focus (first | omega | (simp; done) | (simp; omega))) | ((with_reducible refine Below.allocc ?_ ?_ _); focus (first | omega | (simp; done) | (simp; omega))) | (with_reducible refine Below.drew ?_) | (with_reducible refine Below.drewn ?_) | (with_reducible assumption) | (with_reducible exact Below.refl _ _) | ((with_reducible refine Below.stepp (by with_reducible assumption) ?_ ?_); focus (first | omega | (simp; done) | (simp; omega)))))) (hrr.below (by repeat (first | ((with_reducible refine Below.setc ?_ ?_ _); focus (first | omega | (simp; done) | (simp; omega))) | ((with_reducible refine Below.allocc ?_ ?_ _); focus (first | omega | (simp; done) | (simp; omega))) | (with_reducible refine Below.drew ?_) | (with_reducible refine Below.drewn ?_) | (with_reducible assumption) | (with_reducible exact Below.refl _ _) | ((with_reducible refine Below.stepp (by with_reducible assumption) ?_ ?_); focus (first | omega | (simp; done) | (simp; omega)))))) hrl).mono ?_; rintro e w' ⟨rfl, hB2⟩))
          go_ret
          exact ⟨ret_bool HF.out.symm, (by repeat (first | ((with_reducible refine Below.setc ?_ ?_ _); focus (first | omega | (simp; done) | (simp; omega))) | ((with_reducible refine Below.allocc ?_ ?_ _); focus (first | omega | (simp; done) | (simp; omega))) | (with_reducible refine Below.drew ?_) | (with_reducible refine Below.drewn ?_) | (with_reducible assumption) | (with_reducible exact Below.refl _ _) | ((with_reducible refine Below.stepp (by with_reducible assumption) ?_ ?_); focus (first | omega | (simp; done) | (simp; omega)))))⟩
        · rcases Nat.lt_or_ge 3 rs.length with h2 | h2
          · have HF := Lib.hid (bad (by rw [cellOk_used, hin]; simp; intro _; omega))
            clear good bad
            go_wp2_with (first | (go_at_call 100; refine (l1In_any _ _ _ _).mono ?_; rintro e w' ⟨rfl, rfl⟩) | (go_at_call 127; refine (l7Refs_any _ h _ rs _ _ (hv2.below (by repeat (first | ((with_reducible refine Below.setc ?_ ?_ _); focus (first | omega | (simp; done) | (simp; omega))) | ((with_reducible refine Below.allocc ?_ ?_ _); focus (first | omega | (simp; done) | (simp; omega))) | (with_reducible refine Below.drew ?_) | (with_reducible refine Below.drewn ?_) | (with_reducible assumption) | (with_reducible exact Below.refl _ _) | ((with_reducible refine Below.stepp (by with_reducible assumption) ?_ ?_); focus (first | omega | (simp; done) | (simp; omega)))))) (hrr.below (by repeat (first | ((with_reducible refine Below.setc ?_ ?_ _); focus (first | omega | (simp; done) | (simp; omega))) | ((with_reducible refine Below.allocc ?_ ?_ _); focus (first | omega | (simp; done) | (simp; omega))) | (with_reducible refine Below.drew ?_) | (with_reducible refine Below.drewn ?_) | (with_reducible assumption) | (with_reducible exact Below.refl _ _) | ((with_reducible refine Below.stepp (by with_reducible assumption) ?_ ?_); focus (first | omega | (simp; done) | (simp; omega)))))) hrl).mono ?_; rintro e w' ⟨rfl, hB2⟩))
            go_ret
            exact ⟨ret_bool HF.out.symm, (by repeat (first | ((with_reducible refine Below.setc ?_ ?_ _); focus (first | omega | (simp; done) | (simp; omega))) | ((with_reducible refine Below.allocc ?_ ?_ _); focus (first | omega | (simp; done) | (simp; omega))) | (with_reducible refine Below.drew ?_) | (with_reducible refine Below.drewn ?_) | (with_reducible assumption) | (with_reducible exact Below.refl _ _) | ((with_reducible refine Below.stepp (by with_reducible assumption) ?_ ?_); focus (first | omega | (simp; done) | (simp; omega)))))⟩
          · cases hrm : refsM h.cells rs
            · have HF := Lib.hid (bad (by rw [cellOk_used, hrm]; simp))
              clear good bad
              go_wp2_with (first | (go_at_call 100; refine (l1In_any _ _ _ _).mono ?_; rintro e w' ⟨rfl, rfl⟩) | (go_at_call 127; refine (l7Refs_any _ h _ rs _ _ (hv2.below (by repeat (first | ((with_reducible refine Below.setc ?_ ?_ _); focus (first | omega | (simp; done) | (simp; omega))) | ((with_reducible refine Below.allocc ?_ ?_ _); focus (first | omega | (simp; done) | (simp; omega))) | (with_reducible refine Below.drew ?_) | (with_reducible refine Below.drewn ?_) | (with_reducible assumption) | (with_reducible exact Below.refl _ _) | ((with_reducible refine Below.stepp (by with_reducible assumption) ?_ ?_); focus (first | omega | (simp; done) | (simp; omega)))))) (hrr.below (by repeat (first | ((with_reducible refine Below.setc ?_ ?_ _); focus (first | omega | (simp; done) | (simp; omega))) | ((with_reducible refine Below.allocc ?_ ?_ _); focus (first | omega | (simp; done) | (simp; omega))) | (with_reducible refine Below.drew ?_) | (with_reducible refine Below.drewn ?_) | (with_reducible assumption) | (with_reducible exact Below.refl _ _) | ((with_reducible refine Below.stepp (by with_reducible assumption) ?_ ?_); focus (first | omega | (simp; done) | (simp; omega)))))) hrl).mono ?_; rintro e w' ⟨rfl, hB2⟩))
              go_ret
              exact ⟨ret_bool HF.out.symm, (by repeat (first | ((with_reducible refine Below.setc ?_ ?_ _); focus (first | omega | (simp; done) | (simp; omega))) | ((with_reducible refine Below.allocc ?_ ?_ _); focus (first | omega | (simp; done) | (simp; omega))) | (with_reducible refine Below.drew ?_) | (with_reducible refine Below.drewn ?_) | (with_reducible assumption) | (with_reducible exact Below.refl _ _) | ((with_reducible refine Below.stepp (by with_reducible assumption) ?_ ?_); focus (first | omega | (simp; done) | (simp; omega)))))⟩
            · have HG := good (by rw [cellOk_used, hrm, hin]; simp [h2])
              clear good bad
              go_wp2_with (first | (go_at_call 100; refine (l1In_any _ _ _ _).mono ?_; rintro e w' ⟨rfl, rfl⟩) | (go_at_call 127; refine (l7Refs_any _ h _ rs _ _ (hv2.below (by repeat (first | ((with_reducible refine Below.setc ?_ ?_ _); focus (first | omega | (simp; done) | (simp; omega))) | ((with_reducible refine Below.allocc ?_ ?_ _); focus (first | omega | (simp; done) | (simp; omega))) | (with_reducible refine Below.drew ?_) | (with_reducible refine Below.drewn ?_) | (with_reducible assumption) | (with_reducible exact Below.refl _ _) | ((with_reducible refine Below.stepp (by with_reducible assumption) ?_ ?_); focus (first | omega | (simp; done) | (simp; omega)))))) (hrr.below (by repeat (first | ((with_reducible refine Below.setc ?_ ?_ _); focus (first | omega | (simp; done) | (simp; omega))) | ((with_reducible refine Below.allocc ?_ ?_ _); focus (first | omega | (simp; done) | (simp; omega))) | (with_reducible refine Below.drew ?_) | (with_reducible refine Below.drewn ?_) | (with_reducible assumption) | (with_reducible exact Below.refl _ _) | ((with_reducible refine Below.stepp (by with_reducible assumption) ?_ ?_); focus (first | omega | (simp; done) | (simp; omega)))))) hrl).mono ?_; rintro e w' ⟨rfl, hB2⟩))
              go_roundw
              case rel => exact ⟨k + 1, by omega, by go_num, HG, (by repeat (first | ((with_reducible refine Below.setc ?_ ?_ _); focus (first | omega | (simp; done) | (simp; omega))) | ((with_reducible refine Below.allocc ?_ ?_ _); focus (first | omega | (simp; done) | (simp; omega))) | (with_reducible refine Below.drew ?_) | (with_reducible refine Below.drewn ?_) | (with_reducible assumption) | (with_reducible exact Below.refl _ _) | ((with_reducible refine Below.stepp (by with_reducible assumption) ?_ ?_); focus (first | omega | (simp; done) | (simp; omega)))))⟩
              case measure => simp [intOf]; omega
    · have hke : k = h.cells.length := by omega
      have HV : Hid (validM h = (decide (h.cells.length ≤ 40) && decide (h.roots.length = 4) && refsM h.cells h.roots)) := by
        unfold Hid; rw [validM_cells, HS.out, hke]; simp
      have HK := Lib.hid hke
      clear hke HS hc
      rcases Nat.lt_or_ge 40 h.cells.length with h1 | h1
      · go_wp2
        go_ret
        exact ⟨ret_bool (by rw [HV.out]; simp; intro _; omega), (by repeat (first | ((with_reducible refine Below.setc ?_ ?_ _); focus (first | omega | (simp; done) | (simp; omega))) | ((with_reducible refine Below.allocc ?_ ?_ _); focus (first | omega | (simp; done) | (simp; omega))) | (with_reducible refine Below.drew ?_) | (with_reducible refine Below.drewn ?_) | (with_reducible assumption) | (with_reducible exact Below.refl _ _) | ((with_reducible refine Below.stepp (by with_reducible assumption) ?_ ?_); focus (first | omega | (simp; done) | (simp; omega)))))⟩
      rcases (Classical.em (h.roots.length = 4)).symm with h2 | h2
      · have h3 : ((h.roots.length : Int) == 4) = false := by simp; omega
        go_wp2
        go_ret
        exact ⟨ret_bool (by rw [HV.out]; simp [h2]), (by repeat (first | ((with_reducible refine Below.setc ?_ ?_ _); focus (first | omega | (simp; done) | (simp; omega))) | ((with_reducible refine Below.allocc ?_ ?_ _); focus (first | omega | (simp; done) | (simp; omega))) | (with_reducible refine Below.drew ?_) | (with_reducible refine Below.drewn ?_) | (with_reducible assumption) | (with_reducible exact Below.refl _ _) | ((with_reducible refine Below.stepp (by with_reducible assumption) ?_ ?_); focus (first | omega | (simp; done) | (simp; omega)))))⟩
      · have h3 : ((h.roots.length : Int) == 4) = true := by simp [h2]
        have HV2 : Hid (validM h = refsM h.cells h.roots) := by unfold Hid; rw [HV.out]; simp [h1, h2]
        clear h2 HV
        go_wp2_with (go_at_call 127; refine (l7Refs_any _ h _ h.roots _ _ (hv2.below (by repeat (first | ((with_reducible refine Below.setc ?_ ?_ _); focus (first | omega | (simp; done) | (simp; omega))) | ((with_reducible refine Below.allocc ?_ ?_ _); focus (first | omega | (simp; done) | (simp; omega))) | (with_reducible refine Below.drew ?_) | (with_reducible refine Below.drewn ?_) | (with_reducible assumption) | (with_reducible exact Below.refl _ _) | ((with_reducible refine Below.stepp (by with_reducible assumption) ?_ ?_); focus (first | omega | (simp; done) | (simp; omega)))))) (hr.below (by repeat (first | ((with_reducible refine Below.setc ?_ ?_ _); focus (first | omega | (simp; done) | (simp; omega))) | ((with_reducible refine Below.allocc ?_ ?_ _); focus (first | omega | (simp; done) | (simp; omega))) | (with_reducible refine Below.drew ?_) | (with_reducible refine Below.drewn ?_) | (with_reducible assumption) | (with_reducible exact Below.refl _ _) | ((with_reducible refine Below.stepp (by with_reducible assumption) ?_ ?_); focus (first | omega | (simp; done) | (simp; omega)))))) hl2).mono ?_; rintro e w' ⟨rfl, hB2⟩)
        go_ret
        exact ⟨ret_bool HV2.out.symm, (by repeat (first | ((with_reducible refine Below.setc ?_ ?_ _); focus (first | omega | (simp; done) | (simp; omega))) | ((with_reducible refine Below.allocc ?_ ?_ _); focus (first | omega | (simp; done) | (simp; omega))) | (with_reducible refine Below.drew ?_) | (with_reducible refine Below.drewn ?_) | (with_reducible assumption) | (with_reducible exact Below.refl _ _) | ((with_reducible refine Below.stepp (by with_reducible assumption) ?_ ?_); focus (first | omega | (simp; done) | (simp; omega)))))⟩
end Go.Proofs.Ytdkhpmlimnfgpaa
