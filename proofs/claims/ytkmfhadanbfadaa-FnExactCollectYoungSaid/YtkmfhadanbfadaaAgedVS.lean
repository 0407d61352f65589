/- The reference's AgedValid tells agedM, and leaves memory as it is. -/
import Derived.Test.YtkmfhadanbfadaaChecked
import Derived.Test.YtkmfhadanbfadaaAgedV
import Derived.Test.YtkmfhadanbfadaaGrHeap
namespace Go.Proofs.Ytkmfhadanbfadaa
open Go.RowKit
set_option maxRecDepth 100000
set_option linter.unusedSimpArgs false
set_option linter.unusedVariables false
set_option maxRecDepth 100000 in
set_option maxHeartbeats 400000 in
theorem specAgedValid_any (v : Value) (p : TwoM) (w : World) (hv : RTw w v p) :
    Calls Try.prog 126 #[v] w fun e w' => e = .returned (.bool (agedM p)) ∧ Below w.heap.size w w' := by
  obtain ⟨A, c, A', c', A2, c2, A3, c3, rfl, hh, hx, hxl, hy, hyl⟩ := hv
  cases hvd : validM p.store
  · go_enter Try.func126, Try.ntmps126
    go_wp2_with (go_at_call 118; refine (specHeapValid_any _ p.store _ ((hh.below (by repeat (first | ((with_reducible refine Below.setc ?_ ?_ _); focus (first | omega | (simp; done) | (simp; omega))) | ((with_reducible refine Below.allocc ?_ ?_ _); focus (first | omega | (simp; done) | (simp; omega))) | (with_reducible refine Below.drew ?_) | (with_reducible refine Below.drewn ?_) | (with_reducible assumption) | (with_reducible exact Below.refl _ _) | ((with_reducible refine Below.stepp (by with_reducible assumption) ?_ ?_); focus (first | omega | (simp; done) | (simp; omega)))))).rh _ _)).mono ?_; rintro e w1 ⟨rfl, hB⟩; obtain ⟨hbc, hbf, hbz⟩ := bcell hB; have z0w1 : w.heap.size < w1.heap.size := (by (try simp at hbz); omega))
    go_ret
    exact ⟨ret_bool (by rw [agedM, hvd]; simp), (by repeat (first | ((with_reducible refine Below.setc ?_ ?_ _); focus (first | omega | (simp; done) | (simp; omega))) | ((with_reducible refine Below.allocc ?_ ?_ _); focus (first | omega | (simp; done) | (simp; omega))) | (with_reducible refine Below.drew ?_) | (with_reducible refine Below.drewn ?_) | (with_reducible assumption) | (with_reducible exact Below.refl _ _) | ((with_reducible refine Below.stepp (by with_reducible assumption) ?_ ?_); focus (first | omega | (simp; done) | (simp; omega)))))⟩
  rcases (Classical.em (p.x.length = p.store.cells.length)).symm with hl | hl
  · have hl2 : ((p.x.length : Int) != (p.store.cells.length : Int)) = true := by simp; omega
    have HL := Lib.hid hl
    clear hl
    go_enter Try.func126, Try.ntmps126
    go_wp2_with (go_at_call 118; refine (specHeapValid_any _ p.store _ ((hh.below (by repeat (first | ((with_reducible refine Below.setc ?_ ?_ _); focus (first | omega | (simp; done) | (simp; omega))) | ((with_reducible refine Below.allocc ?_ ?_ _); focus (first | omega | (simp; done) | (simp; omega))) | (with_reducible refine Below.drew ?_) | (with_reducible refine Below.drewn ?_) | (with_reducible assumption) | (with_reducible exact Below.refl _ _) | ((with_reducible refine Below.stepp (by with_reducible assumption) ?_ ?_); focus (first | omega | (simp; done) | (simp; omega)))))).rh _ _)).mono ?_; rintro e w1 ⟨rfl, hB⟩; obtain ⟨hbc, hbf, hbz⟩ := bcell hB; have z0w1 : w.heap.size < w1.heap.size := (by (try simp at hbz); omega))
    go_ret
    exact ⟨ret_bool (by rw [agedM]; simp [HL.out]), (by repeat (first | ((with_reducible refine Below.setc ?_ ?_ _); focus (first | omega | (simp; done) | (simp; omega))) | ((with_reducible refine Below.allocc ?_ ?_ _); focus (first | omega | (simp; done) | (simp; omega))) | (with_reducible refine Below.drew ?_) | (with_reducible refine Below.drewn ?_) | (with_reducible assumption) | (with_reducible exact Below.refl _ _) | ((with_reducible refine Below.stepp (by with_reducible assumption) ?_ ?_); focus (first | omega | (simp; done) | (simp; omega)))))⟩
  have hl2 : ((p.x.length : Int) != (p.store.cells.length : Int)) = false := by simp [hl]
  rcases (Classical.em (p.y.length = p.store.cells.length)).symm with hm | hm
  · have hm2 : ((p.y.length : Int) != (p.store.cells.length : Int)) = true := by simp; omega
    have HL := Lib.hid hm
    clear hl hm
    go_enter Try.func126, Try.ntmps126
    go_wp2_with (go_at_call 118; refine (specHeapValid_any _ p.store _ ((hh.below (by repeat (first | ((with_reducible refine Below.setc ?_ ?_ _); focus (first | omega | (simp; done) | (simp; omega))) | ((with_reducible refine Below.allocc ?_ ?_ _); focus (first | omega | (simp; done) | (simp; omega))) | (with_reducible refine Below.drew ?_) | (with_reducible refine Below.drewn ?_) | (with_reducible assumption) | (with_reducible exact Below.refl _ _) | ((with_reducible refine Below.stepp (by with_reducible assumption) ?_ ?_); focus (first | omega | (simp; done) | (simp; omega)))))).rh _ _)).mono ?_; rintro e w1 ⟨rfl, hB⟩; obtain ⟨hbc, hbf, hbz⟩ := bcell hB; have z0w1 : w.heap.size < w1.heap.size := (by (try simp at hbz); omega))
    go_ret
    exact ⟨ret_bool (by rw [agedM]; simp [HL.out]), (by repeat (first | ((with_reducible refine Below.setc ?_ ?_ _); focus (first | omega | (simp; done) | (simp; omega))) | ((with_reducible refine Below.allocc ?_ ?_ _); focus (first | omega | (simp; done) | (simp; omega))) | (with_reducible refine Below.drew ?_) | (with_reducible refine Below.drewn ?_) | (with_reducible assumption) | (with_reducible exact Below.refl _ _) | ((with_reducible refine Below.stepp (by with_reducible assumption) ?_ ?_); focus (first | omega | (simp; done) | (simp; omega)))))⟩
  have hm2 : ((p.y.length : Int) != (p.store.cells.length : Int)) = false := by simp [hm]
  have H0 : Hid (agedM p = ((List.range p.store.cells.length).all (agedOk p) && (List.range p.store.cells.length).all (agedRefs p))) := by
    unfold Hid; rw [agedM, hvd]; simp [hl, hm]
  have HLD := Lib.hid (validM_leads hvd).1
  have hxy : p.x.length ≤ p.y.length := by omega
  have hxc : p.x.length ≤ p.store.cells.length := by omega
  have HLX := Lib.hid hl
  clear hl hm
  go_enter Try.func126, Try.ntmps126
  go_wp2_with (go_at_call 118; refine (specHeapValid_any _ p.store _ ((hh.below (by repeat (first | ((with_reducible refine Below.setc ?_ ?_ _); focus (first | omega | (simp; done) | (simp; omega))) | ((with_reducible refine Below.allocc ?_ ?_ _); focus (first | omega | (simp; done) | (simp; omega))) | (with_reducible refine Below.drew ?_) | (with_reducible refine Below.drewn ?_) | (with_reducible assumption) | (with_reducible exact Below.refl _ _) | ((with_reducible refine Below.stepp (by with_reducible assumption) ?_ ?_); focus (first | omega | (simp; done) | (simp; omega)))))).rh _ _)).mono ?_; rintro e w1 ⟨rfl, hB⟩; obtain ⟨hbc, hbf, hbz⟩ := bcell hB; have z0w1 : w.heap.size < w1.heap.size := (by (try simp at hbz); omega))
  have hB9 : Below (w.heap.size + 1) (w.alloc (.cells #[.slice A p.store.cells.length c, .slice A' p.store.roots.length c', .slice A2 p.x.length c2, .slice A3 p.y.length c3] 83)) w1 := hB.mono (by simp)
  clear hB hbc hbf hbz z0w1 hl2 hm2 hvd
  go_loopw [3] (fun i wr => ∃ k : Nat, k ≤ p.x.length ∧ i = .int .i64 k ∧ Hid (∀ i, i < k → agedOk p i = true ∧ agedRefs p i = true) ∧ Below (w.heap.size + 1) (w.alloc (.cells #[.slice A p.store.cells.length c, .slice A' p.store.roots.length c', .slice A2 p.x.length c2, .slice A3 p.y.length c3] 83)) wr) (fun i _ => p.x.length - (intOf i).toNat)
  case atStart => exact ⟨0, by omega, rfl, fun i hi => absurd hi (by omega), hB9⟩
  case round =>
    clear hB9
    obtain ⟨k, hk, rfl, HS, hB⟩ := hrel
    have hB0 : Below w.heap.size w wr := Below.trans (by repeat (first | ((with_reducible refine Below.setc ?_ ?_ _); focus (first | omega | (simp; done) | (simp; omega))) | ((with_reducible refine Below.allocc ?_ ?_ _); focus (first | omega | (simp; done) | (simp; omega))) | (with_reducible refine Below.drew ?_) | (with_reducible refine Below.drewn ?_) | (with_reducible assumption) | (with_reducible exact Below.refl _ _) | ((with_reducible refine Below.stepp (by with_reducible assumption) ?_ ?_); focus (first | omega | (simp; done) | (simp; omega))))) (hB.mono (by omega))
    obtain ⟨hbc, hbf, hbz⟩ := bcell (hB.mono (show (w.alloc (.cells #[.slice A p.store.cells.length c, .slice A' p.store.roots.length c', .slice A2 p.x.length c2, .slice A3 p.y.length c3] 83)).heap.size ≤ w.heap.size + 1 by simp))
    have z0wr : w.heap.size < wr.heap.size := (by (try simp at hbz); omega)
    by_cases hlt : k < p.x.length
    · obtain ⟨b, o, x, rfl, gx, c1, hb⟩ := (hx.below hB0).at_ hlt
      have c1' : wr.cell? ⟨b, o + k, none⟩ = some (.bool x) := c1
      obtain ⟨b2, o2, y, rfl, gy, e1, hb2⟩ := (hy.below hB0).at_ (k := k) (by omega)
      have e1' : wr.cell? ⟨b2, o2 + k, none⟩ = some (.bool y) := e1
      obtain ⟨b', o', z, Ar, cr, rfl, gz, d1, d2, d3, hrr, hrl, hb'⟩ := (hh.cells.below hB0).at_ (k := k) (by omega)
      have hxx := hx.below hB0
      have HO : Hid (agedOk p k = ((!x || z.used) && (!y || x))) := by
        unfold Hid; rw [agedOk, getD_of gy, getD_of gx, usedN_at gz]
      have HR : Hid (agedRefs p k = (!(x && !y) || !z.refs.any (youngRef p.x))) := by
        unfold Hid; rw [agedRefs, getD_of gy, getD_of gx, gz]
      have hkc : k < p.store.cells.length := by omega
      have hky : k < p.y.length := by omega
      have hld : Hid (∀ r ∈ z.refs, leadsM p.store.cells r = true) := HLD.out z (List.mem_of_getElem? gz)
      clear gx gy gz c1 e1 hx hy hh
      have bad1 : agedOk p k = false → agedM p = false := fun e => by rw [H0.out, all_range_false hkc e]; rfl
      have bad2 : agedRefs p k = false → agedM p = false := fun e => by rw [H0.out, all_range_false hkc e]; simp
      have good : agedOk p k = true → agedRefs p k = true → Hid (∀ i, i < k + 1 → agedOk p i = true ∧ agedRefs p i = true) := fun e1 e2 i hi => by
        rcases Nat.lt_or_ge i k with h | h
        · exact HS.out i h
        · rw [show i = k by omega]; exact ⟨e1, e2⟩
      rcases bool_ft ((!x || z.used) && (!y || x)) with hok | hok
      · have HF := Lib.hid (bad1 (HO.out.trans hok))
        clear bad1 bad2 good
        rcases bool_ft z.used with hu | hu
        all_goals
          rw [hu] at d1 hok
          cases x
          all_goals
            cases y
            all_goals
              first
              | (cases hok; done)
              | (clear hok
                 go_wp2
                 go_ret
                 exact ⟨ret_bool HF.out.symm, (by repeat (first | ((with_reducible refine Below.setc ?_ ?_ _); focus (first | omega | (simp; done) | (simp; omega))) | ((with_reducible refine Below.allocc ?_ ?_ _); focus (first | omega | (simp; done) | (simp; omega))) | (with_reducible refine Below.drew ?_) | (with_reducible refine Below.drewn ?_) | (with_reducible assumption) | (with_reducible exact Below.refl _ _) | ((with_reducible refine Below.stepp (by with_reducible assumption) ?_ ?_); focus (first | omega | (simp; done) | (simp; omega)))))⟩)
      by_cases hy1 : x = true ∧ y = false
      · obtain ⟨rfl, rfl⟩ := hy1
        have hu : z.used = true := by simpa using hok
        rw [hu] at d1
        clear hok bad1
        go_wp2
        go_loopw [4] (fun i wq => ∃ j : Nat, j ≤ z.refs.length ∧ i = .int .i64 j ∧ Hid (agedRefs p k = !(z.refs.drop j).any (youngRef p.x)) ∧ wr = wq) (fun i _ => z.refs.length - (intOf i).toNat)
        case atStart => exact ⟨0, by omega, rfl, by unfold Hid; rw [HR.out]; simp, rfl⟩
        case round =>
          obtain ⟨j, hj, rfl, HJ, rfl⟩ := hrel
          by_cases hjt : j < z.refs.length
          · obtain ⟨b3, o3, r, rfl, gr, q1, hb3⟩ := hrr.at_ hjt
            have q1' : wr.cell? ⟨b3, o3 + j, none⟩ = some (.int .i64 r) := q1
            have hr64 : r < (p.x.length : Int) := by rw [HLX.out]; exact leadsM_lt (hld.out r (List.mem_of_getElem? gr))
            have GR := Lib.hid gr
            clear gr q1 hrr
            rcases Classical.em (r < 0) with h0 | h0
            · have HE : Hid (youngRef p.x r = false) := by unfold Hid; simp [youngRef]; omega
              go_wp2
              go_roundw
              case rel => exact ⟨j + 1, by omega, by go_num, by unfold Hid; rw [HJ.out, any_drop _ GR.out, HE.out]; simp, by first | trivial | rfl⟩
              case measure => simp [intOf]; omega
            · obtain ⟨b4, o4, q, hA4, gq, q2, hb4⟩ := hxx.at_ (k := r.toNat) (by omega)
              injection hA4 with hA4
              injection hA4 with hA4 hA5
              subst hA4; subst hA5
              have q3 : wr.cell? ⟨b, o + r.toNat, none⟩ = some (.bool q) := q2
              have HE : Hid (youngRef p.x r = !q) := by unfold Hid; rw [youngRef, getD_of gq]; simp; omega
              clear gq q2 hxx
              cases q
              · have HF := Lib.hid (bad2 (by rw [HJ.out, any_drop _ GR.out, HE.out]; simp))
                clear bad2 good
                go_wp2
                go_ret
                exact ⟨ret_bool HF.out.symm, (by repeat (first | ((with_reducible refine Below.setc ?_ ?_ _); focus (first | omega | (simp; done) | (simp; omega))) | ((with_reducible refine Below.allocc ?_ ?_ _); focus (first | omega | (simp; done) | (simp; omega))) | (with_reducible refine Below.drew ?_) | (with_reducible refine Below.drewn ?_) | (with_reducible assumption) | (with_reducible exact Below.refl _ _) | ((with_reducible refine Below.stepp (by with_reducible assumption) ?_ ?_); focus (first | omega | (simp; done) | (simp; omega)))))⟩
              · go_wp2
                go_roundw
                case rel => exact ⟨j + 1, by omega, by go_num, by unfold Hid; rw [HJ.out, any_drop _ GR.out, HE.out]; simp, by first | trivial | rfl⟩
                case measure => simp [intOf]; omega
          · have hje : j = z.refs.length := by omega
            have HG := good (HO.out.trans (by rw [hu]; rfl)) (by rw [HJ.out, hje]; simp)
            clear hje bad2 good
            go_wp2
            go_roundw
            case rel => exact ⟨k + 1, by omega, by go_num, HG, (by repeat (first | ((with_reducible refine Below.setc ?_ ?_ _); focus (first | omega | (simp; done) | (simp; omega))) | ((with_reducible refine Below.allocc ?_ ?_ _); focus (first | omega | (simp; done) | (simp; omega))) | (with_reducible refine Below.drew ?_) | (with_reducible refine Below.drewn ?_) | (with_reducible assumption) | (with_reducible exact Below.refl _ _) | ((with_reducible refine Below.stepp (by with_reducible assumption) ?_ ?_); focus (first | omega | (simp; done) | (simp; omega)))))⟩
            case measure => simp [intOf]; omega
      · have HG := good (HO.out.trans hok) (by rw [HR.out]; cases x <;> cases y <;> simp_all)
        clear bad1 bad2 good
        rcases bool_ft z.used with hu | hu
        all_goals
          rw [hu] at d1 hok
          cases x
          all_goals
            cases y
            all_goals
              first
              | (cases hok; done)
              | (exact absurd ⟨rfl, rfl⟩ hy1)
              | (clear hok hy1
                 go_wp2
                 refine wp_loop_once ?_
                 go_wp2
                 all_goals
                   go_roundw
                   case rel => exact ⟨k + 1, by omega, by go_num, HG, (by repeat (first | ((with_reducible refine Below.setc ?_ ?_ _); focus (first | omega | (simp; done) | (simp; omega))) | ((with_reducible refine Below.allocc ?_ ?_ _); focus (first | omega | (simp; done) | (simp; omega))) | (with_reducible refine Below.drew ?_) | (with_reducible refine Below.drewn ?_) | (with_reducible assumption) | (with_reducible exact Below.refl _ _) | ((with_reducible refine Below.stepp (by with_reducible assumption) ?_ ?_); focus (first | omega | (simp; done) | (simp; omega)))))⟩
                   case measure => simp [intOf]; omega)
    · have hke : k = p.x.length := by omega
      have HT : Hid (agedM p = true) := by
        unfold Hid; rw [H0.out, Bool.and_eq_true, all_range, all_range, ← HLX.out, ← hke]
        exact ⟨fun i hi => (HS.out i hi).1, fun i hi => (HS.out i hi).2⟩
      clear hke
      go_wp2
      go_ret
      exact ⟨ret_bool HT.out.symm, (by repeat (first | ((with_reducible refine Below.setc ?_ ?_ _); focus (first | omega | (simp; done) | (simp; omega))) | ((with_reducible refine Below.allocc ?_ ?_ _); focus (first | omega | (simp; done) | (simp; omega))) | (with_reducible refine Below.drew ?_) | (with_reducible refine Below.drewn ?_) | (with_reducible assumption) | (with_reducible exact Below.refl _ _) | ((with_reducible refine Below.stepp (by with_reducible assumption) ?_ ?_); focus (first | omega | (simp; done) | (simp; omega)))))⟩
end Go.Proofs.Ytkmfhadanbfadaa
