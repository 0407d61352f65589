/- Where an instruction's reference lies (place), and whether an instruction is possible, in both. -/
import Derived.Test.YtngmkflmjjkjaaaChecked
import Derived.Deep.RegionHeld3
import Derived.Deep.DeepCutAuto
import Derived.Test.YtngmkflmjjkjaaaCmdV
import Derived.Test.YtngmkflmjjkjaaaGrHeap
import Derived.Test.YtngmkflmjjkjaaaGrOwn
namespace Go.Proofs.Ytngmkflmjjkjaaa
open Go.RowKit
set_option maxRecDepth 100000
set_option linter.unusedSimpArgs false
set_option linter.unusedVariables false
theorem rootAt_of {h : HeapM} {root r : Int} (hr : h.roots[root.toNat]? = some r) : rootAt h root = r := by simp [rootAt, hr]
theorem placeOk_neg {h : HeapM} {root c r : Int} (hr : h.roots[root.toNat]? = some r) (h0 : r < 0) : placeOk h root c = false := by
  unfold placeOk; rw [rootAt_of hr]; simp; omega
theorem placeOk_at {h : HeapM} {root c r : Int} {d : CellM} (hr : h.roots[root.toNat]? = some r) (h0 : 0 ≤ r) (hd : h.cells[r.toNat]? = some d) : placeOk h root c = decide (c < (d.refs.length : Int)) := by
  unfold placeOk; rw [rootAt_of hr, refsAt_of hd]; simp [h0]
set_option maxHeartbeats 4000000 in
theorem place_any (A A' : Option Addr) (c c' : Nat) (h : HeapM) (root ci : Int) (w : World) (hv : RHs w A A' h) (hr0 : 0 ≤ root) (hr1 : root < h.roots.length) (hlt : ∀ r ∈ h.roots, r < h.cells.length) (hc0 : 0 ≤ ci) :
    Calls Try.prog 102 #[.agg #[.slice A h.cells.length c, .slice A' h.roots.length c'], .int .i64 root, .int .i64 ci] w fun e w' =>
      ∃ P, e = .returned (.tuple #[.pointer P, .bool (placeOk h root ci)]) ∧ (placeOk h root ci = true → ∃ b o Ar n cr b2 o2, A = some ⟨b, o, none⟩ ∧ 0 ≤ rootAt h root ∧ w.cell? ⟨b, o + (rootAt h root).toNat * 3 + 2, none⟩ = some (.slice Ar n cr) ∧ Ar = some ⟨b2, o2, none⟩ ∧ P = some ⟨b2, o2 + ci.toNat, none⟩) ∧ Below w.heap.size w w' := by
  obtain ⟨hc, hr, hl1, hl2⟩ := hv
  obtain ⟨b', o', r, rfl, gr, c1, hb'⟩ := hr.at_ (k := root.toNat) (by omega)
  have c1' : (w.alloc (.cells #[.slice A h.cells.length c, .slice (some ⟨b', o', none⟩) h.roots.length c'] 28)).cell? ⟨b', o' + root.toNat, none⟩ = some (.int .i64 r) := cell_below c1 (by repeat (first | ((with_reducible refine Below.setc ?_ ?_ _); focus (first | omega | (simp; done) | (simp; omega))) | ((with_reducible refine Below.allocc ?_ ?_ _); focus (first | omega | (simp; done) | (simp; omega))) | (with_reducible refine Below.drew ?_) | (with_reducible refine Below.drewn ?_) | (with_reducible assumption) | (with_reducible exact Below.refl _ _) | ((with_reducible refine Below.stepp (by with_reducible assumption) ?_ ?_); focus (first | omega | (simp; done) | (simp; omega)))))
  have hrx := hlt r (List.mem_of_getElem? gr)
  have HRA := Lib.hid (rootAt_of gr)
  rcases Classical.em (r < 0) with h0 | h0
  · have HP := Lib.hid (placeOk_neg (c := ci) gr h0)
    clear gr hlt c1 hc hr
    go_enter Try.func102, Try.ntmps102
    go_wp2
    go_ret2
    refine ⟨none, ?_, ?_, (by repeat (first | ((with_reducible refine Below.setc ?_ ?_ _); focus (first | omega | (simp; done) | (simp; omega))) | ((with_reducible refine Below.allocc ?_ ?_ _); focus (first | omega | (simp; done) | (simp; omega))) | (with_reducible refine Below.drew ?_) | (with_reducible refine Below.drewn ?_) | (with_reducible assumption) | (with_reducible exact Below.refl _ _) | ((with_reducible refine Below.stepp (by with_reducible assumption) ?_ ?_); focus (first | omega | (simp; done) | (simp; omega)))))⟩
    · rw [HP.out]; rfl
    · intro hp; rw [HP.out] at hp; cases hp
  · obtain ⟨b, o, d, Ar, cr, rfl, gd, c2, c3, c4, hrr, hrl, hb⟩ := hc.at_ (k := r.toNat) (by omega)
    have HP := Lib.hid (placeOk_at (c := ci) gr (by omega) gd)
    have c4' : (w.alloc (.cells #[.slice (some ⟨b, o, none⟩) h.cells.length c, .slice (some ⟨b', o', none⟩) h.roots.length c'] 28)).cell? ⟨b, o + r.toNat * 3 + 2, none⟩ = some (.slice Ar d.refs.length cr) := cell_below c4 (by repeat (first | ((with_reducible refine Below.setc ?_ ?_ _); focus (first | omega | (simp; done) | (simp; omega))) | ((with_reducible refine Below.allocc ?_ ?_ _); focus (first | omega | (simp; done) | (simp; omega))) | (with_reducible refine Below.drew ?_) | (with_reducible refine Below.drewn ?_) | (with_reducible assumption) | (with_reducible exact Below.refl _ _) | ((with_reducible refine Below.stepp (by with_reducible assumption) ?_ ?_); focus (first | omega | (simp; done) | (simp; omega)))))
    have h0' : 0 ≤ r := by omega
    have HC4 := Lib.hid c4
    clear gr gd hlt c1 c2 c3 c4 hc hr h0
    rcases Classical.em (ci < (d.refs.length : Int)) with h1 | h1
    · obtain ⟨b2, o2, x, rfl, gx, c5, hb2⟩ := hrr.at_ (k := ci.toNat) (by omega)
      clear gx c5 hrr
      go_enter Try.func102, Try.ntmps102
      go_wp2
      go_ret2
      refine ⟨some ⟨b2, o2 + ci.toNat, none⟩, ?_, ?_, (by repeat (first | ((with_reducible refine Below.setc ?_ ?_ _); focus (first | omega | (simp; done) | (simp; omega))) | ((with_reducible refine Below.allocc ?_ ?_ _); focus (first | omega | (simp; done) | (simp; omega))) | (with_reducible refine Below.drew ?_) | (with_reducible refine Below.drewn ?_) | (with_reducible assumption) | (with_reducible exact Below.refl _ _) | ((with_reducible refine Below.stepp (by with_reducible assumption) ?_ ?_); focus (first | omega | (simp; done) | (simp; omega)))))⟩
      · rw [HP.out]; simp [h1]
      · intro _; exact ⟨b, o, _, _, _, b2, o2, rfl, by rw [HRA.out]; exact h0', by rw [HRA.out]; exact HC4.out, rfl, rfl⟩
    · clear hrr
      go_enter Try.func102, Try.ntmps102
      go_wp2
      go_ret2
      refine ⟨none, ?_, ?_, (by repeat (first | ((with_reducible refine Below.setc ?_ ?_ _); focus (first | omega | (simp; done) | (simp; omega))) | ((with_reducible refine Below.allocc ?_ ?_ _); focus (first | omega | (simp; done) | (simp; omega))) | (with_reducible refine Below.drew ?_) | (with_reducible refine Below.drewn ?_) | (with_reducible assumption) | (with_reducible exact Below.refl _ _) | ((with_reducible refine Below.stepp (by with_reducible assumption) ?_ ?_); focus (first | omega | (simp; done) | (simp; omega)))))⟩
      · rw [HP.out]; simp [h1]
      · intro hp; rw [HP.out] at hp; exact absurd (of_decide_eq_true hp) (by omega)
set_option maxHeartbeats 400000 in
theorem always_any (A A' : Option Addr) (c c' : Nat) (h : HeapM) (o : CmdM) (w : World) : Calls Try.prog 100 #[.agg #[.slice A h.cells.length c, .slice A' h.roots.length c'], .agg #[.int .i64 o.op, .int .i64 o.a, .int .i64 o.b, .int .i64 o.c]] w fun e w' => e = .returned (.bool true) ∧ Below w.heap.size w w' := by
  go_enter Try.func100, Try.ntmps100
  go_wp2
  go_ret
  exact ⟨rfl, (by repeat (first | ((with_reducible refine Below.setc ?_ ?_ _); focus (first | omega | (simp; done) | (simp; omega))) | ((with_reducible refine Below.allocc ?_ ?_ _); focus (first | omega | (simp; done) | (simp; omega))) | (with_reducible refine Below.drew ?_) | (with_reducible refine Below.drewn ?_) | (with_reducible assumption) | (with_reducible exact Below.refl _ _) | ((with_reducible refine Below.stepp (by with_reducible assumption) ?_ ?_); focus (first | omega | (simp; done) | (simp; omega)))))⟩
set_option maxHeartbeats 400000 in
theorem poss1_any (A A' : Option Addr) (c c' : Nat) (h : HeapM) (o : CmdM) (w : World) (hv : RHs w A A' h) (hr0 : 0 ≤ o.b) (hr1 : o.b < h.roots.length) (hlt : ∀ r ∈ h.roots, r < h.cells.length) (hc0 : 0 ≤ o.c) :
    Calls Try.prog 101 #[.agg #[.slice A h.cells.length c, .slice A' h.roots.length c'], .agg #[.int .i64 o.op, .int .i64 o.a, .int .i64 o.b, .int .i64 o.c]] w fun e w' => e = .returned (.bool (placeOk h o.b o.c)) ∧ Below w.heap.size w w' := by
  go_enter Try.func101, Try.ntmps101
  go_wp2_with (go_at_call 102; refine (place_any A A' c c' h _ _ _ (hv.below (by repeat (first | ((with_reducible refine Below.setc ?_ ?_ _); focus (first | omega | (simp; done) | (simp; omega))) | ((with_reducible refine Below.allocc ?_ ?_ _); focus (first | omega | (simp; done) | (simp; omega))) | (with_reducible refine Below.drew ?_) | (with_reducible refine Below.drewn ?_) | (with_reducible assumption) | (with_reducible exact Below.refl _ _) | ((with_reducible refine Below.stepp (by with_reducible assumption) ?_ ?_); focus (first | omega | (simp; done) | (simp; omega)))))) hr0 hr1 hlt hc0).mono ?_; rintro e w1 ⟨P, rfl, -, hB1⟩)
  go_ret
  exact ⟨rfl, (by repeat (first | ((with_reducible refine Below.setc ?_ ?_ _); focus (first | omega | (simp; done) | (simp; omega))) | ((with_reducible refine Below.allocc ?_ ?_ _); focus (first | omega | (simp; done) | (simp; omega))) | (with_reducible refine Below.drew ?_) | (with_reducible refine Below.drewn ?_) | (with_reducible assumption) | (with_reducible exact Below.refl _ _) | ((with_reducible refine Below.stepp (by with_reducible assumption) ?_ ?_); focus (first | omega | (simp; done) | (simp; omega)))))⟩
set_option maxHeartbeats 400000 in
theorem poss3_any (A A' : Option Addr) (c c' : Nat) (h : HeapM) (o : CmdM) (w : World) (hv : RHs w A A' h) (hr0 : 0 ≤ o.a) (hr1 : o.a < h.roots.length) (hlt : ∀ r ∈ h.roots, r < h.cells.length) (hc0 : 0 ≤ o.c) :
    Calls Try.prog 104 #[.agg #[.slice A h.cells.length c, .slice A' h.roots.length c'], .agg #[.int .i64 o.op, .int .i64 o.a, .int .i64 o.b, .int .i64 o.c]] w fun e w' => e = .returned (.bool (placeOk h o.a o.c)) ∧ Below w.heap.size w w' := by
  go_enter Try.func104, Try.ntmps104
  go_wp2_with (go_at_call 102; refine (place_any A A' c c' h _ _ _ (hv.below (by repeat (first | ((with_reducible refine Below.setc ?_ ?_ _); focus (first | omega | (simp; done) | (simp; omega))) | ((with_reducible refine Below.allocc ?_ ?_ _); focus (first | omega | (simp; done) | (simp; omega))) | (with_reducible refine Below.drew ?_) | (with_reducible refine Below.drewn ?_) | (with_reducible assumption) | (with_reducible exact Below.refl _ _) | ((with_reducible refine Below.stepp (by with_reducible assumption) ?_ ?_); focus (first | omega | (simp; done) | (simp; omega)))))) hr0 hr1 hlt hc0).mono ?_; rintro e w1 ⟨P, rfl, -, hB1⟩)
  go_ret
  exact ⟨rfl, (by repeat (first | ((with_reducible refine Below.setc ?_ ?_ _); focus (first | omega | (simp; done) | (simp; omega))) | ((with_reducible refine Below.allocc ?_ ?_ _); focus (first | omega | (simp; done) | (simp; omega))) | (with_reducible refine Below.drew ?_) | (with_reducible refine Below.drewn ?_) | (with_reducible assumption) | (with_reducible exact Below.refl _ _) | ((with_reducible refine Below.stepp (by with_reducible assumption) ?_ ?_); focus (first | omega | (simp; done) | (simp; omega)))))⟩
set_option maxHeartbeats 400000 in
theorem poss7_any (A A' : Option Addr) (c c' : Nat) (h : HeapM) (o : CmdM) (w : World) (hv : RHs w A A' h) (hr0 : 0 ≤ o.a) (hr1 : o.a < h.roots.length) :
    Calls Try.prog 108 #[.agg #[.slice A h.cells.length c, .slice A' h.roots.length c'], .agg #[.int .i64 o.op, .int .i64 o.a, .int .i64 o.b, .int .i64 o.c]] w fun e w' => e = .returned (.bool (decide (0 ≤ rootAt h o.a))) ∧ Below w.heap.size w w' := by
  obtain ⟨hc, hr, hl1, hl2⟩ := hv
  obtain ⟨b', o', r, rfl, gr, c1, hb'⟩ := hr.at_ (k := o.a.toNat) (by omega)
  have c1' : (((w.alloc (.cells #[.slice A h.cells.length c, .slice (some ⟨b', o', none⟩) h.roots.length c'] 28))).alloc (.cells #[.int .i64 o.op, .int .i64 o.a, .int .i64 o.b, .int .i64 o.c] 36)).cell? ⟨b', o' + o.a.toNat, none⟩ = some (.int .i64 r) := cell_below c1 (by repeat (first | ((with_reducible refine Below.setc ?_ ?_ _); focus (first | omega | (simp; done) | (simp; omega))) | ((with_reducible refine Below.allocc ?_ ?_ _); focus (first | omega | (simp; done) | (simp; omega))) | (with_reducible refine Below.drew ?_) | (with_reducible refine Below.drewn ?_) | (with_reducible assumption) | (with_reducible exact Below.refl _ _) | ((with_reducible refine Below.stepp (by with_reducible assumption) ?_ ?_); focus (first | omega | (simp; done) | (simp; omega)))))
  have HRA := Lib.hid (rootAt_of gr)
  clear gr c1
  rcases Classical.em (0 ≤ r) with h0 | h0
  · go_enter Try.func108, Try.ntmps108
    go_wp2
    go_ret
    exact ⟨ret_bool (by rw [HRA.out]; simp [h0]), (by repeat (first | ((with_reducible refine Below.setc ?_ ?_ _); focus (first | omega | (simp; done) | (simp; omega))) | ((with_reducible refine Below.allocc ?_ ?_ _); focus (first | omega | (simp; done) | (simp; omega))) | (with_reducible refine Below.drew ?_) | (with_reducible refine Below.drewn ?_) | (with_reducible assumption) | (with_reducible exact Below.refl _ _) | ((with_reducible refine Below.stepp (by with_reducible assumption) ?_ ?_); focus (first | omega | (simp; done) | (simp; omega)))))⟩
  · go_enter Try.func108, Try.ntmps108
    go_wp2
    go_ret
    exact ⟨ret_bool (by rw [HRA.out]; simp [h0]), (by repeat (first | ((with_reducible refine Below.setc ?_ ?_ _); focus (first | omega | (simp; done) | (simp; omega))) | ((with_reducible refine Below.allocc ?_ ?_ _); focus (first | omega | (simp; done) | (simp; omega))) | (with_reducible refine Below.drew ?_) | (with_reducible refine Below.drewn ?_) | (with_reducible assumption) | (with_reducible exact Below.refl _ _) | ((with_reducible refine Below.stepp (by with_reducible assumption) ?_ ?_); focus (first | omega | (simp; done) | (simp; omega)))))⟩
end Go.Proofs.Ytngmkflmjjkjaaa
