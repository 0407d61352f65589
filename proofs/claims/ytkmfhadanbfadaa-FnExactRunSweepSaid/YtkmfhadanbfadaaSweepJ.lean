/- The program's SweepCells returns sweepM, in new memory. -/
import Derived.Test.YtkmfhadanbfadaaChecked
import Derived.Deep.DeepCutAuto
import Derived.Lib.QuietBelow
import Derived.Test.YtkmfhadanbfadaaSweepI
import Derived.Test.YtkmfhadanbfadaaGrExec
namespace Go.Proofs.Ytkmfhadanbfadaa
open Go.RowKit
open Go.Sort
set_option maxRecDepth 100000
set_option linter.unusedSimpArgs false
set_option linter.unusedVariables false
theorem sweep_outB {h : HeapM} {marks : List Bool} (ho : outB h marks = true) : sweepM h marks = (zeroH, -1) := sweep_no (fun hh => by rw [ho] at hh; cases hh.2.2)
set_option maxHeartbeats 4000000 in
theorem implSweepCells_any (v : Value) (h : HeapM) (A2 : Option Addr) (marks : List Bool) (c2 : Nat) (w : World) (hv : RH w v h) (hm : RF fb w A2 marks) (hml : marks.length ≤ 9223372036854775807) :
    Calls Try.prog 76 #[v, .slice A2 marks.length c2] w fun e w' => ∃ v', e = .returned (.tuple #[v', .int .i64 (sweepM h marks).2]) ∧ OH w.heap.size w' v' (sweepM h marks).1 ∧ Below w.heap.size w w' := by
  have hv0 := hv
  obtain ⟨A, c, A', c', rfl, hc, hr, hl1, hl2⟩ := hv
  have HB : ∀ d os_, Below w.heap.size w (grow (redrawn (((w.alloc (.cells #[.slice A h.cells.length c, .slice A' h.roots.length c'] 32)).alloc (.cells #[.slice none 0 0, .slice none 0 0] 32))) d) os_) := fun d os_ => (show Below w.heap.size w (((w.alloc (.cells #[.slice A h.cells.length c, .slice A' h.roots.length c'] 32)).alloc (.cells #[.slice none 0 0, .slice none 0 0] 32))) from (by repeat (first | ((with_reducible refine Below.setc ?_ ?_ _); focus (first | omega | (simp; done) | (simp; omega))) | ((with_reducible refine Below.allocc ?_ ?_ _); focus (first | omega | (simp; done) | (simp; omega))) | (with_reducible refine Below.drew ?_) | (with_reducible refine Below.drewn ?_) | (with_reducible assumption) | (with_reducible exact Below.refl _ _) | ((with_reducible refine Below.stepp (by with_reducible assumption) ?_ ?_); focus (first | omega | (simp; done) | (simp; omega)))))).trans ((below_regrown _ d os_).mono (by simp; omega))
  have HWB : Hid (Below w.heap.size w (((w.alloc (.cells #[.slice A h.cells.length c, .slice A' h.roots.length c'] 32)).alloc (.cells #[.slice none 0 0, .slice none 0 0] 32)))) := by unfold Hid; exact (by repeat (first | ((with_reducible refine Below.setc ?_ ?_ _); focus (first | omega | (simp; done) | (simp; omega))) | ((with_reducible refine Below.allocc ?_ ?_ _); focus (first | omega | (simp; done) | (simp; omega))) | (with_reducible refine Below.drew ?_) | (with_reducible refine Below.drewn ?_) | (with_reducible assumption) | (with_reducible exact Below.refl _ _) | ((with_reducible refine Below.stepp (by with_reducible assumption) ?_ ?_); focus (first | omega | (simp; done) | (simp; omega)))))
  have h0 : (((w.alloc (.cells #[.slice A h.cells.length c, .slice A' h.roots.length c'] 32)).alloc (.cells #[.slice none 0 0, .slice none 0 0] 32))).cell? ⟨w.heap.size, 0, none⟩ = some (.slice A h.cells.length c) := by simp [go_sem]
  have h1 : (((w.alloc (.cells #[.slice A h.cells.length c, .slice A' h.roots.length c'] 32)).alloc (.cells #[.slice none 0 0, .slice none 0 0] 32))).cell? ⟨w.heap.size, 1, none⟩ = some (.slice A' h.roots.length c') := by simp [go_sem]
  have n0 : (((w.alloc (.cells #[.slice A h.cells.length c, .slice A' h.roots.length c'] 32)).alloc (.cells #[.slice none 0 0, .slice none 0 0] 32))).cell? ⟨w.heap.size + 1, 0, none⟩ = some (.slice none 0 0) := by simp [go_sem]
  have n1 : (((w.alloc (.cells #[.slice A h.cells.length c, .slice A' h.roots.length c'] 32)).alloc (.cells #[.slice none 0 0, .slice none 0 0] 32))).cell? ⟨w.heap.size + 1, 1, none⟩ = some (.slice none 0 0) := by simp [go_sem]
  have nf : ∀ o, (((w.alloc (.cells #[.slice A h.cells.length c, .slice A' h.roots.length c'] 32)).alloc (.cells #[.slice none 0 0, .slice none 0 0] 32))).frozen? ⟨w.heap.size + 1, o, none⟩ = false := fun o => by simp [go_sem]
  have z3 : w.heap.size + 1 < (((w.alloc (.cells #[.slice A h.cells.length c, .slice A' h.roots.length c'] 32)).alloc (.cells #[.slice none 0 0, .slice none 0 0] 32))).heap.size := by simp
  have k0 := cell_regrown h0
  have k1 := cell_regrown h1
  cases hva : validM h
  · have HE := Lib.hid (sweep_bad (marks := marks) hva)
    have cH : ∀ d os_, Calls Try.prog 122 #[.agg #[.slice A h.cells.length c, .slice A' h.roots.length c']] (grow (redrawn (((w.alloc (.cells #[.slice A h.cells.length c, .slice A' h.roots.length c'] 32)).alloc (.cells #[.slice none 0 0, .slice none 0 0] 32))) d) os_) fun e w'' => e = .returned (.bool false) ∧ ∃ p : Regrown, w'' = grow (redrawn (((w.alloc (.cells #[.slice A h.cells.length c, .slice A' h.roots.length c'] 32)).alloc (.cells #[.slice none 0 0, .slice none 0 0] 32))) p.d) p.os := fun d os_ => Calls.regrown_of (by have h9 := implHeapValid_any _ h _ (hv0.below (HB d os_)); rw [hva] at h9; exact h9)
    clear hva HB hc hr hm
    go_enter Try.func76, Try.ntmps76
    (go_wp2_with (fail)); generalize ((w.alloc (.cells #[.slice A h.cells.length c, .slice A' h.roots.length c'] 32)).alloc (.cells #[.slice none 0 0, .slice none 0 0] 32)) = W at *; refine wp_region_quiet_below (by kernel_rfl) (by kernel_rfl) ?_; (with_reducible refine wpQuiet_step (fun K hK => ?_)); go_simp; (with_reducible refine hK _ ?_); clear hK K; (with_reducible refine wpQuiet_step (fun K hK => ?_)); go_simp; apply Exists.intro; refine ⟨fun _ => ?_, hK _ ?_⟩; exact cH _ _; clear hK K; (with_reducible refine wpQuiet_step (fun K hK => ?_)); go_simp; (with_reducible refine hK _ ?_); clear hK K; (with_reducible refine wpQuiet_step (fun K hK => ?_)); go_simp; (with_reducible refine hK _ ?_); clear hK K; (with_reducible refine wpQuiet_step (fun K hK => ?_)); go_simp; (with_reducible refine hK _ ?_); clear hK K; (with_reducible refine wpQuiet_step (fun K hK => ?_)); go_simp; (with_reducible refine hK _ ?_); clear hK K; (with_reducible refine wpQuiet_step (fun K hK => ?_)); go_simp; (with_reducible refine hK _ ?_); clear hK K; (with_reducible refine wpQuiet_step (fun K hK => ?_)); go_simp; (with_reducible refine hK _ ?_); clear hK K; (with_reducible refine wpQuiet_step (fun K hK => ?_)); go_simp; (with_reducible refine hK _ ?_); clear hK K; (with_reducible refine wpQuiet_step (fun K hK => ?_)); go_simp; (with_reducible refine hK _ ?_); clear hK K; (with_reducible refine wpQuiet_step (fun K hK => ?_)); go_simp; (with_reducible refine hK _ ?_); clear hK K; (with_reducible refine wpQuiet_step (fun K hK => ?_)); go_simp; (with_reducible refine hK _ ?_); clear hK K; (with_reducible refine wpQuiet_step (fun K hK => ?_)); go_simp; (with_reducible refine hK _ ?_); clear hK K; (with_reducible refine wpQuiet_step (fun K hK => ?_)); go_simp; (with_reducible refine hK _ ?_); clear hK K; (with_reducible refine wpQuiet_step (fun K hK => ?_)); go_simp; (with_reducible refine hK _ ?_); clear hK K; (with_reducible refine wpQuiet_step (fun K hK => ?_)); go_simp; (with_reducible refine hK _ ?_); clear hK K; (with_reducible refine wpQuiet_step (fun K hK => ?_)); go_simp; (with_reducible refine hK _ ?_); clear hK K; refine wpQuiet_nil ?_; intro _ hw'; obtain ⟨⟨dq, osq⟩, hw''⟩ := hw'; subst hw''; have X1 := HWB.out.trans ((below_regrown W dq osq).mono HWB.out.size); have Y1 := below_regrown W dq osq; generalize grow (redrawn W dq) osq = w1 at *; have r0 := cell_below n0 Y1; have r1 := cell_below n1 Y1; have RFZ : Hid (∀ o, w1.frozen? ⟨w.heap.size + 1, o, none⟩ = false) := (fun o => ((bcell Y1).2.1 _ _ z3).trans (nf o)); have rf0 := RFZ.out 0; have rf1 := RFZ.out 1; have a0 := cell_below h0 Y1; have a1 := cell_below h1 Y1; have sX1 := X1.size; have sY1 := Y1.size
    go_wp2_with fail; refine bodyPost_ret (v := .tuple #[.agg #[.slice none 0 0, .slice none 0 0], .int .i64 (-1)]) (by simp [results, Try.results76, go_sem, r0, r1]) rfl ⟨_, by rw [HE.out], ?_, (X1.setCell (by simp) _).setCell (by simp) _⟩; rw [HE.out]; exact OH.zer
  have cH : ∀ d os_, Calls Try.prog 122 #[.agg #[.slice A h.cells.length c, .slice A' h.roots.length c']] (grow (redrawn (((w.alloc (.cells #[.slice A h.cells.length c, .slice A' h.roots.length c'] 32)).alloc (.cells #[.slice none 0 0, .slice none 0 0] 32))) d) os_) fun e w'' => e = .returned (.bool true) ∧ ∃ p : Regrown, w'' = grow (redrawn (((w.alloc (.cells #[.slice A h.cells.length c, .slice A' h.roots.length c'] 32)).alloc (.cells #[.slice none 0 0, .slice none 0 0] 32))) p.d) p.os := fun d os_ => Calls.regrown_of (by have h9 := implHeapValid_any _ h _ (hv0.below (HB d os_)); rw [hva] at h9; exact h9)
  have HV := Lib.hid hva
  obtain ⟨v1, v2, v3⟩ := valid_small hva
  have HV3 := Lib.hid v3
  have v2' : h.roots.length ≤ 4 := by omega
  clear v3 v2
  by_cases hlen : marks.length = h.cells.length
  case neg =>
    have HE := Lib.hid (sweep_len hlen)
    have hlenI : ¬ (marks.length : Int) = (h.cells.length : Int) := by omega
    clear hva HB hc hr hm
    go_enter Try.func76, Try.ntmps76
    (go_wp2_with (fail)); generalize ((w.alloc (.cells #[.slice A h.cells.length c, .slice A' h.roots.length c'] 32)).alloc (.cells #[.slice none 0 0, .slice none 0 0] 32)) = W at *; refine wp_region_quiet_below (by kernel_rfl) (by kernel_rfl) ?_; (with_reducible refine wpQuiet_step (fun K hK => ?_)); go_simp; (with_reducible refine hK _ ?_); clear hK K; (with_reducible refine wpQuiet_step (fun K hK => ?_)); go_simp; apply Exists.intro; refine ⟨fun _ => ?_, hK _ ?_⟩; exact cH _ _; clear hK K; (with_reducible refine wpQuiet_step (fun K hK => ?_)); go_simp; (with_reducible refine hK _ ?_); clear hK K; (with_reducible refine wpQuiet_step (fun K hK => ?_)); go_simp; (with_reducible refine hK _ ?_); clear hK K; (with_reducible refine wpQuiet_step (fun K hK => ?_)); go_simp; (with_reducible refine hK _ ?_); clear hK K; (with_reducible refine wpQuiet_step (fun K hK => ?_)); go_simp; (with_reducible refine hK _ ?_); clear hK K; (with_reducible refine wpQuiet_step (fun K hK => ?_)); go_simp; (with_reducible refine hK _ ?_); clear hK K; (with_reducible refine wpQuiet_step (fun K hK => ?_)); go_simp; (with_reducible refine hK _ ?_); clear hK K; (with_reducible refine wpQuiet_step (fun K hK => ?_)); go_simp; (with_reducible refine hK _ ?_); clear hK K; (with_reducible refine wpQuiet_step (fun K hK => ?_)); go_simp; (with_reducible refine hK _ ?_); clear hK K; (with_reducible refine wpQuiet_step (fun K hK => ?_)); go_simp; (with_reducible refine hK _ ?_); clear hK K; (with_reducible refine wpQuiet_step (fun K hK => ?_)); go_simp; (with_reducible refine hK _ ?_); clear hK K; (with_reducible refine wpQuiet_step (fun K hK => ?_)); go_simp; (with_reducible refine hK _ ?_); clear hK K; (with_reducible refine wpQuiet_step (fun K hK => ?_)); go_simp; (with_reducible refine hK _ ?_); clear hK K; (with_reducible refine wpQuiet_step (fun K hK => ?_)); go_simp; (with_reducible refine hK _ ?_); clear hK K; (with_reducible refine wpQuiet_step (fun K hK => ?_)); go_simp; (with_reducible refine hK _ ?_); clear hK K; (with_reducible refine wpQuiet_step (fun K hK => ?_)); go_simp; (with_reducible refine hK _ ?_); clear hK K; refine wpQuiet_nil ?_; intro _ hw'; obtain ⟨⟨dq, osq⟩, hw''⟩ := hw'; subst hw''; have X1 := HWB.out.trans ((below_regrown W dq osq).mono HWB.out.size); have Y1 := below_regrown W dq osq; generalize grow (redrawn W dq) osq = w1 at *; have r0 := cell_below n0 Y1; have r1 := cell_below n1 Y1; have RFZ : Hid (∀ o, w1.frozen? ⟨w.heap.size + 1, o, none⟩ = false) := (fun o => ((bcell Y1).2.1 _ _ z3).trans (nf o)); have rf0 := RFZ.out 0; have rf1 := RFZ.out 1; have a0 := cell_below h0 Y1; have a1 := cell_below h1 Y1; have sX1 := X1.size; have sY1 := Y1.size
    go_wp2_with fail; refine bodyPost_ret (v := .tuple #[.agg #[.slice none 0 0, .slice none 0 0], .int .i64 (-1)]) (by simp [results, Try.results76, go_sem, r0, r1]) rfl ⟨_, by rw [HE.out], ?_, (X1.setCell (by simp) _).setCell (by simp) _⟩; rw [HE.out]; exact OH.zer
  have HL := Lib.hid hlen
  have hm40 : marks.length ≤ 40 := by omega
  have hlenI : (marks.length : Int) = (h.cells.length : Int) := by omega
  have hbm : bitsOf marks < 18446744073709551616 := bitsOf_lt64 (by omega)
  have hOS := outS_out (h := h) (marks := marks) (by omega) hlen
  have cS : ∀ d os_, Calls Try.prog 141 #[.slice A2 marks.length c2] (grow (redrawn (((w.alloc (.cells #[.slice A h.cells.length c, .slice A' h.roots.length c'] 32)).alloc (.cells #[.slice none 0 0, .slice none 0 0] 32))) d) os_) fun e w'' => e = .returned (.int .u64 ((bitsOf marks : Nat) : Int)) ∧ ∃ p : Regrown, w'' = grow (redrawn (((w.alloc (.cells #[.slice A h.cells.length c, .slice A' h.roots.length c'] 32)).alloc (.cells #[.slice none 0 0, .slice none 0 0] 32))) p.d) p.os := fun d os_ => Calls.regrown_of (setOf_any A2 marks c2 _ (hm.below (HB d os_)) (by omega))
  cases hou : outB h marks
  case true =>
    have HE := Lib.hid (sweep_outB hou)
    have cR : ∀ d os_, Calls Try.prog 147 #[.agg #[.slice A h.cells.length c, .slice A' h.roots.length c'], .int .u64 ((bitsOf marks : Nat) : Int)] (grow (redrawn (((w.alloc (.cells #[.slice A h.cells.length c, .slice A' h.roots.length c'] 32)).alloc (.cells #[.slice none 0 0, .slice none 0 0] 32))) d) os_) fun e w'' => e = .returned (.bool true) ∧ ∃ p : Regrown, w'' = grow (redrawn (((w.alloc (.cells #[.slice A h.cells.length c, .slice A' h.roots.length c'] 32)).alloc (.cells #[.slice none 0 0, .slice none 0 0] 32))) p.d) p.os := fun d os_ => Calls.regrown_of (by have h9 := refersOutside_any _ h (bitsOf marks) _ (hv0.below (HB d os_)) hva hbm; rw [hOS, hou] at h9; exact h9)
    clear hva HB hc hr hm hlen hOS hou
    go_enter Try.func76, Try.ntmps76
    (go_wp2_with (fail)); generalize ((w.alloc (.cells #[.slice A h.cells.length c, .slice A' h.roots.length c'] 32)).alloc (.cells #[.slice none 0 0, .slice none 0 0] 32)) = W at *; refine wp_region_quiet_below (by kernel_rfl) (by kernel_rfl) ?_; (with_reducible refine wpQuiet_step (fun K hK => ?_)); go_simp; (with_reducible refine hK _ ?_); clear hK K; (with_reducible refine wpQuiet_step (fun K hK => ?_)); go_simp; apply Exists.intro; refine ⟨fun _ => ?_, hK _ ?_⟩; exact cH _ _; clear hK K; (with_reducible refine wpQuiet_step (fun K hK => ?_)); go_simp; (with_reducible refine hK _ ?_); clear hK K; (with_reducible refine wpQuiet_step (fun K hK => ?_)); go_simp; (with_reducible refine hK _ ?_); clear hK K; (with_reducible refine wpQuiet_step (fun K hK => ?_)); go_simp; (with_reducible refine hK _ ?_); clear hK K; (with_reducible refine wpQuiet_step (fun K hK => ?_)); go_simp; (with_reducible refine hK _ ?_); clear hK K; (with_reducible refine wpQuiet_step (fun K hK => ?_)); go_simp; (with_reducible refine hK _ ?_); clear hK K; (with_reducible refine wpQuiet_step (fun K hK => ?_)); go_simp; (with_reducible refine hK _ ?_); clear hK K; (with_reducible refine wpQuiet_step (fun K hK => ?_)); go_simp; (with_reducible refine hK _ ?_); clear hK K; (with_reducible refine wpQuiet_step (fun K hK => ?_)); go_simp; (with_reducible refine hK _ ?_); clear hK K; (with_reducible refine wpQuiet_step (fun K hK => ?_)); go_simp; (with_reducible refine hK _ ?_); clear hK K; (with_reducible refine wpQuiet_step (fun K hK => ?_)); go_simp; (with_reducible refine hK _ ?_); clear hK K; (with_reducible refine wpQuiet_step (fun K hK => ?_)); go_simp; (with_reducible refine hK _ ?_); clear hK K; (with_reducible refine wpQuiet_step (fun K hK => ?_)); go_simp; (with_reducible refine hK _ ?_); clear hK K; (with_reducible refine wpQuiet_step (fun K hK => ?_)); go_simp; apply Exists.intro; refine ⟨fun _ => ?_, hK _ ?_⟩; exact cS _ _; clear hK K; (with_reducible refine wpQuiet_step (fun K hK => ?_)); go_simp; apply Exists.intro; refine ⟨fun _ => ?_, hK _ ?_⟩; exact cR _ _; clear hK K; (with_reducible refine wpQuiet_step (fun K hK => ?_)); go_simp; (with_reducible refine hK _ ?_); clear hK K; refine wpQuiet_nil ?_; intro _ hw'; obtain ⟨⟨dq, osq⟩, hw''⟩ := hw'; subst hw''; have X1 := HWB.out.trans ((below_regrown W dq osq).mono HWB.out.size); have Y1 := below_regrown W dq osq; generalize grow (redrawn W dq) osq = w1 at *; have r0 := cell_below n0 Y1; have r1 := cell_below n1 Y1; have RFZ : Hid (∀ o, w1.frozen? ⟨w.heap.size + 1, o, none⟩ = false) := (fun o => ((bcell Y1).2.1 _ _ z3).trans (nf o)); have rf0 := RFZ.out 0; have rf1 := RFZ.out 1; have a0 := cell_below h0 Y1; have a1 := cell_below h1 Y1; have sX1 := X1.size; have sY1 := Y1.size
    go_wp2_with fail; refine bodyPost_ret (v := .tuple #[.agg #[.slice none 0 0, .slice none 0 0], .int .i64 (-1)]) (by simp [results, Try.results76, go_sem, r0, r1]) rfl ⟨_, by rw [HE.out], ?_, (X1.setCell (by simp) _).setCell (by simp) _⟩; rw [HE.out]; exact OH.zer
  have cR : ∀ d os_, Calls Try.prog 147 #[.agg #[.slice A h.cells.length c, .slice A' h.roots.length c'], .int .u64 ((bitsOf marks : Nat) : Int)] (grow (redrawn (((w.alloc (.cells #[.slice A h.cells.length c, .slice A' h.roots.length c'] 32)).alloc (.cells #[.slice none 0 0, .slice none 0 0] 32))) d) os_) fun e w'' => e = .returned (.bool false) ∧ ∃ p : Regrown, w'' = grow (redrawn (((w.alloc (.cells #[.slice A h.cells.length c, .slice A' h.roots.length c'] 32)).alloc (.cells #[.slice none 0 0, .slice none 0 0] 32))) p.d) p.os := fun d os_ => Calls.regrown_of (by have h9 := refersOutside_any _ h (bitsOf marks) _ (hv0.below (HB d os_)) hva hbm; rw [hOS, hou] at h9; exact h9)
  have HE := Lib.hid (sweep_yes hva hlen hou)
  have HM := Lib.hid hm
  have hub : usedBits h.cells < 18446744073709551616 := bitsOf_lt64 (by simp; omega)
  have hand : bits .andNot .u64 ((usedBits h.cells : Nat) : Int) ((bitsOf marks : Nat) : Int) = ((andN (usedBits h.cells) (bitsOf marks) : Nat) : Int) := u64_andNot_nat _ _ hub hbm
  have han : andN (usedBits h.cells) (bitsOf marks) < 18446744073709551616 := andN_lt hub
  have HBT : Hid (∀ (i : Nat) (c : CellM), h.cells[i]? = some c → c.used = true → (andN (usedBits h.cells) (bitsOf marks)).testBit i = (nots marks).getD i false) := by
    intro i c hc hu
    have hi := (List.getElem?_eq_some_iff.1 hc).1
    have hmi := List.getElem?_eq_getElem (l := marks) (i := i) (by omega)
    rw [andN_test hub hbm, usedBits_test, bitsOf_test, usedN_at hc, hu, getD_of hmi, getD_of (nots_at hmi)]
    rfl
  clear hva HB hc hr hm hlen hOS hou
  go_enter Try.func76, Try.ntmps76
  (go_wp2_with (fail)); generalize ((w.alloc (.cells #[.slice A h.cells.length c, .slice A' h.roots.length c'] 32)).alloc (.cells #[.slice none 0 0, .slice none 0 0] 32)) = W at *; refine wp_region_quiet_below (by kernel_rfl) (by kernel_rfl) ?_; (with_reducible refine wpQuiet_step (fun K hK => ?_)); go_simp; (with_reducible refine hK _ ?_); clear hK K; (with_reducible refine wpQuiet_step (fun K hK => ?_)); go_simp; apply Exists.intro; refine ⟨fun _ => ?_, hK _ ?_⟩; exact cH _ _; clear hK K; (with_reducible refine wpQuiet_step (fun K hK => ?_)); go_simp; (with_reducible refine hK _ ?_); clear hK K; (with_reducible refine wpQuiet_step (fun K hK => ?_)); go_simp; (with_reducible refine hK _ ?_); clear hK K; (with_reducible refine wpQuiet_step (fun K hK => ?_)); go_simp; (with_reducible refine hK _ ?_); clear hK K; (with_reducible refine wpQuiet_step (fun K hK => ?_)); go_simp; (with_reducible refine hK _ ?_); clear hK K; (with_reducible refine wpQuiet_step (fun K hK => ?_)); go_simp; (with_reducible refine hK _ ?_); clear hK K; (with_reducible refine wpQuiet_step (fun K hK => ?_)); go_simp; (with_reducible refine hK _ ?_); clear hK K; (with_reducible refine wpQuiet_step (fun K hK => ?_)); go_simp; (with_reducible refine hK _ ?_); clear hK K; (with_reducible refine wpQuiet_step (fun K hK => ?_)); go_simp; (with_reducible refine hK _ ?_); clear hK K; (with_reducible refine wpQuiet_step (fun K hK => ?_)); go_simp; (with_reducible refine hK _ ?_); clear hK K; (with_reducible refine wpQuiet_step (fun K hK => ?_)); go_simp; (with_reducible refine hK _ ?_); clear hK K; (with_reducible refine wpQuiet_step (fun K hK => ?_)); go_simp; (with_reducible refine hK _ ?_); clear hK K; (with_reducible refine wpQuiet_step (fun K hK => ?_)); go_simp; (with_reducible refine hK _ ?_); clear hK K; (with_reducible refine wpQuiet_step (fun K hK => ?_)); go_simp; apply Exists.intro; refine ⟨fun _ => ?_, hK _ ?_⟩; exact cS _ _; clear hK K; (with_reducible refine wpQuiet_step (fun K hK => ?_)); go_simp; apply Exists.intro; refine ⟨fun _ => ?_, hK _ ?_⟩; exact cR _ _; clear hK K; (with_reducible refine wpQuiet_step (fun K hK => ?_)); go_simp; (with_reducible refine hK _ ?_); clear hK K; refine wpQuiet_nil ?_; intro _ hw'; obtain ⟨⟨dq, osq⟩, hw''⟩ := hw'; subst hw''; have X1 := HWB.out.trans ((below_regrown W dq osq).mono HWB.out.size); have Y1 := below_regrown W dq osq; generalize grow (redrawn W dq) osq = w1 at *; have r0 := cell_below n0 Y1; have r1 := cell_below n1 Y1; have RFZ : Hid (∀ o, w1.frozen? ⟨w.heap.size + 1, o, none⟩ = false) := (fun o => ((bcell Y1).2.1 _ _ z3).trans (nf o)); have rf0 := RFZ.out 0; have rf1 := RFZ.out 1; have a0 := cell_below h0 Y1; have a1 := cell_below h1 Y1; have sX1 := X1.size; have sY1 := Y1.size
  go_wp2_with fail
  (with_reducible refine (copyHeap_any _ h _ (hv0.below (by repeat (first | ((with_reducible refine Below.setc ?_ ?_ _); focus (first | omega | (simp; done) | (simp; omega))) | ((with_reducible refine Below.allocc ?_ ?_ _); focus (first | omega | (simp; done) | (simp; omega))) | (with_reducible refine Below.drew ?_) | (with_reducible refine Below.drewn ?_) | (with_reducible assumption) | (with_reducible exact Below.refl _ _) | ((with_reducible refine Below.stepp (by with_reducible assumption) ?_ ?_); focus (first | omega | (simp; done) | (simp; omega)))))) (by omega) (fun d hd => Nat.le_trans (HV3.out d hd) (by omega)) (by omega)).mono ?_)
  rintro e w2 ⟨v2, rfl, ⟨B, d, B', d', os, rfl, hm2, hO2, hlo2⟩, hB2⟩
  have Y2 : Below w1.heap.size w1 w2 := (by repeat (first | ((with_reducible refine Below.setc ?_ ?_ _); focus (first | omega | (simp; done) | (simp; omega))) | ((with_reducible refine Below.allocc ?_ ?_ _); focus (first | omega | (simp; done) | (simp; omega))) | (with_reducible refine Below.drew ?_) | (with_reducible refine Below.drewn ?_) | (with_reducible assumption) | (with_reducible exact Below.refl _ _) | ((with_reducible refine Below.stepp (by with_reducible assumption) ?_ ?_); focus (first | omega | (simp; done) | (simp; omega)))))
  have sY2 := Y2.size
  have b0 := cell_below a0 Y2
  have b1 := cell_below a1 Y2
  have s0 := cell_below r0 Y2
  have s1 := cell_below r1 Y2
  have SF : Hid (∀ o, w2.frozen? ⟨w.heap.size + 1, o, none⟩ = false) := fun o => ((bcell Y2).2.1 _ _ (by omega)).trans (RFZ.out o)
  have X2 : Below w.heap.size w w2 := X1.trans (Y2.mono sX1)
  have hP := PHx.mk_ (T := 32) hm2 hO2 hlo2 sY2
  have HP := Lib.hid hP
  have hmapl : os.length = h.cells.length := by have h9 := congrArg List.length hm2; simpa using h9
  have HML := Lib.hid hmapl
  have HM2 := Lib.hid hm2
  have hlo2' : ∀ b ∈ hblks B os B', w.heap.size + 2 ≤ b := fun b hb => by have h7 := hlo2 b hb; have : w.heap.size + 2 ≤ w1.heap.size := (by omega); omega
  have HLO := Lib.hid hlo2'
  have sX2 := X2.size
  have z12 : w.heap.size + 1 < w2.heap.size := by omega
  have zw2 : w.heap.size < w2.heap.size := by omega
  clear hB2 hP hm2 hO2 hlo2 hlo2' a0 a1 r0 r1 rf0 rf1 hmapl Y1 h0 h1 n0 n1 nf z3 k0 k1 cH cS cR hlenI
  go_wp2_with fail
  (with_reducible refine (usedSet_any _ h _ (hv0.below (by repeat (first | ((with_reducible refine Below.setc ?_ ?_ _); focus (first | omega | (simp; done) | (simp; omega))) | ((with_reducible refine Below.allocc ?_ ?_ _); focus (first | omega | (simp; done) | (simp; omega))) | (with_reducible refine Below.drew ?_) | (with_reducible refine Below.drewn ?_) | (with_reducible assumption) | (with_reducible exact Below.refl _ _) | ((with_reducible refine Below.stepp (by with_reducible assumption) ?_ ?_); focus (first | omega | (simp; done) | (simp; omega)))))) (by omega)).mono ?_)
  rintro e w3 ⟨rfl, hB3⟩
  have Y3 : Below w2.heap.size w2 w3 := (by repeat (first | ((with_reducible refine Below.setc ?_ ?_ _); focus (first | omega | (simp; done) | (simp; omega))) | ((with_reducible refine Below.allocc ?_ ?_ _); focus (first | omega | (simp; done) | (simp; omega))) | (with_reducible refine Below.drew ?_) | (with_reducible refine Below.drewn ?_) | (with_reducible assumption) | (with_reducible exact Below.refl _ _) | ((with_reducible refine Below.stepp (by with_reducible assumption) ?_ ?_); focus (first | omega | (simp; done) | (simp; omega)))))
  have hP3 := HP.out.below hB3
  have sY3 := Y3.size
  have X3 : Below w.heap.size w w3 := X2.trans (Y3.mono sX2)
  clear hB3 b0 b1
  go_wp2_with fail
  (with_reducible refine (setOf_any A2 marks c2 _ (HM.out.below X3) (by omega)).mono ?_)
  rintro e w4 ⟨rfl, hB4⟩
  have Y4 : Below w2.heap.size w2 w4 := Y3.trans (hB4.mono sY3)
  have hP4 := hP3.below hB4
  have X4 : Below w.heap.size w w4 := X2.trans (Y4.mono sX2)
  have q0 : w4.cell? ⟨w2.heap.size, 0, none⟩ = some (.slice B os.length d) := by rw [HML.out]; exact hP4.q0
  have hoc := hP4.own.cells
  have hgA := hP4.gA
  have HP4 := Lib.hid hP4
  have ho64 : os.length ≤ 64 := by rw [HML.out]; omega
  clear hB4 hP3 hP4
  go_wp2_with fail
  (with_reducible refine (freeCells_any w2.heap.size B d os (andN (usedBits h.cells) (bitsOf marks)) _ q0 hoc hgA ho64 han).mono ?_)
  rintro e w5 ⟨rfl, hC5, hOn5⟩
  have hBlo : ∀ b ∈ blk B, w.heap.size + 2 ≤ b := fun b hb => HLO.out b (List.mem_append.2 (.inl (List.mem_append.2 (.inl hb))))
  have X5 : Below w.heap.size w w5 := X4.trans (hOn5.below X4.size (fun b hb => by have := hBlo b hb; omega))
  have t0 := hOn5.cell (p := ⟨w2.heap.size, 0, none⟩) HP4.out.q0 hgA
  have t1 := hOn5.cell (p := ⟨w2.heap.size, 1, none⟩) HP4.out.q1 hgA
  have hnB : w.heap.size + 1 ∉ blk B := fun hc => by have := hBlo _ hc; omega
  have z14 : w.heap.size + 1 < w4.heap.size := by have := Y4.size; omega
  have u0 := hOn5.cell (p := ⟨w.heap.size + 1, 0, none⟩) (cell_below s0 Y4) hnB
  have u1 := hOn5.cell (p := ⟨w.heap.size + 1, 1, none⟩) (cell_below s1 Y4) hnB
  have uf : ∀ o, w5.frozen? ⟨w.heap.size + 1, o, none⟩ = false := fun o => (hOn5.frozenAt _ _ z14 hnB).trans (((bcell Y4).2.1 _ _ z12).trans (SF.out o))
  have uf0 := uf 0
  have uf1 := uf 1
  have HC5 := Lib.hid hC5
  have HON := Lib.hid hOn5
  clear hC5 hOn5 uf q0 hoc s0 s1 X4 X3 Y4 Y3
  go_wp2_with fail
  have hmapp : os.map (·.c) = h.cells := HM2.out
  have hnl : (nots marks).length = os.length := by rw [nots_len, HL.out, HML.out]
  have hdr := oPut_set (s := andN (usedBits h.cells) (bitsOf marks)) (os := os) (dead := nots marks) hnl (fun i o ho hu => HBT.out i o.c (by rw [← hmapp, List.getElem?_map, ho]; rfl) hu) (fun o ho => valid_free HV.out o.c (by rw [← hmapp]; exact List.mem_map.2 ⟨o, ho, rfl⟩))
  have hfr : freeN (andN (usedBits h.cells) (bitsOf marks)) (os.map (·.c)) os.length = freedN h.cells (nots marks) := by
    rw [hmapp, HML.out]
    exact freeN_drop (by rw [nots_len, HL.out]) HBT.out
  have hlen2 : (dropM h (nots marks)).cells.length = h.cells.length := dropCs_len (by rw [nots_len, HL.out])
  refine bodyPost_ret (v := .tuple #[.agg #[.slice B h.cells.length d, .slice B' h.roots.length d'], .int .i64 (freeN (andN (usedBits h.cells) (bitsOf marks)) (os.map (·.c)) os.length)]) (by simp [results, Try.results76, go_sem, u0, u1]) rfl ⟨_, by rw [HE.out, hfr], ?_, (X5.setCell (by simp) _).setCell (by simp) _⟩
  rw [HE.out]
  have hOH : OHs w5 B d B' d' (oPut (setF (andN (usedBits h.cells) (bitsOf marks))) os.length os) h.roots := HP4.out.own.put_ HC5.out (oPut_blks _ _ _ (Nat.le_refl _)) (oPut_len _ _ _) HON.out
  have hsub : ∀ b ∈ hblks B (oPut (setF (andN (usedBits h.cells) (bitsOf marks))) os.length os) B', w.heap.size + 2 ≤ b := fun b hb => HLO.out b (by
    have := (oPut_blks (setF (andN (usedBits h.cells) (bitsOf marks))) os os.length (Nat.le_refl _)).subset
    simp only [hblks, List.mem_append] at hb ⊢
    rcases hb with (hb | hb) | hb
    · exact .inl (.inl hb)
    · exact .inl (.inr (this hb))
    · exact .inr hb)
  have hbase : OH (w.heap.size + 2) w5 (.agg #[.slice B h.cells.length d, .slice B' h.roots.length d']) (dropM h (nots marks)) := ⟨B, d, B', d', _, by rw [hlen2]; rfl, by rw [hdr, hmapp]; rfl, hOH, hsub⟩
  exact ((hbase.setlow (by simp) _).setlow (by simp) _).lo_ (by omega)
end Go.Proofs.Ytkmfhadanbfadaa
