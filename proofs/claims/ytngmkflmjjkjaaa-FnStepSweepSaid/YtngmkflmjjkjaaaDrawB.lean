/- What the laws draw: a heap, a limit and an instruction. -/
import Derived.Test.YtngmkflmjjkjaaaChecked
import Derived.Deep.QuietTactic
import Derived.BigQuiet
import Derived.IntWalk
import Derived.Test.YtngmkflmjjkjaaaDrawA
namespace Go.Proofs.Ytngmkflmjjkjaaa
open Go.RowKit
set_option maxRecDepth 100000
set_option linter.unusedSimpArgs false
set_option linter.unusedVariables false
set_option maxHeartbeats 4000000 in
theorem drawStepSweep_any (C : Option Addr) (bs : List Int) (c : Nat) (w : World) (hr : RF fu w C bs) (hb : ∀ x ∈ bs, 0 ≤ x ∧ x < 256) (hc : bs.length ≤ c) (hc2 : c ≤ 9223372036854775807) :
    Calls Try.prog 44 #[.slice C bs.length c] w fun e w' => ∃ v hm o, ∃ r : Nat, e = .returned (.tuple #[v, .int .i64 (r : Int), cmdV o]) ∧ r ≤ 41 ∧ RH w' v hm ∧ Below w.heap.size w w' := by
  go_enter Try.func44, Try.ntmps44
  go_wp2_with fail
  refine Calls.gen (fun W => Bx W w.heap.size [.slice none 0 0, .slice none 0 0] ∧ Bx W (w.heap.size + 1) [.int .i64 0, .int .i64 0, .int .i64 0, .int .i64 0] ∧ Below w.heap.size w W ∧ RF fu W C bs) ⟨(Bx.new w [.slice none 0 0, .slice none 0 0] 28).below blw_, by simpa using Bx.new (w.alloc (.cells #[.slice none 0 0, .slice none 0 0] 28)) [.int .i64 0, .int .i64 0, .int .i64 0, .int .i64 0] 36, blw_, hr.below blw_⟩ ?_
  clear hr
  rintro W0 ⟨X2, X3, HB, hr⟩
  have zB := HB.size
  have hw0 := X3.lt
  (with_reducible refine (l20Open_any C bs c _ hr hb hc hc2).mono ?_); rintro e w1 ⟨g, rfl, HR, hB⟩
  have X2 := X2.below hB
  have X3 := X3.below hB
  have HB := HB.trans (hB.mono zB)
  have hg := HR.lt
  have zb := hB.size
  clear hB hr zB
  go_wp2_with fail
  (with_reducible refine (l20Heap_any W0.heap.size g 1000 20 _ (HR.le (by omega)) (by omega) (by omega)).mono ?_); rintro e w2 ⟨v, hm, rfl, hS, hO, HR⟩
  obtain ⟨A, n, A', n', rfl⟩ := hS.now.parts
  have hS0 : SR (w.heap.size + 2) w2 (.agg #[.slice A hm.cells.length n, .slice A' hm.roots.length n']) hm := hS.mono (by omega)
  have X2 := X2.only hO (by simp; omega)
  have X3 := X3.only hO (by simp; omega)
  have HB := HB.trans (hO.below (B := w.heap.size) HB.size (by simp; omega))
  have hgw : g < w2.heap.size := HR.lt.1
  have hg1 : w1.heap.size ≤ w2.heap.size := hO.size
  have zB := HB.size
  clear hO
  go_wp2_with fail
  refine Calls.gen (fun W => Bx W w.heap.size [.slice none 0 0, .slice none 0 0] ∧ Bx W (w.heap.size + 1) [.int .i64 0, .int .i64 0, .int .i64 0, .int .i64 0] ∧ Below w.heap.size w W ∧ Bx W w2.heap.size [.slice A hm.cells.length n, .slice A' hm.roots.length n'] ∧ SR w1.heap.size W (.agg #[.slice A hm.cells.length n, .slice A' hm.roots.length n']) hm ∧ Rd W0.heap.size W g 1000) ⟨X2.below blw_, X3.below blw_, blw_, Bx.new _ _ _, hS.below blw_, HR.below blw_⟩ ?_
  have hb6 : Hid (g < w2.heap.size ∧ w1.heap.size ≤ w2.heap.size) := ⟨hgw, hg1⟩
  generalize w2.heap.size = b6 at hb6 ⊢
  clear X2 X3 HB hS HR zB hgw hg1 hS0
  rintro W ⟨X2, X3, HB, X6, hS, HR⟩
  (with_reducible refine (l20Limit_any W0.heap.size g 900 _ (HR.le (by omega))).mono ?_); rintro e w3 ⟨r, rfl, hr9, hO, HR⟩
  have X2 := X2.only hO (by simp; omega)
  have X3 := X3.only hO (by simp; omega)
  have X6 := X6.only hO (by have := hb6.out; simp; omega)
  have HB := HB.trans (hO.below (B := w.heap.size) HB.size (by simp; omega))
  have hS := hS.only hO (by simp; omega)
  clear hO
  have hg3 : Hid (g < w1.heap.size ∧ W0.heap.size ≤ g) := hg
  go_wp2_with fail
  refine wp_region_R (by kernel_rfl) (fun R wd hR hwd => ?_)
  have hBd : Below w3.heap.size w3 wd := by rw [hwd]; exact blw_
  have X2 := X2.below hBd
  have X3 := X3.below hBd
  have X6 := X6.below hBd
  have HB := HB.trans (hBd.mono HB.size)
  have hS := hS.below hBd
  have HR := HR.below hBd
  clear hBd hwd
  rw [hR]
  (refine wpAny_take (i := 1) (v := ?v9_1_u0) rfl (by kernel_rfl) (by kernel_rfl) (by kernel_rfl) (fun _ _ _ h => h) (Or.inl ⟨by kernel_rfl, ?h9_1_u0⟩) ?r9_1_u0; (case h9_1_u0 => (intro w9; go_simp; try with_reducible rfl)))
  (refine wpAny_take (i := 2) (v := ?v9_2_u0) rfl (by kernel_rfl) (by kernel_rfl) (by kernel_rfl) (fun _ _ _ h => h) (Or.inl ⟨by kernel_rfl, ?h9_2_u0⟩) ?r9_2_u0; (case h9_2_u0 => (intro w9; go_simp; try with_reducible rfl)))
  rw [← hR]
  refine rel_at (fr := ?fr_0) hR (fun f W => Bx W w.heap.size [.slice none 0 0, .slice none 0 0] ∧ Bx W (w.heap.size + 1) [.int .i64 0, .int .i64 0, .int .i64 0, .int .i64 0] ∧ Bx W b6 [.slice A hm.cells.length n, .slice A' hm.roots.length n'] ∧ SR w1.heap.size W (.agg #[.slice A hm.cells.length n, .slice A' hm.roots.length n']) hm ∧ Below w.heap.size w W ∧ Rd W0.heap.size W g (16 * f)) [(fun v W => v = (.agg #[.slice A hm.cells.length n, .slice A' hm.roots.length n'])), tt, tt, (fun v W => ∃ o : CmdM, v = cmdV o), tt, tt, tt] (fun W W' => Only [g] W W') [(0, []), (3, []), (4, [0, 3]), (5, [0, 3]), (6, [0, 3])] [(14, 0), (17, 3)] [0, 3] #[true, true, true, true, false, false, false] 5 3 (by kernel_rfl) (by kernel_rfl) ?hfr_0 ?h0_0 ?mono_0 ?steps_0 ?_
  case hfr_0 => intro x; (simp [frOf, fill, Act.put, List.lookup]; with_reducible rfl)
  case h0_0 => exact ⟨X2, X3, X6, hS, HB, HR.le (by omega)⟩
  case mono_0 => exact (Pm.cons (fun _ _ _ _ h => h) (Pm.cons (fun _ _ _ _ h => h) (Pm.cons (fun _ _ _ _ h => h) (Pm.cons (fun _ _ _ _ h => h) (Pm.cons (fun _ _ _ _ h => h) (Pm.cons (fun _ _ _ _ h => h) (Pm.cons (fun _ _ _ _ h => h) Pm.nil)))))))
  case steps_0 =>
    refine Steps.cons (RStep.of rfl fun x W f hI hD K9 hK => ?_) ?_
    · clear hD
      have c0 := hI.2.2.1.c 0 _ rfl
      have c1 := hI.2.2.1.c 1 _ rfl
      go_simp
      exact hK ((.agg #[.slice A hm.cells.length n, .slice A' hm.roots.length n'])) _ _ (by kernel_rfl) (Only.refl _ _) (⟨hI.1, hI.2.1, hI.2.2.1, hI.2.2.2.1, hI.2.2.2.2.1, hI.2.2.2.2.2.le (by omega)⟩) rfl
    refine Steps.cons (RStep.of rfl fun x W f hI hD K9 hK => ?_) ?_
    · clear hD
      go_wp2_with fail
      (with_reducible refine (l20Command_any W0.heap.size g (16 * f) 14 _ (hI.2.2.2.2.2.le (by omega)) (by omega) (by omega)).mono ?_)
      rintro e w6 ⟨o, rfl, -, hO, hR6⟩
      exact hK (cmdV o) _ _ (by kernel_rfl) hO ⟨hI.1.only hO (by have := hg3.out; simp; omega), hI.2.1.only hO (by have := hg3.out; simp; omega), hI.2.2.1.only hO (by have := hb6.out; simp; omega), hI.2.2.2.1.only hO (by have := hg3.out; simp; omega), hI.2.2.2.2.1.trans (hO.below (B := w.heap.size) hI.2.2.2.2.1.size (by have := hg3.out; simp; omega)), hR6⟩ ⟨o, rfl⟩
    exact Steps.nil
  intro x W hI hV
  have e0 : x 0 = (.agg #[.slice A hm.cells.length n, .slice A' hm.roots.length n']) := hV 0 (by decide)
  have h3 : (fun v W => ∃ o : CmdM, v = cmdV o) (x 3) W := hV 3 (by decide)
  clear hV
  simp only [e0]
  obtain ⟨o, e3⟩ := h3
  simp only [e3, cmdV]
  obtain ⟨X2, X3, -, hS, HB, HR⟩ := hI
  have q0 := X2.c 0 _ rfl
  have q1 := X2.c 1 _ rfl
  have qf0 := X2.f 0
  have qf1 := X2.f 1
  have r0 := X3.c 0 _ rfl
  have r1 := X3.c 1 _ rfl
  have r2 := X3.c 2 _ rfl
  have r3 := X3.c 3 _ rfl
  have rf0 := X3.f 0
  have rf1 := X3.f 1
  have rf2 := X3.f 2
  have rf3 := X3.f 3
  clear e0 e3
  rw [hR]
  refine wpAny_ready (rs := [4]) (by kernel_rfl) (by simp) ?_
  refine AllReady.cons rfl (fun K9 hK9 => ?_) AllReady.nil
  go_simp
  refine hK9 _ _ ?_
  clear hK9
  refine wpAny_ready (rs := [5]) (by kernel_rfl) (by simp) ?_
  refine AllReady.cons rfl (fun K9 hK9 => ?_) AllReady.nil
  go_simp
  refine hK9 _ _ ?_
  clear hK9
  refine wpAny_ready (rs := [6]) (by kernel_rfl) (by simp) ?_
  refine AllReady.cons rfl (fun K9 hK9 => ?_) AllReady.nil
  go_simp
  refine hK9 _ _ ?_
  clear hK9
  refine wpAny_done (by kernel_rfl) ?_ _
  go_wp2_with fail
  have n1 : w.heap.size ≠ w.heap.size + 1 := by omega
  have n2 : w.heap.size + 1 ≠ w.heap.size := by omega
  refine bodyPost_ret (v := .tuple #[.agg #[.slice A hm.cells.length n, .slice A' hm.roots.length n'], .int .i64 (r : Int), cmdV o]) (by simp [results, Try.results44, go_sem, q0, q1, r0, r1, r2, r3, n1, n2, cmdV]) rfl ⟨_, hm, o, r, rfl, hr9, ?_, ?_⟩
  · refine SR.now (lo := w1.heap.size) (SR.only (S := [w.heap.size, w.heap.size + 1]) hS ?_ ?_)
    · exact (by repeat (first | (with_reducible exact Only.refl _ _) | (refine Only.setCell ?_ (.inl (by simp)) _)))
    · have := hg3.out; simp; omega
  · exact blw_
end Go.Proofs.Ytngmkflmjjkjaaa
