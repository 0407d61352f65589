/- The reference's drawing: heaps with an instruction. -/
import Derived.Test.YtngmkflmjjkjaaaChecked
import Derived.Deep.QuietTactic
import Derived.BigQuiet
import Derived.IntWalk
import Derived.Deep.RegionWith
import Derived.Deep.DeepCutAuto
import Derived.Test.YtngmkflmjjkjaaaDraw8
import Derived.Test.YtngmkflmjjkjaaaCtx
namespace Go.Proofs.Ytngmkflmjjkjaaa
open Go.RowKit
set_option maxRecDepth 100000
set_option linter.unusedSimpArgs false
set_option linter.unusedVariables false
set_option maxHeartbeats 4000000 in
theorem l20Next_any (lo g K : Nat) (w : World) (h : Rd lo w g (K + 1300)) :
    Calls Try.prog 65 #[.pointer (some ⟨g, 0, none⟩)] w fun e w' => ∃ v hm o, e = .returned (.tuple #[v, cmdV o]) ∧ SR w.heap.size w' v hm ∧ Only [g] w w' ∧ Rd lo w' g K := by
  have H := Lib.hid h
  clear h
  have hlt := H.out.lt.1
  go_enter Try.func65, Try.ntmps65
  go_wp2_with fail
  refine Calls.gen (fun W => Bx W w.heap.size [.slice none 0 0, .slice none 0 0] ∧ Bx W (w.heap.size + 1) [.int .i64 0, .int .i64 0, .int .i64 0, .int .i64 0] ∧ Only [g] w W ∧ Rd lo W g (K + 1300)) ?_ ?_
  · refine ⟨(Bx.new w [.slice none 0 0, .slice none 0 0] 28).below (by repeat (first | ((with_reducible refine Below.setc ?_ ?_ _); focus (first | omega | (simp; done) | (simp; omega))) | ((with_reducible refine Below.allocc ?_ ?_ _); focus (first | omega | (simp; done) | (simp; omega))) | (with_reducible refine Below.drew ?_) | (with_reducible refine Below.drewn ?_) | (with_reducible assumption) | (with_reducible exact Below.refl _ _) | ((with_reducible refine Below.stepp (by with_reducible assumption) ?_ ?_); focus (first | omega | (simp; done) | (simp; omega))))), ?_, Only.of_below (by repeat (first | ((with_reducible refine Below.setc ?_ ?_ _); focus (first | omega | (simp; done) | (simp; omega))) | ((with_reducible refine Below.allocc ?_ ?_ _); focus (first | omega | (simp; done) | (simp; omega))) | (with_reducible refine Below.drew ?_) | (with_reducible refine Below.drewn ?_) | (with_reducible assumption) | (with_reducible exact Below.refl _ _) | ((with_reducible refine Below.stepp (by with_reducible assumption) ?_ ?_); focus (first | omega | (simp; done) | (simp; omega))))), H.out.below (by repeat (first | ((with_reducible refine Below.setc ?_ ?_ _); focus (first | omega | (simp; done) | (simp; omega))) | ((with_reducible refine Below.allocc ?_ ?_ _); focus (first | omega | (simp; done) | (simp; omega))) | (with_reducible refine Below.drew ?_) | (with_reducible refine Below.drewn ?_) | (with_reducible assumption) | (with_reducible exact Below.refl _ _) | ((with_reducible refine Below.stepp (by with_reducible assumption) ?_ ?_); focus (first | omega | (simp; done) | (simp; omega)))))⟩
    have h9 := Bx.new (w.alloc (.cells #[.slice none 0 0, .slice none 0 0] 28)) [.int .i64 0, .int .i64 0, .int .i64 0, .int .i64 0] 36
    simpa using h9
  clear H
  rintro W0 ⟨X2, X3, HO, HR⟩
  have hg0 := HR.lt.1
  have hw0 := X3.lt
  (with_reducible refine (l20Heap_any lo g (K + 100) 16 _ HR (by omega) (by omega)).mono ?_)
  rintro e w2 ⟨v, hm, rfl, hS, hO1, hR1⟩
  obtain ⟨A, c, A', c', rfl⟩ := hS.now.parts
  have X2 := X2.only hO1 (by simp; omega)
  have X3 := X3.only hO1 (by simp; omega)
  have HO1 := HO.trans hO1
  clear HO HR hO1
  have zb := HO1.size
  have hg2 := hR1.lt.1
  go_wp2_with fail
  refine Code.gen (fun W => Bx W w.heap.size [.slice none 0 0, .slice none 0 0] ∧ Bx W (w.heap.size + 1) [.int .i64 0, .int .i64 0, .int .i64 0, .int .i64 0] ∧ Bx W w2.heap.size [.slice A hm.cells.length c, .slice A' hm.roots.length c'] ∧ SR W0.heap.size W (.agg #[.slice A hm.cells.length c, .slice A' hm.roots.length c']) hm ∧ Only [g] w W ∧ Rd lo W g (K + 100)) ?_ ?_
  · have hB : Below w2.heap.size w2 (w2.alloc (.cells #[.slice A hm.cells.length c, .slice A' hm.roots.length c'] 28)) := (by repeat (first | ((with_reducible refine Below.setc ?_ ?_ _); focus (first | omega | (simp; done) | (simp; omega))) | ((with_reducible refine Below.allocc ?_ ?_ _); focus (first | omega | (simp; done) | (simp; omega))) | (with_reducible refine Below.drew ?_) | (with_reducible refine Below.drewn ?_) | (with_reducible assumption) | (with_reducible exact Below.refl _ _) | ((with_reducible refine Below.stepp (by with_reducible assumption) ?_ ?_); focus (first | omega | (simp; done) | (simp; omega)))))
    exact ⟨X2.below hB, X3.below hB, Bx.new w2 _ _, hS.below hB, HO1.trans (Only.of_below hB), hR1.below hB⟩
  have hgb : g < w2.heap.size := hg2
  have hb4 : w.heap.size + 1 < w2.heap.size := X3.lt
  generalize w2.heap.size = b4 at hgb hb4 ⊢
  clear X2 X3 hS HO1 hR1 zb hg2
  rintro W ⟨X2, X3, X4, hS, HO, HR⟩
  refine wp_region_R (by kernel_rfl) (fun R wd hR hwd => ?_)
  have hBd : Below W.heap.size W wd := by rw [hwd]; exact (by repeat (first | ((with_reducible refine Below.setc ?_ ?_ _); focus (first | omega | (simp; done) | (simp; omega))) | ((with_reducible refine Below.allocc ?_ ?_ _); focus (first | omega | (simp; done) | (simp; omega))) | (with_reducible refine Below.drew ?_) | (with_reducible refine Below.drewn ?_) | (with_reducible assumption) | (with_reducible exact Below.refl _ _) | ((with_reducible refine Below.stepp (by with_reducible assumption) ?_ ?_); focus (first | omega | (simp; done) | (simp; omega)))))
  have X2 := X2.below hBd
  have X3 := X3.below hBd
  have X4 := X4.below hBd
  have hS := hS.below hBd
  have HO := HO.trans (Only.of_below hBd)
  have HR := HR.below hBd
  clear hBd hwd
  rw [hR]
  (refine wpAny_take (i := 1) (v := ?v9_1_u0) rfl (by kernel_rfl) (by kernel_rfl) (by kernel_rfl) (fun _ _ _ h => h) (Or.inl ⟨by kernel_rfl, ?h9_1_u0⟩) ?r9_1_u0; (case h9_1_u0 => (intro w9; go_simp; try with_reducible rfl)))
  rw [← hR]
  refine rel_at (fr := ?fr_0) hR (fun f W => Bx W w.heap.size [.slice none 0 0, .slice none 0 0] ∧ Bx W (w.heap.size + 1) [.int .i64 0, .int .i64 0, .int .i64 0, .int .i64 0] ∧ Bx W b4 [.slice A hm.cells.length c, .slice A' hm.roots.length c'] ∧ SR W0.heap.size W (.agg #[.slice A hm.cells.length c, .slice A' hm.roots.length c']) hm ∧ Only [g] w W ∧ Rd lo W g (K + 16 * f)) [(fun v W => v = .agg #[.slice A hm.cells.length c, .slice A' hm.roots.length c']), tt, (fun v W => ∃ o : CmdM, v = cmdV o), tt, tt] (fun W W' => Only [g] W W') [(0, []), (2, []), (3, [0, 2]), (4, [0, 2])] [(7, 0), (9, 2)] [0, 2] #[true, true, true, false, false] 4 2 (by kernel_rfl) (by kernel_rfl) ?hfr_0 ?h0_0 ?mono_0 ?steps_0 ?_
  case hfr_0 => intro x; (simp [frOf, fill, Act.put, List.lookup]; with_reducible rfl)
  case h0_0 => exact ⟨X2, X3, X4, hS, HO, HR.le (by omega)⟩
  case mono_0 => exact (Pm.cons (fun _ _ _ _ h => h) (Pm.cons (fun _ _ _ _ h => h) (Pm.cons (fun _ _ _ _ h => h) (Pm.cons (fun _ _ _ _ h => h) (Pm.cons (fun _ _ _ _ h => h) Pm.nil)))))
  case steps_0 =>
    refine Steps.cons (RStep.of rfl fun x W f hI hD K9 hK => ?_) ?_
    · clear hD
      have c0 := hI.2.2.1.c 0 _ rfl
      have c1 := hI.2.2.1.c 1 _ rfl
      go_simp
      exact hK (.agg #[.slice A hm.cells.length c, .slice A' hm.roots.length c']) _ _ (by kernel_rfl) (Only.refl _ _) (⟨hI.1, hI.2.1, hI.2.2.1, hI.2.2.2.1, hI.2.2.2.2.1, hI.2.2.2.2.2.le (by omega)⟩) rfl
    refine Steps.cons (RStep.of rfl fun x W f hI hD K9 hK => ?_) ?_
    · clear hD
      go_wp2_with fail
      (with_reducible refine (l20Command_any lo g (K + 16 * f) 14 _ (hI.2.2.2.2.2.le (by omega)) (by omega) (by omega)).mono ?_)
      rintro e w6 ⟨o, rfl, -, hO, hR6⟩
      exact hK (cmdV o) _ _ (by kernel_rfl) hO ⟨hI.1.only hO (by simp; omega), hI.2.1.only hO (by simp; omega), hI.2.2.1.only hO (by simp; omega), hI.2.2.2.1.only hO (by simp; omega), hI.2.2.2.2.1.trans hO, hR6⟩ ⟨o, rfl⟩
    exact Steps.nil
  intro x W hI hV
  have e0 : x 0 = .agg #[.slice A hm.cells.length c, .slice A' hm.roots.length c'] := hV 0 (by decide)
  have h2 : (fun v W => ∃ o : CmdM, v = cmdV o) (x 2) W := hV 2 (by decide)
  clear hV
  simp only [e0]
  obtain ⟨o, e2⟩ := h2
  simp only [e2, cmdV]
  obtain ⟨X2, X3, -, hS, HO, HR⟩ := hI
  have q0 := X2.c 0 _ rfl
  have q1 := X2.c 1 _ rfl
  have qf0 := X2.f 0
  have qf1 := X2.f 1
  have r0 := X3.c 0 _ rfl
  have r1 := X3.c 1 _ rfl
  have r2 := X3.c 2 _ rfl
  have r3 := X3.c 3 _ rfl
  have rf0 := X3.f 0
  have rf1 := X3.f 1
  have rf2 := X3.f 2
  have rf3 := X3.f 3
  rw [hR]
  refine wpAny_ready (rs := [3]) (by kernel_rfl) (by simp) ?_
  refine AllReady.cons rfl (fun K9 hK9 => ?_) AllReady.nil
  go_simp
  refine hK9 _ _ ?_
  clear hK9
  refine wpAny_ready (rs := [4]) (by kernel_rfl) (by simp) ?_
  refine AllReady.cons rfl (fun K9 hK9 => ?_) AllReady.nil
  go_simp
  refine hK9 _ _ ?_
  clear hK9
  refine wpAny_done (by kernel_rfl) ?_ _
  go_wp2_with fail
  have n1 : w.heap.size ≠ w.heap.size + 1 := by omega
  have n2 : w.heap.size + 1 ≠ w.heap.size := by omega
  refine bodyPost_ret (v := .tuple #[.agg #[.slice A hm.cells.length c, .slice A' hm.roots.length c'], cmdV o]) (by simp [results, Try.results65, go_sem, q0, q1, r0, r1, r2, r3, n1, n2, cmdV]) rfl ⟨_, hm, o, rfl, ?_, ?_, ?_⟩
  · refine SR.mono (lo := W0.heap.size) (SR.only (S := [w.heap.size, w.heap.size + 1]) hS ?_ ?_) ?_
    · exact (by repeat (first | (with_reducible exact Only.refl _ _) | (refine Only.setCell ?_ (.inl (by simp)) _)))
    · simp; omega
    · omega
  · clear X2 X3 hS
    exact (by repeat (first | (with_reducible assumption) | (refine Only.setCell ?_ (.inr (by simp only; omega)) _)))
  · exact (HR.keep (by repeat (first | (with_reducible exact Below.refl _ _) | (refine Below.setCell ?_ (by simp only; omega) _)))).le (by omega)
end Go.Proofs.Ytngmkflmjjkjaaa
