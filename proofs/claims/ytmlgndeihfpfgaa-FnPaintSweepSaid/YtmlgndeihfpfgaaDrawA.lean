/- What the laws draw: a heap; a heap and an instruction. -/
import Derived.Test.YtmlgndeihfpfgaaChecked
import Derived.Deep.QuietTactic
import Derived.BigQuiet
import Derived.IntWalk
import Derived.Deep.RegionWith
import Derived.Deep.DeepCutAuto
import Derived.Test.YtmlgndeihfpfgaaDraw8
import Derived.Test.YtmlgndeihfpfgaaGrCtx
namespace Go.Proofs.Ytmlgndeihfpfgaa
open Go.RowKit
set_option maxRecDepth 100000
set_option linter.unusedSimpArgs false
set_option linter.unusedVariables false
set_option maxHeartbeats 4000000 in
theorem drawCollectSweep_any (C : Option Addr) (bs : List Int) (c : Nat) (w : World) (hr : RF fu w C bs) (hb : ∀ x ∈ bs, 0 ≤ x ∧ x < 256) (hc : bs.length ≤ c) (hc2 : c ≤ 9223372036854775807) :
    Calls Try.prog 13 #[.slice C bs.length c] w fun e w' => ∃ v hm, e = .returned v ∧ RH w' v hm ∧ Below w.heap.size w w' := by
  go_enter Try.func13, Try.ntmps13
  go_wp2_with fail
  refine Calls.gen (fun W => Bx W w.heap.size [.slice none 0 0, .slice none 0 0] ∧ Below w.heap.size w W ∧ RF fu W C bs) ⟨Bx.new w [.slice none 0 0, .slice none 0 0] 29, blw_, hr.below blw_⟩ ?_
  clear hr
  rintro W0 ⟨X2, HB, hr⟩
  have zB := HB.size
  have hw0 := X2.lt
  (with_reducible refine (l20Open_any C bs c _ hr hb hc hc2).mono ?_); rintro e w1 ⟨g, rfl, HR, hB⟩
  have X2 := X2.below hB
  have HB := HB.trans (hB.mono zB)
  have hg := HR.lt
  have zb := hB.size
  clear hB hr zB
  go_wp2_with fail
  (with_reducible refine (l20Heap_any W0.heap.size g 1000 12 _ (HR.le (by omega)) (by omega) (by omega)).mono ?_); rintro e w2 ⟨v, hm, rfl, hS, hO, -⟩
  obtain ⟨A, n, A', n', rfl⟩ := hS.now.parts
  have X2 := X2.only hO (by simp; omega)
  have HB := HB.trans (hO.below (B := w.heap.size) HB.size (by simp; omega))
  clear hO HR
  have q0 := X2.c 0 _ rfl
  have q1 := X2.c 1 _ rfl
  have qf0 := X2.f 0
  have qf1 := X2.f 1
  go_wp2_with fail
  refine bodyPost_ret (v := .agg #[.slice A hm.cells.length n, .slice A' hm.roots.length n']) (by simp [results, Try.results13, go_sem, q0, q1]) rfl ⟨_, hm, rfl, ?_, ?_⟩
  · refine SR.now (lo := w1.heap.size) (SR.only (S := [w.heap.size]) hS ?_ ?_)
    · exact (by repeat (first | (with_reducible exact Only.refl _ _) | (refine Only.setCell ?_ (.inl (by simp)) _)))
    · simp; omega
  · exact blw_
end Go.Proofs.Ytmlgndeihfpfgaa
