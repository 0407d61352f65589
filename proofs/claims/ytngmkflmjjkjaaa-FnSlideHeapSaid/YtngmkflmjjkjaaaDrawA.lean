/- What the laws draw: a heap; a heap and an instruction. -/
import Derived.Test.YtngmkflmjjkjaaaChecked
import Derived.Deep.QuietTactic
import Derived.BigQuiet
import Derived.IntWalk
import Derived.Test.YtngmkflmjjkjaaaDraw9
namespace Go.Proofs.Ytngmkflmjjkjaaa
open Go.RowKit
set_option maxRecDepth 100000
set_option linter.unusedSimpArgs false
set_option linter.unusedVariables false
set_option maxHeartbeats 4000000 in
theorem drawSlideHeap_any (C : Option Addr) (bs : List Int) (c : Nat) (w : World) (hr : RF fu w C bs) (hb : ∀ x ∈ bs, 0 ≤ x ∧ x < 256) (hc : bs.length ≤ c) (hc2 : c ≤ 9223372036854775807) :
    Calls Try.prog 36 #[.slice C bs.length c] w fun e w' => ∃ v hm, e = .returned v ∧ RH w' v hm ∧ Below w.heap.size w w' := by
  go_enter Try.func36, Try.ntmps36
  go_wp2_with fail
  refine Calls.gen (fun W => Bx W w.heap.size [.slice none 0 0, .slice none 0 0] ∧ Below w.heap.size w W ∧ RF fu W C bs) ⟨Bx.new w [.slice none 0 0, .slice none 0 0] 28, (by repeat (first | ((with_reducible refine Below.setc ?_ ?_ _); focus (first | omega | (simp; done) | (simp; omega))) | ((with_reducible refine Below.allocc ?_ ?_ _); focus (first | omega | (simp; done) | (simp; omega))) | (with_reducible refine Below.drew ?_) | (with_reducible refine Below.drewn ?_) | (with_reducible assumption) | (with_reducible exact Below.refl _ _) | ((with_reducible refine Below.stepp (by with_reducible assumption) ?_ ?_); focus (first | omega | (simp; done) | (simp; omega))))), hr.below (by repeat (first | ((with_reducible refine Below.setc ?_ ?_ _); focus (first | omega | (simp; done) | (simp; omega))) | ((with_reducible refine Below.allocc ?_ ?_ _); focus (first | omega | (simp; done) | (simp; omega))) | (with_reducible refine Below.drew ?_) | (with_reducible refine Below.drewn ?_) | (with_reducible assumption) | (with_reducible exact Below.refl _ _) | ((with_reducible refine Below.stepp (by with_reducible assumption) ?_ ?_); focus (first | omega | (simp; done) | (simp; omega)))))⟩ ?_
  clear hr
  rintro W0 ⟨X2, HB, hr⟩
  have zB := HB.size
  have hw0 := X2.lt
  (with_reducible refine (l20Open_any C bs c _ hr hb hc hc2).mono ?_); rintro e w1 ⟨g, rfl, HR, hB⟩
  have X2 := X2.below hB
  have HB := HB.trans (hB.mono zB)
  have hg := HR.lt
  have zb := hB.size
  clear hB hr zB
  go_wp2_with fail
  (with_reducible refine (l20Heap_any W0.heap.size g 1000 12 _ (HR.le (by omega)) (by omega) (by omega)).mono ?_); rintro e w2 ⟨v, hm, rfl, hS, hO, -⟩
  obtain ⟨A, n, A', n', rfl⟩ := hS.now.parts
  have X2 := X2.only hO (by simp; omega)
  have HB := HB.trans (hO.below (B := w.heap.size) HB.size (by simp; omega))
  clear hO HR
  have q0 := X2.c 0 _ rfl
  have q1 := X2.c 1 _ rfl
  have qf0 := X2.f 0
  have qf1 := X2.f 1
  go_wp2_with fail
  refine bodyPost_ret (v := .agg #[.slice A hm.cells.length n, .slice A' hm.roots.length n']) (by simp [results, Try.results36, go_sem, q0, q1]) rfl ⟨_, hm, rfl, ?_, ?_⟩
  · refine SR.now (lo := w1.heap.size) (SR.only (S := [w.heap.size]) hS ?_ ?_)
    · exact (by repeat (first | (with_reducible exact Only.refl _ _) | (refine Only.setCell ?_ (.inl (by simp)) _)))
    · simp; omega
  · exact (by repeat (first | ((with_reducible refine Below.setc ?_ ?_ _); focus (first | omega | (simp; done) | (simp; omega))) | ((with_reducible refine Below.allocc ?_ ?_ _); focus (first | omega | (simp; done) | (simp; omega))) | (with_reducible refine Below.drew ?_) | (with_reducible refine Below.drewn ?_) | (with_reducible assumption) | (with_reducible exact Below.refl _ _) | ((with_reducible refine Below.stepp (by with_reducible assumption) ?_ ?_); focus (first | omega | (simp; done) | (simp; omega)))))
set_option maxHeartbeats 4000000 in
theorem drawCollectSweep_any (C : Option Addr) (bs : List Int) (c : Nat) (w : World) (hr : RF fu w C bs) (hb : ∀ x ∈ bs, 0 ≤ x ∧ x < 256) (hc : bs.length ≤ c) (hc2 : c ≤ 9223372036854775807) :
    Calls Try.prog 42 #[.slice C bs.length c] w fun e w' => ∃ v hm, e = .returned v ∧ RH w' v hm ∧ Below w.heap.size w w' := by
  go_enter Try.func42, Try.ntmps42
  go_wp2_with fail
  refine Calls.gen (fun W => Bx W w.heap.size [.slice none 0 0, .slice none 0 0] ∧ Below w.heap.size w W ∧ RF fu W C bs) ⟨Bx.new w [.slice none 0 0, .slice none 0 0] 28, (by repeat (first | ((with_reducible refine Below.setc ?_ ?_ _); focus (first | omega | (simp; done) | (simp; omega))) | ((with_reducible refine Below.allocc ?_ ?_ _); focus (first | omega | (simp; done) | (simp; omega))) | (with_reducible refine Below.drew ?_) | (with_reducible refine Below.drewn ?_) | (with_reducible assumption) | (with_reducible exact Below.refl _ _) | ((with_reducible refine Below.stepp (by with_reducible assumption) ?_ ?_); focus (first | omega | (simp; done) | (simp; omega))))), hr.below (by repeat (first | ((with_reducible refine Below.setc ?_ ?_ _); focus (first | omega | (simp; done) | (simp; omega))) | ((with_reducible refine Below.allocc ?_ ?_ _); focus (first | omega | (simp; done) | (simp; omega))) | (with_reducible refine Below.drew ?_) | (with_reducible refine Below.drewn ?_) | (with_reducible assumption) | (with_reducible exact Below.refl _ _) | ((with_reducible refine Below.stepp (by with_reducible assumption) ?_ ?_); focus (first | omega | (simp; done) | (simp; omega)))))⟩ ?_
  clear hr
  rintro W0 ⟨X2, HB, hr⟩
  have zB := HB.size
  have hw0 := X2.lt
  (with_reducible refine (l20Open_any C bs c _ hr hb hc hc2).mono ?_); rintro e w1 ⟨g, rfl, HR, hB⟩
  have X2 := X2.below hB
  have HB := HB.trans (hB.mono zB)
  have hg := HR.lt
  have zb := hB.size
  clear hB hr zB
  go_wp2_with fail
  (with_reducible refine (l20Heap_any W0.heap.size g 1000 12 _ (HR.le (by omega)) (by omega) (by omega)).mono ?_); rintro e w2 ⟨v, hm, rfl, hS, hO, -⟩
  obtain ⟨A, n, A', n', rfl⟩ := hS.now.parts
  have X2 := X2.only hO (by simp; omega)
  have HB := HB.trans (hO.below (B := w.heap.size) HB.size (by simp; omega))
  clear hO HR
  have q0 := X2.c 0 _ rfl
  have q1 := X2.c 1 _ rfl
  have qf0 := X2.f 0
  have qf1 := X2.f 1
  go_wp2_with fail
  refine bodyPost_ret (v := .agg #[.slice A hm.cells.length n, .slice A' hm.roots.length n']) (by simp [results, Try.results42, go_sem, q0, q1]) rfl ⟨_, hm, rfl, ?_, ?_⟩
  · refine SR.now (lo := w1.heap.size) (SR.only (S := [w.heap.size]) hS ?_ ?_)
    · exact (by repeat (first | (with_reducible exact Only.refl _ _) | (refine Only.setCell ?_ (.inl (by simp)) _)))
    · simp; omega
  · exact (by repeat (first | ((with_reducible refine Below.setc ?_ ?_ _); focus (first | omega | (simp; done) | (simp; omega))) | ((with_reducible refine Below.allocc ?_ ?_ _); focus (first | omega | (simp; done) | (simp; omega))) | (with_reducible refine Below.drew ?_) | (with_reducible refine Below.drewn ?_) | (with_reducible assumption) | (with_reducible exact Below.refl _ _) | ((with_reducible refine Below.stepp (by with_reducible assumption) ?_ ?_); focus (first | omega | (simp; done) | (simp; omega)))))
set_option maxHeartbeats 4000000 in
theorem drawCommandPossible_any (C : Option Addr) (bs : List Int) (c : Nat) (w : World) (hr : RF fu w C bs) (hb : ∀ x ∈ bs, 0 ≤ x ∧ x < 256) (hc : bs.length ≤ c) (hc2 : c ≤ 9223372036854775807) :
    Calls Try.prog 23 #[.slice C bs.length c] w fun e w' => ∃ v hm o, e = .returned (.tuple #[v, cmdV o]) ∧ RH w' v hm ∧ Below w.heap.size w w' := by
  go_enter Try.func23, Try.ntmps23
  go_wp2_with fail
  refine Calls.gen (fun W => Bx W w.heap.size [.slice none 0 0, .slice none 0 0] ∧ Bx W (w.heap.size + 1) [.int .i64 0, .int .i64 0, .int .i64 0, .int .i64 0] ∧ Below w.heap.size w W ∧ RF fu W C bs) ⟨(Bx.new w [.slice none 0 0, .slice none 0 0] 28).below (by repeat (first | ((with_reducible refine Below.setc ?_ ?_ _); focus (first | omega | (simp; done) | (simp; omega))) | ((with_reducible refine Below.allocc ?_ ?_ _); focus (first | omega | (simp; done) | (simp; omega))) | (with_reducible refine Below.drew ?_) | (with_reducible refine Below.drewn ?_) | (with_reducible assumption) | (with_reducible exact Below.refl _ _) | ((with_reducible refine Below.stepp (by with_reducible assumption) ?_ ?_); focus (first | omega | (simp; done) | (simp; omega))))), by simpa using Bx.new (w.alloc (.cells #[.slice none 0 0, .slice none 0 0] 28)) [.int .i64 0, .int .i64 0, .int .i64 0, .int .i64 0] 36, (by repeat (first | ((with_reducible refine Below.setc ?_ ?_ _); focus (first | omega | (simp; done) | (simp; omega))) | ((with_reducible refine Below.allocc ?_ ?_ _); focus (first | omega | (simp; done) | (simp; omega))) | (with_reducible refine Below.drew ?_) | (with_reducible refine Below.drewn ?_) | (with_reducible assumption) | (with_reducible exact Below.refl _ _) | ((with_reducible refine Below.stepp (by with_reducible assumption) ?_ ?_); focus (first | omega | (simp; done) | (simp; omega))))), hr.below (by repeat (first | ((with_reducible refine Below.setc ?_ ?_ _); focus (first | omega | (simp; done) | (simp; omega))) | ((with_reducible refine Below.allocc ?_ ?_ _); focus (first | omega | (simp; done) | (simp; omega))) | (with_reducible refine Below.drew ?_) | (with_reducible refine Below.drewn ?_) | (with_reducible assumption) | (with_reducible exact Below.refl _ _) | ((with_reducible refine Below.stepp (by with_reducible assumption) ?_ ?_); focus (first | omega | (simp; done) | (simp; omega)))))⟩ ?_
  clear hr
  rintro W0 ⟨X2, X3, HB, hr⟩
  have zB := HB.size
  have hw0 := X3.lt
  (with_reducible refine (l20Open_any C bs c _ hr hb hc hc2).mono ?_); rintro e w1 ⟨g, rfl, HR, hB⟩
  have X2 := X2.below hB
  have X3 := X3.below hB
  have HB := HB.trans (hB.mono zB)
  have hg := HR.lt
  have zb := hB.size
  clear hB hr zB
  go_wp2_with fail
  (with_reducible refine (l20Next_any W0.heap.size g 1000 _ (HR.le (by omega))).mono ?_); rintro e w2 ⟨v, hm, o, rfl, hS, hO, -⟩
  obtain ⟨A, n, A', n', rfl⟩ := hS.now.parts
  have X2 := X2.only hO (by simp; omega)
  have X3 := X3.only hO (by simp; omega)
  have HB := HB.trans (hO.below (B := w.heap.size) HB.size (by simp; omega))
  clear hO HR
  have q0 := X2.c 0 _ rfl
  have q1 := X2.c 1 _ rfl
  have qf0 := X2.f 0
  have qf1 := X2.f 1
  have r0 := X3.c 0 _ rfl
  have r1 := X3.c 1 _ rfl
  have r2 := X3.c 2 _ rfl
  have r3 := X3.c 3 _ rfl
  have rf0 := X3.f 0
  have rf1 := X3.f 1
  have rf2 := X3.f 2
  have rf3 := X3.f 3
  have n1 : w.heap.size ≠ w.heap.size + 1 := by omega
  have n2 : w.heap.size + 1 ≠ w.heap.size := by omega
  simp only [cmdV]
  go_wp2_with fail
  refine bodyPost_ret (v := .tuple #[.agg #[.slice A hm.cells.length n, .slice A' hm.roots.length n'], cmdV o]) (by simp [results, Try.results23, go_sem, q0, q1, r0, r1, r2, r3, n1, n2, cmdV]) rfl ⟨_, hm, o, rfl, ?_, ?_⟩
  · refine SR.now (lo := w1.heap.size) (SR.only (S := [w.heap.size, w.heap.size + 1]) hS ?_ ?_)
    · exact (by repeat (first | (with_reducible exact Only.refl _ _) | (refine Only.setCell ?_ (.inl (by simp)) _)))
    · simp; omega
  · exact (by repeat (first | ((with_reducible refine Below.setc ?_ ?_ _); focus (first | omega | (simp; done) | (simp; omega))) | ((with_reducible refine Below.allocc ?_ ?_ _); focus (first | omega | (simp; done) | (simp; omega))) | (with_reducible refine Below.drew ?_) | (with_reducible refine Below.drewn ?_) | (with_reducible assumption) | (with_reducible exact Below.refl _ _) | ((with_reducible refine Below.stepp (by with_reducible assumption) ?_ ?_); focus (first | omega | (simp; done) | (simp; omega)))))
set_option maxHeartbeats 4000000 in
theorem drawStepHeap_any (C : Option Addr) (bs : List Int) (c : Nat) (w : World) (hr : RF fu w C bs) (hb : ∀ x ∈ bs, 0 ≤ x ∧ x < 256) (hc : bs.length ≤ c) (hc2 : c ≤ 9223372036854775807) :
    Calls Try.prog 26 #[.slice C bs.length c] w fun e w' => ∃ v hm o, e = .returned (.tuple #[v, cmdV o]) ∧ RH w' v hm ∧ Below w.heap.size w w' := by
  go_enter Try.func26, Try.ntmps26
  go_wp2_with fail
  refine Calls.gen (fun W => Bx W w.heap.size [.slice none 0 0, .slice none 0 0] ∧ Bx W (w.heap.size + 1) [.int .i64 0, .int .i64 0, .int .i64 0, .int .i64 0] ∧ Below w.heap.size w W ∧ RF fu W C bs) ⟨(Bx.new w [.slice none 0 0, .slice none 0 0] 28).below (by repeat (first | ((with_reducible refine Below.setc ?_ ?_ _); focus (first | omega | (simp; done) | (simp; omega))) | ((with_reducible refine Below.allocc ?_ ?_ _); focus (first | omega | (simp; done) | (simp; omega))) | (with_reducible refine Below.drew ?_) | (with_reducible refine Below.drewn ?_) | (with_reducible assumption) | (with_reducible exact Below.refl _ _) | ((with_reducible refine Below.stepp (by with_reducible assumption) ?_ ?_); focus (first | omega | (simp; done) | (simp; omega))))), by simpa using Bx.new (w.alloc (.cells #[.slice none 0 0, .slice none 0 0] 28)) [.int .i64 0, .int .i64 0, .int .i64 0, .int .i64 0] 36, (by repeat (first | ((with_reducible refine Below.setc ?_ ?_ _); focus (first | omega | (simp; done) | (simp; omega))) | ((with_reducible refine Below.allocc ?_ ?_ _); focus (first | omega | (simp; done) | (simp; omega))) | (with_reducible refine Below.drew ?_) | (with_reducible refine Below.drewn ?_) | (with_reducible assumption) | (with_reducible exact Below.refl _ _) | ((with_reducible refine Below.stepp (by with_reducible assumption) ?_ ?_); focus (first | omega | (simp; done) | (simp; omega))))), hr.below (by repeat (first | ((with_reducible refine Below.setc ?_ ?_ _); focus (first | omega | (simp; done) | (simp; omega))) | ((with_reducible refine Below.allocc ?_ ?_ _); focus (first | omega | (simp; done) | (simp; omega))) | (with_reducible refine Below.drew ?_) | (with_reducible refine Below.drewn ?_) | (with_reducible assumption) | (with_reducible exact Below.refl _ _) | ((with_reducible refine Below.stepp (by with_reducible assumption) ?_ ?_); focus (first | omega | (simp; done) | (simp; omega)))))⟩ ?_
  clear hr
  rintro W0 ⟨X2, X3, HB, hr⟩
  have zB := HB.size
  have hw0 := X3.lt
  (with_reducible refine (l20Open_any C bs c _ hr hb hc hc2).mono ?_); rintro e w1 ⟨g, rfl, HR, hB⟩
  have X2 := X2.below hB
  have X3 := X3.below hB
  have HB := HB.trans (hB.mono zB)
  have hg := HR.lt
  have zb := hB.size
  clear hB hr zB
  go_wp2_with fail
  (with_reducible refine (l20Next_any W0.heap.size g 1000 _ (HR.le (by omega))).mono ?_); rintro e w2 ⟨v, hm, o, rfl, hS, hO, -⟩
  obtain ⟨A, n, A', n', rfl⟩ := hS.now.parts
  have X2 := X2.only hO (by simp; omega)
  have X3 := X3.only hO (by simp; omega)
  have HB := HB.trans (hO.below (B := w.heap.size) HB.size (by simp; omega))
  clear hO HR
  have q0 := X2.c 0 _ rfl
  have q1 := X2.c 1 _ rfl
  have qf0 := X2.f 0
  have qf1 := X2.f 1
  have r0 := X3.c 0 _ rfl
  have r1 := X3.c 1 _ rfl
  have r2 := X3.c 2 _ rfl
  have r3 := X3.c 3 _ rfl
  have rf0 := X3.f 0
  have rf1 := X3.f 1
  have rf2 := X3.f 2
  have rf3 := X3.f 3
  have n1 : w.heap.size ≠ w.heap.size + 1 := by omega
  have n2 : w.heap.size + 1 ≠ w.heap.size := by omega
  simp only [cmdV]
  go_wp2_with fail
  refine bodyPost_ret (v := .tuple #[.agg #[.slice A hm.cells.length n, .slice A' hm.roots.length n'], cmdV o]) (by simp [results, Try.results26, go_sem, q0, q1, r0, r1, r2, r3, n1, n2, cmdV]) rfl ⟨_, hm, o, rfl, ?_, ?_⟩
  · refine SR.now (lo := w1.heap.size) (SR.only (S := [w.heap.size, w.heap.size + 1]) hS ?_ ?_)
    · exact (by repeat (first | (with_reducible exact Only.refl _ _) | (refine Only.setCell ?_ (.inl (by simp)) _)))
    · simp; omega
  · exact (by repeat (first | ((with_reducible refine Below.setc ?_ ?_ _); focus (first | omega | (simp; done) | (simp; omega))) | ((with_reducible refine Below.allocc ?_ ?_ _); focus (first | omega | (simp; done) | (simp; omega))) | (with_reducible refine Below.drew ?_) | (with_reducible refine Below.drewn ?_) | (with_reducible assumption) | (with_reducible exact Below.refl _ _) | ((with_reducible refine Below.stepp (by with_reducible assumption) ?_ ?_); focus (first | omega | (simp; done) | (simp; omega)))))
end Go.Proofs.Ytngmkflmjjkjaaa
