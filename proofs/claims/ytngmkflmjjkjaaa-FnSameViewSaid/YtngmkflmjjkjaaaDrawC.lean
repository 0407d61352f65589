/- What the laws draw: two heaps. -/
import Derived.Test.YtngmkflmjjkjaaaChecked
import Derived.Deep.QuietTactic
import Derived.BigQuiet
import Derived.IntWalk
import Derived.Deep.RegionWith
import Derived.Test.YtngmkflmjjkjaaaDrawB
import Derived.Test.YtngmkflmjjkjaaaRelQ
import Derived.Test.YtngmkflmjjkjaaaMovS
import Derived.Test.YtngmkflmjjkjaaaStepH
namespace Go.Proofs.Ytngmkflmjjkjaaa
open Go.RowKit
set_option maxRecDepth 100000
set_option linter.unusedSimpArgs false
set_option linter.unusedVariables false
theorem OH.sr {lo : Nat} {w : World} {v : Value} {h : HeapM} (hh : OH lo w v h) : SR lo w v h := fun W hW => by
  obtain ⟨A, c, A', c', os, rfl, hm, ho, hlo⟩ := hh
  exact OH.rh (lo := lo) ⟨A, c, A', c', os, rfl, hm, ho.keep (fun g hg => hW g (hlo g hg) (ho.lt g hg)), hlo⟩
theorem OH.only_ {lo : Nat} {S : List Nat} {w w' : World} {v : Value} {h : HeapM} (hh : OH lo w v h) (hO : Only S w w') (hS : ∀ x ∈ S, x < lo) : OH lo w' v h := by
  obtain ⟨A, c, A', c', os, rfl, hm, ho, hlo⟩ := hh
  exact ⟨A, c, A', c', os, rfl, hm, ho.only hO (fun g hg hc => by have := hlo g hg; have := hS g hc; omega), hlo⟩
theorem OHs.not_heap {W : World} {A A' : Option Addr} {c c' b : Nat} {os : List OCell} {rs : List Int} {cur : Array Value} (h : OHs W A c A' c' os rs) (hb : W.heap[b]? = some (.cells cur 28 (0, 0))) : b ∉ hblks A os A' := by
  have key : ∀ {A : Option Addr} {e size n c : Nat} {vs : List Value}, W.ownsRow 0 e size (.slice A n c) n vs → e ≠ 28 → b ∉ blk A := by
    intro A e size n c vs ho hne hm
    rcases ownsRow_block ho with ⟨rfl, -⟩ | ⟨g, cur2, rfl, h2, -⟩
    · simp [blk] at hm
    · have := mem_blk_some hm
      subst this
      rw [hb] at h2
      simp at h2
      exact hne h2.2.symm
  intro hm
  rcases List.mem_append.1 hm with hm | hm
  · rcases List.mem_append.1 hm with hm | hm
    · exact key h.cells.1 (by decide) hm
    · obtain ⟨o, ho, hbo⟩ := List.mem_flatMap.1 hm
      exact key (h.cells.2 o ho).1 (by decide) hbo
  · exact key h.roots (by decide) hm
theorem OH.parts2 {lo : Nat} {w : World} {v : Value} {h : HeapM} (hh : OH lo w v h) : ∃ A c A' c', v = .agg #[.slice A h.cells.length c, .slice A' h.roots.length c'] ∧ OH lo w (.agg #[.slice A h.cells.length c, .slice A' h.roots.length c']) h := by
  obtain ⟨A, c, A', c', e⟩ := hh.rh.parts
  exact ⟨A, c, A', c', e, e ▸ hh⟩
theorem OH.box2 {lo b i j : Nat} {w : World} {v u u' : Value} {h : HeapM} (hh : OH lo w v h) (hb : ∃ cur, w.heap[b]? = some (.cells cur 28 (0, 0))) : OH lo ((w.setCell ⟨b, i, none⟩ u).setCell ⟨b, j, none⟩ u') v h := by
  obtain ⟨cur, hb⟩ := hb
  obtain ⟨A, c, A', c', os, rfl, hm, ho, hlo⟩ := hh
  have key : ∀ g ∈ hblks A os A', g ≠ b := fun g hg e => ho.not_heap hb (by rw [← e]; exact hg)
  exact ⟨A, c, A', c', os, rfl, hm, ho.keep (fun g hg => (heap_setCell_ne _ _ _ (key g hg)).trans (heap_setCell_ne _ _ _ (key g hg))), hlo⟩
theorem Bx.set_ne {W : World} {b b' : Nat} {vs : List Value} (h : Bx W b vs) (hn : b ≠ b') (j : Nat) (u : Value) : Bx (W.setCell ⟨b', j, none⟩ u) b vs :=
  h.keep (heap_setCell_ne _ _ _ hn) (by simp)
theorem OH.box {lo b : Nat} {w : World} {v u : Value} {h : HeapM} {j : Nat} {cur : Array Value} (hh : OH lo w v h) (hb : w.heap[b]? = some (.cells cur 28 (0, 0))) : OH lo (w.setCell ⟨b, j, none⟩ u) v h := by
  obtain ⟨A, c, A', c', os, rfl, hm, ho, hlo⟩ := hh
  exact ⟨A, c, A', c', os, rfl, hm, ho.keep (fun g hg => heap_setCell_ne _ _ _ (fun e => ho.not_heap hb (by rw [← show g = b from e]; exact hg))), hlo⟩
set_option maxHeartbeats 8000000 in
theorem drawSameView_any (C : Option Addr) (bs : List Int) (c : Nat) (w : World) (hr : RF fu w C bs) (hb : ∀ x ∈ bs, 0 ≤ x ∧ x < 256) (hc : bs.length ≤ c) (hc2 : c ≤ 9223372036854775807) :
    Calls Try.prog 30 #[.slice C bs.length c] w fun e w' => ∃ va vb a b, e = .returned (.tuple #[va, vb]) ∧ RH w' va a ∧ RH w' vb b ∧ Below w.heap.size w w' := by
  go_enter Try.func30, Try.ntmps30
  go_wp2_with fail
  refine Calls.gen (fun W => Bx W w.heap.size [.slice none 0 0, .slice none 0 0] ∧ Bx W (w.heap.size + 1) [.slice none 0 0, .slice none 0 0] ∧ Below w.heap.size w W ∧ RF fu W C bs ∧ W.heap.size = w.heap.size + 2) ⟨(Bx.new w [.slice none 0 0, .slice none 0 0] 28).below blw_, by simpa using Bx.new (w.alloc (.cells #[.slice none 0 0, .slice none 0 0] 28)) [.slice none 0 0, .slice none 0 0] 28, blw_, hr.below blw_, by simp⟩ ?_
  clear hr
  rintro W0 ⟨X2, X3, HB, hr, hz0⟩
  (with_reducible refine (l20Open_any C bs c _ hr hb hc hc2).mono ?_); rintro e w1 ⟨g, rfl, HR, hB⟩
  rw [hz0] at HR
  have X2 := X2.below hB
  have X3 := X3.below hB
  have HB := HB.trans (hB.mono HB.size)
  have hg9 := HR.lt
  clear hB hr hz0
  go_wp2_with fail
  (with_reducible refine (l20Heap_any (w.heap.size + 2) g 10000 14 _ (HR.le (by omega)) (by omega) (by omega)).mono ?_); rintro e w2 ⟨v, a, rfl, hS, hO, HR⟩
  obtain ⟨A, n, A', n', rfl⟩ := hS.now.parts
  have X2 := X2.only hO (by simp; omega)
  have X3 := X3.only hO (by simp; omega)
  have HB := HB.trans (hO.below (B := w.heap.size) HB.size (by simp; omega))
  have hg1 : w1.heap.size ≤ w2.heap.size := hO.size
  clear hO
  go_wp2_with fail
  refine Calls.gen (fun W => Bx W w.heap.size [.slice none 0 0, .slice none 0 0] ∧ Bx W (w.heap.size + 1) [.slice none 0 0, .slice none 0 0] ∧ Below w.heap.size w W ∧ Bx W w2.heap.size [.slice A a.cells.length n, .slice A' a.roots.length n'] ∧ SR w1.heap.size W (.agg #[.slice A a.cells.length n, .slice A' a.roots.length n']) a ∧ Rd (w.heap.size + 2) W g 10000) ⟨X2.below blw_, X3.below blw_, HB.trans (Below.mono (show Below w2.heap.size w2 _ from blw_) HB.size), Bx.new _ _ _, hS.below blw_, HR.below blw_⟩ ?_
  obtain ⟨lo, hlo⟩ : ∃ lo, Hid (lo = w1.heap.size) := ⟨_, rfl⟩
  have hg : Hid (w.heap.size + 2 ≤ g ∧ g < lo ∧ lo ≤ w2.heap.size) := ⟨hg9.2, by rw [hlo.out]; exact hg9.1, by rw [hlo.out]; exact hg1⟩
  rw [← hlo.out]
  generalize w2.heap.size = b5 at hg ⊢
  clear X2 X3 HB hS HR hg1 hg9 hlo
  rintro W ⟨X2, X3, HB, X5, hS, HR⟩
  (with_reducible refine (pick_any (w.heap.size + 2) g 9000 4 _ (HR.le (by omega)) (by omega) (by omega)).mono ?_); rintro e w4 ⟨k, rfl, hk, -, hO, HR⟩
  have hk4 := hk (by omega)
  have X2 := X2.only hO (by have := hg.out; simp; omega)
  have X3 := X3.only hO (by have := hg.out; simp; omega)
  have X5 := X5.only hO (by have := hg.out; simp; omega)
  have hS := hS.only hO (by have := hg.out; simp; omega)
  have HB := HB.trans (hO.below (B := w.heap.size) HB.size (by have := hg.out; simp; omega))
  clear hO hk
  rcases (by omega : k = 0 ∨ k = 1 ∨ k = 2 ∨ k = 3) with rfl | rfl | rfl | rfl
  · go_wp2_with fail
    refine wp_region_R (by kernel_rfl) (fun R wd hR hwd => ?_)
    have hBd : Below w4.heap.size w4 wd := by rw [hwd]; exact blw_
    have X2 := X2.below hBd
    have X3 := X3.below hBd
    have X5 := X5.below hBd
    have hS := hS.below hBd
    have HB := HB.trans (hBd.mono HB.size)
    have HR := HR.below hBd
    clear hBd hwd
    rw [hR]
    (refine wpAny_take (i := 1) (v := ?v9_1_u0) rfl (by kernel_rfl) (by kernel_rfl) (by kernel_rfl) (fun _ _ _ h => h) (Or.inl ⟨by kernel_rfl, ?h9_1_u0⟩) ?r9_1_u0; (case h9_1_u0 => (intro w9; go_simp; try with_reducible rfl)))
    rw [← hR]
    refine rel_at (fr := ?fr_0) hR (fun f W => Bx W w.heap.size [.slice none 0 0, .slice none 0 0] ∧ Bx W (w.heap.size + 1) [.slice none 0 0, .slice none 0 0] ∧ Bx W b5 [.slice A a.cells.length n, .slice A' a.roots.length n'] ∧ SR lo W (.agg #[.slice A a.cells.length n, .slice A' a.roots.length n']) a ∧ Below w.heap.size w W ∧ Rd (w.heap.size + 2) W g (1500 * f)) [(fun v W => v = (.agg #[.slice A a.cells.length n, .slice A' a.roots.length n'])), tt, (fun v W => ∃ (hm2 : HeapM) (B : Option Addr) (d : Nat) (B' : Option Addr) (d' : Nat), v = .agg #[.slice B hm2.cells.length d, .slice B' hm2.roots.length d'] ∧ SR lo W (.agg #[.slice B hm2.cells.length d, .slice B' hm2.roots.length d']) hm2), tt, tt] (fun W W' => Only [g] W W') [(0, []), (2, []), (3, [0, 2]), (4, [0, 2])] [(16, 0), (18, 2)] [0, 2] #[true, true, true, false, false] 4 2 (by kernel_rfl) (by kernel_rfl) ?hfr_0 ?h0_0 ?mono_0 ?steps_0 ?_
    case hfr_0 => intro x; (simp [frOf, fill, Act.put, List.lookup]; with_reducible rfl)
    case h0_0 => exact ⟨X2, X3, X5, hS, HB, HR.le (by omega)⟩
    case mono_0 => exact (Pm.cons (fun _ _ _ _ h => h) (Pm.cons (fun _ _ _ _ h => h) (Pm.cons (fun _ _ _ hG ⟨hm2, B, d, B', d', e, h9⟩ => ⟨hm2, B, d, B', d', e, h9.only hG (by have := hg.out; simp; omega)⟩) (Pm.cons (fun _ _ _ _ h => h) (Pm.cons (fun _ _ _ _ h => h) Pm.nil)))))
    case steps_0 =>
      refine Steps.cons (RStep.of rfl fun x W f hI hD K9 hK => ?_) ?_
      · clear hD
        have c0 := hI.2.2.1.c 0 _ rfl
        have c1 := hI.2.2.1.c 1 _ rfl
        go_simp
        exact hK ((.agg #[.slice A a.cells.length n, .slice A' a.roots.length n'])) _ _ (by kernel_rfl) (Only.refl _ _) (⟨hI.1, hI.2.1, hI.2.2.1, hI.2.2.2.1, hI.2.2.2.2.1, hI.2.2.2.2.2.le (by omega)⟩) rfl
      refine Steps.cons (RStep.of rfl fun x W f hI hD K9 hK => ?_) ?_
      · clear hD
        have hzW := hI.2.2.1.lt
        go_wp2_with fail
        (with_reducible refine (l20Heap_any (w.heap.size + 2) g (1500 * f) 14 _ (hI.2.2.2.2.2.le (by omega)) (by omega) (by omega)).mono ?_)
        rintro e w6 ⟨v6, hm2, rfl, hS6, hO, hR6⟩
        obtain ⟨B, d, B', d', rfl⟩ := hS6.now.parts
        exact hK (.agg #[.slice B hm2.cells.length d, .slice B' hm2.roots.length d']) _ _ (by kernel_rfl) hO ⟨hI.1.only hO (by have := hg.out; simp; omega), hI.2.1.only hO (by have := hg.out; simp; omega), hI.2.2.1.only hO (by have := hg.out; simp; omega), hI.2.2.2.1.only hO (by have := hg.out; simp; omega), hI.2.2.2.2.1.trans (hO.below (B := w.heap.size) hI.2.2.2.2.1.size (by have := hg.out; simp; omega)), hR6⟩ ⟨hm2, B, d, B', d', rfl, hS6.mono (by have := hg.out; omega)⟩
      exact Steps.nil
    intro x W hI hV
    have e0 : x 0 = (.agg #[.slice A a.cells.length n, .slice A' a.roots.length n']) := hV 0 (by decide)
    have h2 : (fun v W => ∃ (hm2 : HeapM) (B : Option Addr) (d : Nat) (B' : Option Addr) (d' : Nat), v = .agg #[.slice B hm2.cells.length d, .slice B' hm2.roots.length d'] ∧ SR lo W (.agg #[.slice B hm2.cells.length d, .slice B' hm2.roots.length d']) hm2) (x 2) W := hV 2 (by decide)
    clear hV
    simp only [e0]
    obtain ⟨hm2, B, d, B', d', e2, hS2⟩ := h2
    simp only [e2]
    obtain ⟨X2, X3, -, hS, HB, HR⟩ := hI
    have q0 := X2.c 0 _ rfl
    have q1 := X2.c 1 _ rfl
    have qf0 := X2.f 0
    have qf1 := X2.f 1
    have r0 := X3.c 0 _ rfl
    have r1 := X3.c 1 _ rfl
    have rf0 := X3.f 0
    have rf1 := X3.f 1
    clear e2
    rw [hR]
    refine wpAny_ready (rs := [3]) (by kernel_rfl) (by simp) ?_
    refine AllReady.cons rfl (fun K9 hK9 => ?_) AllReady.nil
    go_simp
    refine hK9 _ _ ?_
    clear hK9
    refine wpAny_ready (rs := [4]) (by kernel_rfl) (by simp) ?_
    refine AllReady.cons rfl (fun K9 hK9 => ?_) AllReady.nil
    go_simp
    refine hK9 _ _ ?_
    clear hK9
    refine wpAny_done (by kernel_rfl) ?_ _
    go_wp2_with fail
    have n1 : w.heap.size ≠ w.heap.size + 1 := by omega
    have n2 : w.heap.size + 1 ≠ w.heap.size := by omega
    refine bodyPost_ret (v := .tuple #[(.agg #[.slice A a.cells.length n, .slice A' a.roots.length n']), .agg #[.slice B hm2.cells.length d, .slice B' hm2.roots.length d']]) (by simp [results, Try.results30, go_sem, q0, q1, r0, r1, n1, n2]) rfl ⟨_, _, a, hm2, rfl, ?_, ?_, ?_⟩
    · refine SR.now (lo := lo) (SR.only (S := [w.heap.size, w.heap.size + 1]) hS ?_ ?_)
      · exact (by repeat (first | (with_reducible exact Only.refl _ _) | (refine Only.setCell ?_ (.inl (by simp)) _)))
      · have := hg.out; simp; omega
    · refine SR.now (lo := lo) (SR.only (S := [w.heap.size, w.heap.size + 1]) hS2 ?_ ?_)
      · exact (by repeat (first | (with_reducible exact Only.refl _ _) | (refine Only.setCell ?_ (.inl (by simp)) _)))
      · have := hg.out; simp; omega
    · exact blw_
  · go_wp2_with fail
    refine wp_region_R (by kernel_rfl) (fun R wd hR hwd => ?_)
    have hBd : Below w4.heap.size w4 wd := by rw [hwd]; exact blw_
    have X2 := X2.below hBd
    have X3 := X3.below hBd
    have X5 := X5.below hBd
    have hS := hS.below hBd
    have HB := HB.trans (hBd.mono HB.size)
    have HR := HR.below hBd
    clear hBd hwd
    refine rel_at (fr := ?fr_5) hR (fun f W => Bx W w.heap.size [.slice none 0 0, .slice none 0 0] ∧ Bx W (w.heap.size + 1) [.slice none 0 0, .slice none 0 0] ∧ Bx W b5 [.slice A a.cells.length n, .slice A' a.roots.length n'] ∧ SR lo W (.agg #[.slice A a.cells.length n, .slice A' a.roots.length n']) a ∧ Below w.heap.size w W ∧ Rd (w.heap.size + 2) W g (1500 * f)) [(fun v W => v = (.agg #[.slice A a.cells.length n, .slice A' a.roots.length n'])), (fun v W => v = (.agg #[.slice A a.cells.length n, .slice A' a.roots.length n'])), (fun v W => ∃ (hm2 : HeapM) (B : Option Addr) (d : Nat) (B' : Option Addr) (d' : Nat), v = .agg #[.slice B hm2.cells.length d, .slice B' hm2.roots.length d'] ∧ SR lo W (.agg #[.slice B hm2.cells.length d, .slice B' hm2.roots.length d']) hm2), tt, tt] (fun W W' => Only [g] W W') [(0, []), (1, []), (2, [1]), (3, [0, 1, 2]), (4, [0, 1, 2])] [(21, 0), (22, 1), (23, 2)] [0, 1, 2] #[true, true, true, false, false] 5 2 (by kernel_rfl) (by kernel_rfl) ?hfr_5 ?h0_5 ?mono_5 ?steps_5 ?_
    case hfr_5 => intro x; (simp [frOf, fill, Act.put, List.lookup]; with_reducible rfl)
    case h0_5 => exact ⟨X2, X3, X5, hS, HB, HR.le (by omega)⟩
    case mono_5 => exact (Pm.cons (fun _ _ _ _ h => h) (Pm.cons (fun _ _ _ _ h => h) (Pm.cons (fun _ _ _ hG ⟨hm2, B, d, B', d', e, h9⟩ => ⟨hm2, B, d, B', d', e, h9.only hG (by have := hg.out; simp; omega)⟩) (Pm.cons (fun _ _ _ _ h => h) (Pm.cons (fun _ _ _ _ h => h) Pm.nil)))))
    case steps_5 =>
      refine Steps.cons (RStep.of rfl fun x W f hI hD K9 hK => ?_) ?_
      · clear hD
        have c0 := hI.2.2.1.c 0 _ rfl
        have c1 := hI.2.2.1.c 1 _ rfl
        go_simp
        exact hK ((.agg #[.slice A a.cells.length n, .slice A' a.roots.length n'])) _ _ (by kernel_rfl) (Only.refl _ _) (⟨hI.1, hI.2.1, hI.2.2.1, hI.2.2.2.1, hI.2.2.2.2.1, hI.2.2.2.2.2.le (by omega)⟩) rfl
      refine Steps.cons (RStep.of rfl fun x W f hI hD K9 hK => ?_) ?_
      · clear hD
        have c0 := hI.2.2.1.c 0 _ rfl
        have c1 := hI.2.2.1.c 1 _ rfl
        go_simp
        exact hK ((.agg #[.slice A a.cells.length n, .slice A' a.roots.length n'])) _ _ (by kernel_rfl) (Only.refl _ _) (⟨hI.1, hI.2.1, hI.2.2.1, hI.2.2.2.1, hI.2.2.2.2.1, hI.2.2.2.2.2.le (by omega)⟩) rfl
      refine Steps.cons (RStep.of rfl fun x W f hI hD K9 hK => ?_) ?_
      · have e1 : x 1 = (.agg #[.slice A a.cells.length n, .slice A' a.roots.length n']) := hD 1 (by decide)
        clear hD
        simp only [e1] at hK ⊢
        go_wp2_with fail
        (with_reducible refine (specCopyHeap_any _ a _ hI.2.2.2.1.now).mono ?_)
        rintro e w6 ⟨v6, rfl, oH, hB⟩
        have hS6 : SR lo w6 v6 _ := oH.sr.mono (by have := hg.out; have := hI.2.2.1.lt; omega)
        obtain ⟨B, d, B', d', rfl⟩ := hS6.now.parts
        exact hK (.agg #[.slice B (copyHeapM a).cells.length d, .slice B' (copyHeapM a).roots.length d']) _ _ (by kernel_rfl) (Only.of_below hB) ⟨hI.1.below hB, hI.2.1.below hB, hI.2.2.1.below hB, hI.2.2.2.1.below hB, hI.2.2.2.2.1.trans (hB.mono hI.2.2.2.2.1.size), (hI.2.2.2.2.2.below hB).le (by omega)⟩ ⟨_, B, d, B', d', rfl, hS6⟩
      exact Steps.nil
    intro x W hI hV
    have e0 : x 0 = (.agg #[.slice A a.cells.length n, .slice A' a.roots.length n']) := hV 0 (by decide)
    have e1 : x 1 = (.agg #[.slice A a.cells.length n, .slice A' a.roots.length n']) := hV 1 (by decide)
    have h2 : (fun v W => ∃ (hm2 : HeapM) (B : Option Addr) (d : Nat) (B' : Option Addr) (d' : Nat), v = .agg #[.slice B hm2.cells.length d, .slice B' hm2.roots.length d'] ∧ SR lo W (.agg #[.slice B hm2.cells.length d, .slice B' hm2.roots.length d']) hm2) (x 2) W := hV 2 (by decide)
    clear hV
    simp only [e0, e1]
    obtain ⟨hm2, B, d, B', d', e2, hS2⟩ := h2
    simp only [e2]
    obtain ⟨X2, X3, -, hS, HB, HR⟩ := hI
    have q0 := X2.c 0 _ rfl
    have q1 := X2.c 1 _ rfl
    have qf0 := X2.f 0
    have qf1 := X2.f 1
    have r0 := X3.c 0 _ rfl
    have r1 := X3.c 1 _ rfl
    have rf0 := X3.f 0
    have rf1 := X3.f 1
    clear e2
    rw [hR]
    refine wpAny_ready (rs := [3]) (by kernel_rfl) (by simp) ?_
    refine AllReady.cons rfl (fun K9 hK9 => ?_) AllReady.nil
    go_simp
    refine hK9 _ _ ?_
    clear hK9
    refine wpAny_ready (rs := [4]) (by kernel_rfl) (by simp) ?_
    refine AllReady.cons rfl (fun K9 hK9 => ?_) AllReady.nil
    go_simp
    refine hK9 _ _ ?_
    clear hK9
    refine wpAny_done (by kernel_rfl) ?_ _
    go_wp2_with fail
    have n1 : w.heap.size ≠ w.heap.size + 1 := by omega
    have n2 : w.heap.size + 1 ≠ w.heap.size := by omega
    refine bodyPost_ret (v := .tuple #[(.agg #[.slice A a.cells.length n, .slice A' a.roots.length n']), .agg #[.slice B hm2.cells.length d, .slice B' hm2.roots.length d']]) (by simp [results, Try.results30, go_sem, q0, q1, r0, r1, n1, n2]) rfl ⟨_, _, a, hm2, rfl, ?_, ?_, ?_⟩
    · refine SR.now (lo := lo) (SR.only (S := [w.heap.size, w.heap.size + 1]) hS ?_ ?_)
      · exact (by repeat (first | (with_reducible exact Only.refl _ _) | (refine Only.setCell ?_ (.inl (by simp)) _)))
      · have := hg.out; simp; omega
    · refine SR.now (lo := lo) (SR.only (S := [w.heap.size, w.heap.size + 1]) hS2 ?_ ?_)
      · exact (by repeat (first | (with_reducible exact Only.refl _ _) | (refine Only.setCell ?_ (.inl (by simp)) _)))
      · have := hg.out; simp; omega
    · exact blw_
  · go_wp2_with fail
    refine wp_region_R (by kernel_rfl) (fun R wd hR hwd => ?_)
    have hBd : Below w4.heap.size w4 wd := by rw [hwd]; exact blw_
    have X2 := X2.below hBd
    have X3 := X3.below hBd
    have X5 := X5.below hBd
    have hS := hS.below hBd
    have HB := HB.trans (hBd.mono HB.size)
    have HR := HR.below hBd
    clear hBd hwd
    refine rel_at (fr := ?fr_10) hR (fun f W => Bx W w.heap.size [.slice none 0 0, .slice none 0 0] ∧ Bx W (w.heap.size + 1) [.slice none 0 0, .slice none 0 0] ∧ Bx W b5 [.slice A a.cells.length n, .slice A' a.roots.length n'] ∧ SR lo W (.agg #[.slice A a.cells.length n, .slice A' a.roots.length n']) a ∧ Below w.heap.size w W ∧ Rd (w.heap.size + 2) W g (1500 * f)) [(fun v W => v = (.agg #[.slice A a.cells.length n, .slice A' a.roots.length n'])), (fun v W => v = (.agg #[.slice A a.cells.length n, .slice A' a.roots.length n'])), (fun v W => ∃ (hm2 : HeapM) (B : Option Addr) (d : Nat) (B' : Option Addr) (d' : Nat), v = .agg #[.slice B hm2.cells.length d, .slice B' hm2.roots.length d'] ∧ SR lo W (.agg #[.slice B hm2.cells.length d, .slice B' hm2.roots.length d']) hm2), tt, tt] (fun W W' => Only [g] W W') [(0, []), (1, []), (2, [1]), (3, [0, 1, 2]), (4, [0, 1, 2])] [(26, 0), (27, 1), (28, 2)] [0, 1, 2] #[true, true, true, false, false] 5 2 (by kernel_rfl) (by kernel_rfl) ?hfr_10 ?h0_10 ?mono_10 ?steps_10 ?_
    case hfr_10 => intro x; (simp [frOf, fill, Act.put, List.lookup]; with_reducible rfl)
    case h0_10 => exact ⟨X2, X3, X5, hS, HB, HR.le (by omega)⟩
    case mono_10 => exact (Pm.cons (fun _ _ _ _ h => h) (Pm.cons (fun _ _ _ _ h => h) (Pm.cons (fun _ _ _ hG ⟨hm2, B, d, B', d', e, h9⟩ => ⟨hm2, B, d, B', d', e, h9.only hG (by have := hg.out; simp; omega)⟩) (Pm.cons (fun _ _ _ _ h => h) (Pm.cons (fun _ _ _ _ h => h) Pm.nil)))))
    case steps_10 =>
      refine Steps.cons (RStep.of rfl fun x W f hI hD K9 hK => ?_) ?_
      · clear hD
        have c0 := hI.2.2.1.c 0 _ rfl
        have c1 := hI.2.2.1.c 1 _ rfl
        go_simp
        exact hK ((.agg #[.slice A a.cells.length n, .slice A' a.roots.length n'])) _ _ (by kernel_rfl) (Only.refl _ _) (⟨hI.1, hI.2.1, hI.2.2.1, hI.2.2.2.1, hI.2.2.2.2.1, hI.2.2.2.2.2.le (by omega)⟩) rfl
      refine Steps.cons (RStep.of rfl fun x W f hI hD K9 hK => ?_) ?_
      · clear hD
        have c0 := hI.2.2.1.c 0 _ rfl
        have c1 := hI.2.2.1.c 1 _ rfl
        go_simp
        exact hK ((.agg #[.slice A a.cells.length n, .slice A' a.roots.length n'])) _ _ (by kernel_rfl) (Only.refl _ _) (⟨hI.1, hI.2.1, hI.2.2.1, hI.2.2.2.1, hI.2.2.2.2.1, hI.2.2.2.2.2.le (by omega)⟩) rfl
      refine Steps.cons (RStep.of rfl fun x W f hI hD K9 hK => ?_) ?_
      · have e1 : x 1 = (.agg #[.slice A a.cells.length n, .slice A' a.roots.length n']) := hD 1 (by decide)
        clear hD
        simp only [e1] at hK ⊢
        go_wp2_with fail
        (with_reducible refine (specSlideHeap_any _ a _ hI.2.2.2.1.now).mono ?_)
        rintro e w6 ⟨v6, rfl, oH, hB⟩
        have hS6 : SR lo w6 v6 _ := oH.sr.mono (by have := hg.out; have := hI.2.2.1.lt; omega)
        obtain ⟨B, d, B', d', rfl⟩ := hS6.now.parts
        exact hK (.agg #[.slice B (slideHeapM a).cells.length d, .slice B' (slideHeapM a).roots.length d']) _ _ (by kernel_rfl) (Only.of_below hB) ⟨hI.1.below hB, hI.2.1.below hB, hI.2.2.1.below hB, hI.2.2.2.1.below hB, hI.2.2.2.2.1.trans (hB.mono hI.2.2.2.2.1.size), (hI.2.2.2.2.2.below hB).le (by omega)⟩ ⟨_, B, d, B', d', rfl, hS6⟩
      exact Steps.nil
    intro x W hI hV
    have e0 : x 0 = (.agg #[.slice A a.cells.length n, .slice A' a.roots.length n']) := hV 0 (by decide)
    have e1 : x 1 = (.agg #[.slice A a.cells.length n, .slice A' a.roots.length n']) := hV 1 (by decide)
    have h2 : (fun v W => ∃ (hm2 : HeapM) (B : Option Addr) (d : Nat) (B' : Option Addr) (d' : Nat), v = .agg #[.slice B hm2.cells.length d, .slice B' hm2.roots.length d'] ∧ SR lo W (.agg #[.slice B hm2.cells.length d, .slice B' hm2.roots.length d']) hm2) (x 2) W := hV 2 (by decide)
    clear hV
    simp only [e0, e1]
    obtain ⟨hm2, B, d, B', d', e2, hS2⟩ := h2
    simp only [e2]
    obtain ⟨X2, X3, -, hS, HB, HR⟩ := hI
    have q0 := X2.c 0 _ rfl
    have q1 := X2.c 1 _ rfl
    have qf0 := X2.f 0
    have qf1 := X2.f 1
    have r0 := X3.c 0 _ rfl
    have r1 := X3.c 1 _ rfl
    have rf0 := X3.f 0
    have rf1 := X3.f 1
    clear e2
    rw [hR]
    refine wpAny_ready (rs := [3]) (by kernel_rfl) (by simp) ?_
    refine AllReady.cons rfl (fun K9 hK9 => ?_) AllReady.nil
    go_simp
    refine hK9 _ _ ?_
    clear hK9
    refine wpAny_ready (rs := [4]) (by kernel_rfl) (by simp) ?_
    refine AllReady.cons rfl (fun K9 hK9 => ?_) AllReady.nil
    go_simp
    refine hK9 _ _ ?_
    clear hK9
    refine wpAny_done (by kernel_rfl) ?_ _
    go_wp2_with fail
    have n1 : w.heap.size ≠ w.heap.size + 1 := by omega
    have n2 : w.heap.size + 1 ≠ w.heap.size := by omega
    refine bodyPost_ret (v := .tuple #[(.agg #[.slice A a.cells.length n, .slice A' a.roots.length n']), .agg #[.slice B hm2.cells.length d, .slice B' hm2.roots.length d']]) (by simp [results, Try.results30, go_sem, q0, q1, r0, r1, n1, n2]) rfl ⟨_, _, a, hm2, rfl, ?_, ?_, ?_⟩
    · refine SR.now (lo := lo) (SR.only (S := [w.heap.size, w.heap.size + 1]) hS ?_ ?_)
      · exact (by repeat (first | (with_reducible exact Only.refl _ _) | (refine Only.setCell ?_ (.inl (by simp)) _)))
      · have := hg.out; simp; omega
    · refine SR.now (lo := lo) (SR.only (S := [w.heap.size, w.heap.size + 1]) hS2 ?_ ?_)
      · exact (by repeat (first | (with_reducible exact Only.refl _ _) | (refine Only.setCell ?_ (.inl (by simp)) _)))
      · have := hg.out; simp; omega
    · exact blw_
  · go_wp2_with fail
    refine wp_region_R (by kernel_rfl) (fun R wd hR hwd => ?_)
    have hBd : Below w4.heap.size w4 wd := by rw [hwd]; exact blw_
    have X2 := X2.below hBd
    have X3 := X3.below hBd
    have X5 := X5.below hBd
    have hS := hS.below hBd
    have HB := HB.trans (hBd.mono HB.size)
    have HR := HR.below hBd
    have hg5 : Hid (g ≠ w.heap.size ∧ g ≠ w.heap.size + 1 ∧ g ≠ b5 ∧ g < wd.heap.size ∧ lo ≤ wd.heap.size) := by have := hg.out; have := X5.lt; unfold Hid; omega
    clear hBd hwd
    rw [hR]
    (refine wpAny_take (i := 1) (v := ?v9_1_u15) rfl (by kernel_rfl) (by kernel_rfl) (by kernel_rfl) (fun _ _ _ h => h) (Or.inl ⟨by kernel_rfl, ?h9_1_u15⟩) ?r9_1_u15; (case h9_1_u15 => (intro w9; go_simp; try with_reducible rfl)))
    rw [← hR]
    refine rel_atq 6 (fr := ?fr_15) hR (fun f W => Only [g] wd W ∧ Rd (w.heap.size + 2) W g (16 * f)) [(fun v W => v = (.agg #[.slice A a.cells.length n, .slice A' a.roots.length n'])), tt, (fun v W => ∃ o : CmdM, v = cmdV o), (fun v W => ∃ (u : Value) (hm2 : HeapM) (b : Bool), v = .tuple #[u, .bool b] ∧ OH lo W u hm2), (fun v W => ∃ (u : Value) (hm2 : HeapM) (b : Bool), v = .tuple #[u, .bool b] ∧ OH lo W u hm2), (fun v W => ∃ hm2 : HeapM, OH lo W v hm2), (fun v W => ∃ b : Bool, v = .bool b), (fun v W => ∃ b : Nat, v = .pointer (some ⟨b, 0, none⟩) ∧ Bx W b [.slice none 0 0, .slice none 0 0] ∧ (∃ cur, W.heap[b]? = some (.cells cur 28 (0, 0))) ∧ wd.heap.size ≤ b), tt, tt] (fun W W' => Only [g] W W') [(0, []), (2, []), (3, [0, 2]), (4, [3, 0, 2]), (5, [4, 3, 0, 2]), (6, [4, 3, 0, 2]), (7, []), (8, [0, 2, 3, 4, 5, 7]), (9, [0, 2, 3, 4, 5, 7])] [(30, 0), (32, 2), (33, 3), (29, 4), (34, 5), (35, 6), (6, 7)] [0, 2, 3, 4, 5, 6, 7] #[true, true, true, true, true, true, true, true, false, false] 9 2 (by kernel_rfl) (by kernel_rfl) rfl (fun _ _ _ _ h => h) (by kernel_rfl) (fun f W hI => ⟨hI.1, hI.2.le (by omega)⟩) ?hfr_15 ?h0_15 ?mono_15 ?float_15 ?steps_15 ?_
    case hfr_15 => intro x; (simp [frOf, fill, Act.put, List.lookup]; with_reducible rfl)
    case h0_15 => exact ⟨Only.refl _ _, HR.le (by omega)⟩
    case mono_15 => exact (Pm.cons (fun _ _ _ _ h => h) (Pm.cons (fun _ _ _ _ h => h) (Pm.cons (fun _ _ _ _ h => h) (Pm.cons (fun _ _ _ hG ⟨u, hm2, b, e, h9⟩ => ⟨u, hm2, b, e, h9.only_ hG (by have := hg.out; simp; omega)⟩) (Pm.cons (fun _ _ _ hG ⟨u, hm2, b, e, h9⟩ => ⟨u, hm2, b, e, h9.only_ hG (by have := hg.out; simp; omega)⟩) (Pm.cons (fun _ _ _ hG ⟨hm2, h9⟩ => ⟨hm2, h9.only_ hG (by have := hg.out; simp; omega)⟩) (Pm.cons (fun _ _ _ _ h => h) (Pm.cons (fun _ _ _ hG ⟨b, e, h1, ⟨cur, h2⟩, h3⟩ => ⟨b, e, h1.only hG (by have := hg5.out; simp; omega), ⟨cur, (hG.block b h1.lt (by have := hg5.out; simp; omega)).trans h2⟩, h3⟩) (Pm.cons (fun _ _ _ _ h => h) (Pm.cons (fun _ _ _ _ h => h) Pm.nil))))))))))
    case steps_15 =>
      refine Steps.cons (RStep.of rfl fun x W f hI hD K9 hK => ?_) ?_
      · clear hD
        have c0 := (X5.only hI.1 (by have := hg5.out; simp; omega)).c 0 _ rfl
        have c1 := (X5.only hI.1 (by have := hg5.out; simp; omega)).c 1 _ rfl
        go_simp
        exact hK ((.agg #[.slice A a.cells.length n, .slice A' a.roots.length n'])) _ _ (by kernel_rfl) (Only.refl _ _) (⟨hI.1, hI.2.le (by omega)⟩) rfl
      refine Steps.cons (RStep.of rfl fun x W f hI hD K9 hK => ?_) ?_
      · clear hD
        go_wp2_with fail
        (with_reducible refine (l20Command_any (w.heap.size + 2) g (16 * f) 0 _ (hI.2.le (by omega)) (by omega) (by omega)).mono ?_)
        rintro e w6 ⟨o, rfl, -, hO, hR6⟩
        exact hK (cmdV o) _ _ (by kernel_rfl) hO ⟨hI.1.trans hO, hR6⟩ ⟨o, rfl⟩
      refine Steps.cons (RStep.of rfl fun x W f hI hD K9 hK => ?_) ?_
      · have e0 : x 0 = (.agg #[.slice A a.cells.length n, .slice A' a.roots.length n']) := hD 0 (by decide)
        have h2 : (fun v W => ∃ o : CmdM, v = cmdV o) (x 2) W := hD 2 (by decide)
        clear hD
        simp only [e0] at hK ⊢
        obtain ⟨o, e2⟩ := h2
        simp only [e2, cmdV] at hK ⊢
        go_wp2_with fail
        (with_reducible refine (specStepHeap_any _ a o _ (hS.only hI.1 (by have := hg.out; simp; omega)).now).mono ?_)
        rintro e w6 ⟨v6, rfl, oH, hB⟩
        exact hK (.tuple #[v6, .bool (stepM a o).2]) _ _ (by kernel_rfl) (Only.of_below hB) ⟨hI.1.trans (Only.of_below hB), (hI.2.below hB).le (by omega)⟩ ⟨v6, _, _, rfl, oH.lo_ (by have := hg5.out; have := hI.1.size; omega)⟩
      refine Steps.cons (RStep.of rfl fun x W f hI hD K9 hK => ?_) ?_
      · have h3 : (fun v W => ∃ (u : Value) (hm2 : HeapM) (b : Bool), v = .tuple #[u, .bool b] ∧ OH lo W u hm2) (x 3) W := hD 3 (by decide)
        clear hD
        obtain ⟨u, hm2, b, e3, h9⟩ := h3
        simp only [e3] at hK ⊢
        go_simp
        exact hK (.tuple #[u, .bool b]) _ _ (by kernel_rfl) (Only.refl _ _) ⟨hI.1, hI.2.le (by omega)⟩ ⟨u, hm2, b, rfl, h9⟩
      refine Steps.cons (RStep.of rfl fun x W f hI hD K9 hK => ?_) ?_
      · have h4 : (fun v W => ∃ (u : Value) (hm2 : HeapM) (b : Bool), v = .tuple #[u, .bool b] ∧ OH lo W u hm2) (x 4) W := hD 4 (by decide)
        clear hD
        obtain ⟨u, hm2, b, e4, h9⟩ := h4
        simp only [e4] at hK ⊢
        go_simp
        exact hK u _ _ (by kernel_rfl) (Only.refl _ _) ⟨hI.1, hI.2.le (by omega)⟩ ⟨hm2, h9⟩
      refine Steps.cons (RStep.of rfl fun x W f hI hD K9 hK => ?_) ?_
      · have h4 : (fun v W => ∃ (u : Value) (hm2 : HeapM) (b : Bool), v = .tuple #[u, .bool b] ∧ OH lo W u hm2) (x 4) W := hD 4 (by decide)
        clear hD
        obtain ⟨u, hm2, b, e4, h9⟩ := h4
        simp only [e4] at hK ⊢
        go_simp
        exact hK (.bool b) _ _ (by kernel_rfl) (Only.refl _ _) ⟨hI.1, hI.2.le (by omega)⟩ ⟨b, rfl⟩
      refine Steps.cons (RStep.of rfl fun x W f hI hD K9 hK => ?_) ?_
      · clear hD
        have hzz := hI.1.size
        go_simp
        exact hK (.pointer (some ⟨W.heap.size, 0, none⟩)) _ _ (by kernel_rfl) (Only.al _ _) ⟨hI.1.trans (Only.al _ _), (hI.2.below ((Below.refl _ _).alloc (Nat.le_refl _) _)).le (by omega)⟩ ⟨W.heap.size, rfl, Bx.new W [.slice none 0 0, .slice none 0 0] 28, ⟨_, heap_alloc_at _ _ _ rfl⟩, hzz⟩
      exact Steps.nil
    case float_15 =>
      intro x W hD
      have h4 : (fun v W => ∃ (u : Value) (hm2 : HeapM) (b : Bool), v = .tuple #[u, .bool b] ∧ OH lo W u hm2) (x 4) W := hD 4 (by decide)
      obtain ⟨u, hm2, b, e4, h9⟩ := h4
      simp only [e4]
      refine ⟨_, .bool b, rfl, .inl ⟨by kernel_rfl, fun w9 => ?_⟩, ⟨b, rfl⟩⟩
      go_simp
    intro x W hI hV
    have e0 : x 0 = (.agg #[.slice A a.cells.length n, .slice A' a.roots.length n']) := hV 0 (by decide)
    have h2 : (fun v W => ∃ o : CmdM, v = cmdV o) (x 2) W := hV 2 (by decide)
    have h3 : (fun v W => ∃ (u : Value) (hm2 : HeapM) (b : Bool), v = .tuple #[u, .bool b] ∧ OH lo W u hm2) (x 3) W := hV 3 (by decide)
    have h4 : (fun v W => ∃ (u : Value) (hm2 : HeapM) (b : Bool), v = .tuple #[u, .bool b] ∧ OH lo W u hm2) (x 4) W := hV 4 (by decide)
    have h5 : (fun v W => ∃ hm2 : HeapM, OH lo W v hm2) (x 5) W := hV 5 (by decide)
    have h6 : (fun v W => ∃ b : Bool, v = .bool b) (x 6) W := hV 6 (by decide)
    have h7 : (fun v W => ∃ b : Nat, v = .pointer (some ⟨b, 0, none⟩) ∧ Bx W b [.slice none 0 0, .slice none 0 0] ∧ (∃ cur, W.heap[b]? = some (.cells cur 28 (0, 0))) ∧ wd.heap.size ≤ b) (x 7) W := hV 7 (by decide)
    clear hV
    simp only [e0]
    obtain ⟨hm2, hOH⟩ := h5
    obtain ⟨b6, e6_⟩ := h6
    obtain ⟨b7, e7, hX7, hty, hb7⟩ := h7
    obtain ⟨B, d, B', d', rfl_, hOHp⟩ := hOH.parts2
    simp only [rfl_, e6_, e7]
    clear h2 h3 h4
    have s0 := hX7.c 0 _ rfl
    have s1 := hX7.c 1 _ rfl
    have sf0 := hX7.f 0
    have sf1 := hX7.f 1
    have hlt7 := hX7.lt
    rw [hR]
    refine wpAny_ready (rs := [8]) (by kernel_rfl) (by simp) ?_
    refine AllReady.cons rfl (fun K9 hK9 => ?_) AllReady.nil
    go_simp
    refine hK9 _ _ ?_
    clear hK9
    refine wpAny_ready (rs := [9]) (by kernel_rfl) (by simp) ?_
    refine AllReady.cons rfl (fun K9 hK9 => ?_) AllReady.nil
    go_simp
    refine hK9 _ _ ?_
    clear hK9
    refine wpAny_done (by kernel_rfl) ?_ _
    clear hR
    go_upto_region 11 with fail
    have n57 : b5 ≠ b7 := by have := X5.lt; omega
    have n27 : w.heap.size ≠ b7 := by have := X2.lt; omega
    have n37 : w.heap.size + 1 ≠ b7 := by have := X3.lt; omega
    refine Code.gen (fun W => Bx W w.heap.size [.slice none 0 0, .slice none 0 0] ∧ Bx W (w.heap.size + 1) [.slice none 0 0, .slice none 0 0] ∧ Bx W b5 [.slice A a.cells.length n, .slice A' a.roots.length n'] ∧ Bx W b7 [.slice B hm2.cells.length d, .slice B' hm2.roots.length d'] ∧ OH lo W (.agg #[.slice B hm2.cells.length d, .slice B' hm2.roots.length d']) hm2 ∧ (∀ x, lo ≤ x → x < wd.heap.size → W.heap[x]? = wd.heap[x]?) ∧ Below w.heap.size w W) ⟨?_, ?_, ?_, ?_, ?_, ?_, ?_⟩ ?_
    · exact ((X2.only hI.1 (by have := hg5.out; simp; omega)).set_ne n27 _ _).set_ne n27 _ _
    · exact ((X3.only hI.1 (by have := hg5.out; simp; omega)).set_ne n37 _ _).set_ne n37 _ _
    · exact ((X5.only hI.1 (by have := hg5.out; simp; omega)).set_ne n57 _ _).set_ne n57 _ _
    · exact ⟨fun j v hj => by
        match j, hj with
        | 0, hj => injection hj with hj; subst hj; simp [go_sem, s0]
        | 1, hj => injection hj with hj; subst hj; simp [go_sem, s1]
        | j + 2, hj => simp at hj, fun j => by have := hX7.f j; simpa [go_sem] using this, by simpa using hX7.lt⟩
    · exact hOHp.box2 hty
    · intro x h1 h2
      have h3 := hg.out
      rw [heap_setCell_ne _ _ _ (show x ≠ b7 by omega), heap_setCell_ne _ _ _ (show x ≠ b7 by omega)]
      exact hI.1.block x h2 (by simp; omega)
    · have h3 := hg.out
      have h4 := HB.size
      have hBI : Below w.heap.size w W := HB.trans (hI.1.below (B := w.heap.size) HB.size (by simp; omega))
      exact (hBI.setCell (by simp only; omega) _).setCell (by simp only; omega) _
    have hnn : Hid (w.heap.size ≠ b5 ∧ w.heap.size + 1 ≠ b5 ∧ w.heap.size ≠ b7 ∧ w.heap.size + 1 ≠ b7 ∧ b5 ≠ b7) := by have := hg.out; exact ⟨by omega, by omega, n27, n37, n57⟩
    clear hI hOH hOHp hX7 hty s0 s1 sf0 sf1 n57 n27 n37 hlt7 X2 X3 X5 HB HR
    rintro W8 ⟨X2, X3, X5, X7, hOH, hKp, HB⟩
    have c0 := X5.c 0 _ rfl
    have c1 := X5.c 1 _ rfl
    have s0 := X7.c 0 _ rfl
    have s1 := X7.c 1 _ rfl
    have q0 := X2.c 0 _ rfl
    have q1 := X2.c 1 _ rfl
    have qf0 := X2.f 0
    have qf1 := X2.f 1
    have r0 := X3.c 0 _ rfl
    have r1 := X3.c 1 _ rfl
    have rf0 := X3.f 0
    have rf1 := X3.f 1
    obtain ⟨m1, m2, m3, m4, m5⟩ := hnn.out
    have m1' := Ne.symm m1
    have m2' := Ne.symm m2
    have m3' := Ne.symm m3
    have m4' := Ne.symm m4
    go_region
    all_goals
      go_wp2_with fail
      have n1 : w.heap.size ≠ w.heap.size + 1 := by omega
      have n2 : w.heap.size + 1 ≠ w.heap.size := by omega
      refine bodyPost_ret (v := .tuple #[(.agg #[.slice A a.cells.length n, .slice A' a.roots.length n']), .agg #[.slice B hm2.cells.length d, .slice B' hm2.roots.length d']]) (by simp [results, Try.results30, go_sem, q0, q1, r0, r1, n1, n2]) rfl ⟨_, _, a, hm2, rfl, ?_, ?_, ?_⟩
      · refine hS _ (fun x h1 h2 => ?_)
        have h3 := hg.out
        (try rw [heap_drew_])
        rw [heap_setCell_ne _ _ _ (by simp only; omega), heap_setCell_ne _ _ _ (by simp only; omega), heap_setCell_ne _ _ _ (by simp only; omega), heap_setCell_ne _ _ _ (by simp only; omega)]
        exact hKp x h1 h2
      · refine SR.now (lo := lo) (SR.only (S := [w.heap.size, w.heap.size + 1]) hOH.sr ?_ ?_)
        · repeat (first | (with_reducible exact Only.refl _ _) | (with_reducible refine Only.drew ?_) | (refine Only.setCell ?_ (.inl (by simp)) _))
        · have := hg.out; simp; omega
      · exact blw_
end Go.Proofs.Ytngmkflmjjkjaaa
