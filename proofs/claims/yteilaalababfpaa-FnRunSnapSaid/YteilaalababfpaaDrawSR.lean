/- What the laws draw: a heap, a program and a number of steps. -/
import Derived.Test.YteilaalababfpaaChecked
import Derived.Deep.QuietTactic
import Derived.BigQuiet
import Derived.IntWalk
import Derived.Deep.RegionWith
import Derived.Deep.DeepCutAuto
import Derived.Test.YteilaalababfpaaDraw8
import Derived.Test.YteilaalababfpaaGrCtx
namespace Go.Proofs.Yteilaalababfpaa
open Go.RowKit
set_option maxRecDepth 100000
set_option linter.all false
def RSD (w : World) (v1 v2 v3 : Value) : Prop := ∃ (hm : HeapM) (L : List CmdM) (S : Option Addr) (cS : Nat) (r : Int), v2 = .slice S L.length cS ∧ v3 = .int .i64 r ∧ RH w v1 hm ∧ RO w S L ∧ L.length ≤ 41 ∧ -1 ≤ r ∧ r ≤ 6
theorem RO.take {w : World} {A : Option Addr} {l : List CmdM} (h : RO w A l) (n : Nat) : RO w A (l.take n) := fun i hi => by
  rw [List.length_take] at hi
  obtain ⟨b, o, c, h1, h2, h3⟩ := h i (by omega)
  exact ⟨b, o, c, h1, by rw [List.getElem?_take, if_pos (by omega)]; exact h2, h3⟩
theorem Rd.store {lo g K : Nat} {w : World} (h : Rd lo w g K) {a : Addr} {A : Option Addr} {n c : Nat} (hc : w.cell? a = some (.slice A n c)) (hg : a.block < lo) (u : Value) : Rd lo (w.setCell a u) g K := by
  obtain ⟨C, bs, c9, p, h1, h2⟩ := h
  have hl := h2.lo_
  have hn : a.block ≠ g := by omega
  refine ⟨C, bs, c9, p, h1, ⟨(World.cell?_setCell_other _ _ _ _ (fun e => hn (by rw [e]))).trans h2.c0, (World.cell?_setCell_other _ _ _ _ (fun e => hn (by rw [e]))).trans h2.c1, fun o => by rw [World.frozen?_setCell]; exact h2.fz o, fun i hi => ?_, h2.bt, h2.far, h2.lo_, by simpa using h2.lt, h2.len⟩⟩
  obtain ⟨b, o, x, e1, e2, e3⟩ := h2.rf i hi
  refine ⟨b, o, x, e1, e2, (World.cell?_setCell_other _ _ _ _ (fun e => ?_)).trans e3⟩
  rw [e] at hc
  rw [hc] at e3
  cases e3
theorem Bx.set2 {W : World} {b : Nat} {u0 u1 : Value} (h : Bx W b [u0, u1]) (v0 v1 : Value) : Bx ((W.setCell ⟨b, 0, none⟩ v0).setCell ⟨b, 1, none⟩ v1) b [v0, v1] := by
  have s0 := h.c 0 _ rfl
  have s1 := h.c 1 _ rfl
  exact ⟨fun j v hj => by
    match j, hj with
    | 0, hj => injection hj with hj; subst hj; simp [go_sem, s0]
    | 1, hj => injection hj with hj; subst hj; simp [go_sem, s1]
    | j + 2, hj => simp at hj, fun j => by have := h.f j; simpa [go_sem] using this, by simpa using h.lt⟩
set_option maxHeartbeats 8000000 in
theorem drawRunSnap_any (C : Option Addr) (bs : List Int) (c : Nat) (w : World) (hr : RF fu w C bs) (hb : ∀ x ∈ bs, 0 ≤ x ∧ x < 256) (hc : bs.length ≤ c) (hc2 : c ≤ 9223372036854775807) :
    Calls Try.prog 42 #[.slice C bs.length c] w fun e w' => ∃ v1 v2 v3, e = .returned (.tuple #[v1, v2, v3]) ∧ RSD w' v1 v2 v3 ∧ Below w.heap.size w w' := by
  go_enter Try.func42, Try.ntmps42
  go_wp2_with fail
  refine Calls.gen (fun W => Bx W w.heap.size [.slice none 0 0, .slice none 0 0] ∧ Below w.heap.size w W ∧ RF fu W C bs ∧ W.heap.size = w.heap.size + 1) ⟨Bx.new w [.slice none 0 0, .slice none 0 0] 26, blw_, hr.below blw_, by simp⟩ ?_
  clear hr
  rintro W0 ⟨X2, HB, hr, hz0⟩
  (with_reducible refine (l20Open_any C bs c _ hr hb hc hc2).mono ?_); rintro e w1 ⟨g, rfl, HR, hB⟩
  rw [hz0] at HR
  have X2 := X2.below hB
  have HB := HB.trans (hB.mono HB.size)
  have hg := HR.lt
  clear hB hr hz0
  go_wp2_with fail
  (with_reducible refine (l20Heap_any (w.heap.size + 1) g 100000 20 _ (HR.le (by omega)) (by omega) (by omega)).mono ?_); rintro e w2 ⟨v, hm, rfl, hS, hO, HR⟩
  obtain ⟨A, n, A', n', rfl⟩ := hS.now.parts
  have X2 := X2.only hO (by simp; omega)
  have HB := HB.trans (hO.below (B := w.heap.size) HB.size (by simp; omega))
  have hz2 := hO.size
  clear hO
  go_wp2_with fail
  refine Calls.gen (fun W => Bx W w.heap.size [.slice none 0 0, .slice none 0 0] ∧ Bx W w2.heap.size [.slice A hm.cells.length n, .slice A' hm.roots.length n'] ∧ SR w1.heap.size W (.agg #[.slice A hm.cells.length n, .slice A' hm.roots.length n']) hm ∧ Below w.heap.size w W ∧ Rd (w.heap.size + 1) W g 100000) ⟨X2.below blw_, Bx.new w2 [.slice A hm.cells.length n, .slice A' hm.roots.length n'] 26, hS.below blw_, blw_, HR.below blw_⟩ ?_
  have hg2 : Hid (g < w1.heap.size ∧ w1.heap.size ≤ w2.heap.size ∧ w.heap.size + 1 ≤ g) := ⟨hg.1, hz2, hg.2⟩
  generalize w2.heap.size = b6 at hg2 ⊢
  generalize w1.heap.size = lo at hg2 ⊢
  clear X2 hS HB HR hg hz2
  rintro W ⟨X2, X6, hS, HB, HR⟩
  (with_reducible refine (l20Program_any (w.heap.size + 1) g 10000 20 _ (HR.le (by omega)) (by omega) (by omega)).mono ?_); rintro e w3 ⟨L, S, cS, rfl, hL, hLB, hLl, -, hO, HR⟩
  have hzW := X6.lt
  have HLB : Hid (∀ x ∈ blk S, b6 < x) := fun x hx => by have := hLB x hx; omega
  have hcap : L.length ≤ cS := by
    rcases ownsRow_block hL with ⟨-, h9, h8⟩ | ⟨g9, cur, -, -, h9, -⟩
    · omega
    · exact h9
  have hcap2 : cS ≤ 9223372036854775807 := by
    rcases ownsRow_block hL with ⟨-, h9, h8⟩ | ⟨g9, cur, -, -, -, h9, -⟩
    · omega
    · simp only [maxLen] at h9; omega
  have hnone : S = none ∨ ∃ gs, S = some ⟨gs, 0, none⟩ := by
    rcases ownsRow_block hL with ⟨h9, -⟩ | ⟨g9, cur, h9, -⟩
    · exact .inl h9
    · exact .inr ⟨g9, h9⟩
  have X2 := X2.only hO (by have := hg2.out; simp; omega)
  have X6 := X6.only hO (by have := hg2.out; simp; omega)
  have hS := hS.only hO (by have := hg2.out; simp; omega)
  have HB := HB.trans (hO.below (B := w.heap.size) HB.size (by have := hg2.out; simp; omega))
  clear hO hLB
  go_wp2_with fail
  refine wp_region_R (by kernel_rfl) (fun R wd hR hwd => ?_)
  have hBd : Below w3.heap.size w3 wd := by rw [hwd]; exact blw_
  have X2 := X2.below hBd
  have X6 := X6.below hBd
  have hS := hS.below hBd
  have hL := hL.below hBd
  have HB := HB.trans (hBd.mono HB.size)
  have HR := HR.below hBd
  clear hBd hwd
  obtain ⟨mm, hmm⟩ : ∃ mm : Nat, Hid (mm = min L.length 12) := ⟨_, rfl⟩
  have hmi : (0 : Int) ≤ (mm : Int) ∧ (mm : Int) ≤ (cS : Int) ∧ (mm : Int) ≤ 12 := by have := hmm.out; omega
  have hne : Hid (g ≠ w.heap.size ∧ b6 ≠ g ∧ b6 ≠ w.heap.size ∧ g < wd.heap.size ∧ w.heap.size < wd.heap.size) := by have := hg2.out; have := X6.lt; have := X2.lt; exact ⟨by omega, by omega, by omega, by omega, by omega⟩
  refine rel_at (fr := ?fr_0) hR (fun f W => Only [g, w.heap.size] wd W ∧ Rd (w.heap.size + 1) W g (100 + f) ∧ ∃ (B1 B2 : Option Addr) (n1 d1 n2 d2 : Nat), Bx W w.heap.size [.slice B1 n1 d1, .slice B2 n2 d2]) [(fun v W => v = (.agg #[.slice A hm.cells.length n, .slice A' hm.roots.length n'])), (fun v W => v = .slice S L.length cS), (fun v W => v = .slice S L.length cS), (fun v W => v = .int .i64 (L.length : Int)), (fun v W => v = .int .i64 (mm : Int)), (fun v W => v = .slice S mm cS), (fun v W => v = .pointer (some ⟨g, 0, none⟩)), (fun v W => ∃ k : Nat, v = .int .i64 (k : Int) ∧ k < 7), (fun v W => v = .pointer (some ⟨g, 0, none⟩)), (fun v W => ∃ k : Nat, v = .int .i64 (k : Int) ∧ k < 14), (fun v W => ∃ z : Int, v = .int .i64 z ∧ 0 ≤ z ∧ z ≤ 1), (fun v W => ∃ z : Int, v = .int .i64 z ∧ -1 ≤ z ∧ z ≤ 6), (fun v W => Bx W w.heap.size [.slice A hm.cells.length n, .slice A' hm.roots.length n']), (fun v W => v = .slice S mm cS), (fun v W => ∃ z : Int, v = .int .i64 z ∧ -1 ≤ z ∧ z ≤ 6)] (fun W W' => Only [g, w.heap.size] W W' ∧ (Bx W w.heap.size [.slice A hm.cells.length n, .slice A' hm.roots.length n'] → Bx W' w.heap.size [.slice A hm.cells.length n, .slice A' hm.roots.length n'])) [(0, []), (1, []), (2, []), (3, [2]), (4, [3, 2]), (5, [1, 4, 3, 2]), (6, []), (7, [6]), (8, []), (9, [8]), (10, [9, 8]), (11, [7, 6, 10, 9, 8]), (12, [0]), (13, [5, 1, 4, 3, 2]), (14, [11, 7, 6, 10, 9, 8])] [(14, 0), (15, 1), (16, 2), (17, 3), (18, 4), (19, 5), (20, 6), (21, 7), (22, 8), (23, 9), (24, 10), (25, 11), (3, 13), (4, 14)] [0, 1, 2, 3, 4, 5, 6, 7, 8, 9, 10, 11, 12, 13, 14] #[true, true, true, true, true, true, true, true, true, true, true, true, true, true, true] 15 0 (by kernel_rfl) (by kernel_rfl) ?hfr_0 ?h0_0 ?mono_0 ?steps_0 ?_
  case hfr_0 => intro x; (simp [frOf, fill, Act.put, List.lookup]; with_reducible rfl)
  case h0_0 => exact ⟨Only.refl _ _, HR.le (by omega), none, none, 0, 0, 0, 0, X2⟩
  case mono_0 => exact (Pm.cons (fun _ _ _ _ h => h) (Pm.cons (fun _ _ _ _ h => h) (Pm.cons (fun _ _ _ _ h => h) (Pm.cons (fun _ _ _ _ h => h) (Pm.cons (fun _ _ _ _ h => h) (Pm.cons (fun _ _ _ _ h => h) (Pm.cons (fun _ _ _ _ h => h) (Pm.cons (fun _ _ _ _ h => h) (Pm.cons (fun _ _ _ _ h => h) (Pm.cons (fun _ _ _ _ h => h) (Pm.cons (fun _ _ _ _ h => h) (Pm.cons (fun _ _ _ _ h => h) (Pm.cons (fun _ _ _ hG h => hG.2 h) (Pm.cons (fun _ _ _ _ h => h) (Pm.cons (fun _ _ _ _ h => h) Pm.nil)))))))))))))))
  case steps_0 =>
    refine Steps.cons (RStep.of rfl fun x W f hI hD K9 hK => ?_) ?_
    · clear hD
      have X6_ := X6.only hI.1 (by have := hne.out; simp; omega)
      have c0 := X6_.c 0 _ rfl
      have c1 := X6_.c 1 _ rfl
      go_simp
      exact hK ((.agg #[.slice A hm.cells.length n, .slice A' hm.roots.length n'])) _ _ (by kernel_rfl) (⟨Only.refl _ _, id⟩) (⟨hI.1, hI.2.1.le (by omega), hI.2.2⟩) rfl
    refine Steps.cons (RStep.of rfl fun x W f hI hD K9 hK => ?_) ?_
    · clear hD
      go_simp
      exact hK (.slice S L.length cS) _ _ (by kernel_rfl) (⟨Only.refl _ _, id⟩) (⟨hI.1, hI.2.1.le (by omega), hI.2.2⟩) rfl
    refine Steps.cons (RStep.of rfl fun x W f hI hD K9 hK => ?_) ?_
    · clear hD
      go_simp
      exact hK (.slice S L.length cS) _ _ (by kernel_rfl) (⟨Only.refl _ _, id⟩) (⟨hI.1, hI.2.1.le (by omega), hI.2.2⟩) rfl
    refine Steps.cons (RStep.of rfl fun x W f hI hD K9 hK => ?_) ?_
    · have e2 : x 2 = .slice S L.length cS := hD 2 (by decide)
      clear hD
      simp only [e2] at hK ⊢
      go_simp
      exact hK (.int .i64 (L.length : Int)) _ _ (by kernel_rfl) (⟨Only.refl _ _, id⟩) (⟨hI.1, hI.2.1.le (by omega), hI.2.2⟩) rfl
    refine Steps.cons (RStep.of rfl fun x W f hI hD K9 hK => ?_) ?_
    · have e3 : x 3 = .int .i64 (L.length : Int) := hD 3 (by decide)
      clear hD
      simp only [e3] at hK ⊢
      have hm9 : (if (12 : Int) < (L.length : Int) then 12 else (L.length : Int)) = (mm : Int) := by have := hmm.out; split <;> omega
      go_simp
      (try rw [hm9])
      exact hK (.int .i64 (mm : Int)) _ _ (by kernel_rfl) ⟨Only.refl _ _, id⟩ ⟨hI.1, hI.2.1.le (by omega), hI.2.2⟩ rfl
    refine Steps.cons (RStep.of rfl fun x W f hI hD K9 hK => ?_) ?_
    · have e1 : x 1 = .slice S L.length cS := hD 1 (by decide)
      have e4 : x 4 = .int .i64 (mm : Int) := hD 4 (by decide)
      clear hD
      simp only [e1, e4] at hK ⊢
      rcases hnone with rfl | ⟨gs, rfl⟩
      · have hm0 : mm = 0 := by
          have := hmm.out
          rcases ownsRow_block hL with ⟨-, h9, -⟩ | ⟨g9, cur, h9, -⟩
          · omega
          · cases h9
        have hc0 : cS = 0 := by
          rcases ownsRow_block hL with ⟨-, -, h9⟩ | ⟨g9, cur, h9, -⟩
          · exact h9
          · cases h9
        subst hm0
        subst hc0
        go_simp
        exact hK (.slice none 0 0) _ _ (by kernel_rfl) ⟨Only.refl _ _, id⟩ ⟨hI.1, hI.2.1.le (by omega), hI.2.2⟩ rfl
      · go_simp
        exact hK (.slice (some ⟨gs, 0, none⟩) mm cS) _ _ (by kernel_rfl) ⟨Only.refl _ _, id⟩ ⟨hI.1, hI.2.1.le (by omega), hI.2.2⟩ rfl
    refine Steps.cons (RStep.of rfl fun x W f hI hD K9 hK => ?_) ?_
    · clear hD
      go_simp
      exact hK (.pointer (some ⟨g, 0, none⟩)) _ _ (by kernel_rfl) (⟨Only.refl _ _, id⟩) (⟨hI.1, hI.2.1.le (by omega), hI.2.2⟩) rfl
    refine Steps.cons (RStep.of rfl fun x W f hI hD K9 hK => ?_) ?_
    · have e6 : x 6 = .pointer (some ⟨g, 0, none⟩) := hD 6 (by decide)
      clear hD
      simp only [e6] at hK ⊢
      go_wp2_with fail
      (with_reducible refine (pick_any (w.heap.size + 1) g (100 + f) 7 _ (hI.2.1.le (by omega)) (by omega) (by omega)).mono ?_)
      rintro e w7 ⟨k, rfl, hk, -, hO, hR6⟩
      have hnn := hne.out
      have hk2 : ∀ vs, Bx W w.heap.size vs → Bx w7 w.heap.size vs := fun vs h9 => h9.only hO (by simp; omega)
      have hO := hO.mono (S' := [g, w.heap.size]) (by simp)
      obtain ⟨B1, B2, n1, d1, n2, d2, hX⟩ := hI.2.2
      exact hK (.int .i64 (k : Int)) _ _ (by kernel_rfl) ⟨hO, hk2 _⟩ ⟨hI.1.trans hO, hR6, B1, B2, n1, d1, n2, d2, hk2 _ hX⟩ ⟨k, rfl, by have := hk (by omega); omega⟩
    refine Steps.cons (RStep.of rfl fun x W f hI hD K9 hK => ?_) ?_
    · clear hD
      go_simp
      exact hK (.pointer (some ⟨g, 0, none⟩)) _ _ (by kernel_rfl) (⟨Only.refl _ _, id⟩) (⟨hI.1, hI.2.1.le (by omega), hI.2.2⟩) rfl
    refine Steps.cons (RStep.of rfl fun x W f hI hD K9 hK => ?_) ?_
    · have e8 : x 8 = .pointer (some ⟨g, 0, none⟩) := hD 8 (by decide)
      clear hD
      simp only [e8] at hK ⊢
      go_wp2_with fail
      (with_reducible refine (pick_any (w.heap.size + 1) g (100 + f) 14 _ (hI.2.1.le (by omega)) (by omega) (by omega)).mono ?_)
      rintro e w7 ⟨k, rfl, hk, -, hO, hR6⟩
      have hnn := hne.out
      have hk2 : ∀ vs, Bx W w.heap.size vs → Bx w7 w.heap.size vs := fun vs h9 => h9.only hO (by simp; omega)
      have hO := hO.mono (S' := [g, w.heap.size]) (by simp)
      obtain ⟨B1, B2, n1, d1, n2, d2, hX⟩ := hI.2.2
      exact hK (.int .i64 (k : Int)) _ _ (by kernel_rfl) ⟨hO, hk2 _⟩ ⟨hI.1.trans hO, hR6, B1, B2, n1, d1, n2, d2, hk2 _ hX⟩ ⟨k, rfl, by have := hk (by omega); omega⟩
    refine Steps.cons (RStep.of rfl fun x W f hI hD K9 hK => ?_) ?_
    · have h9 : (fun v W => ∃ k : Nat, v = .int .i64 (k : Int) ∧ k < 14) (x 9) W := hD 9 (by decide)
      clear hD
      obtain ⟨k, e9, hk⟩ := h9
      simp only [e9] at hK ⊢
      have hw9 : IntKind.i64.wrap ((k : Int) / 13) = (k : Int) / 13 := by
        exact Go.IntWalk.i64_in _ (by omega)
      go_simp
      (try rw [hw9])
      exact hK (.int .i64 ((k : Int) / 13)) _ _ (by kernel_rfl) ⟨Only.refl _ _, id⟩ ⟨hI.1, hI.2.1.le (by omega), hI.2.2⟩ ⟨_, rfl, by omega, by omega⟩
    refine Steps.cons (RStep.of rfl fun x W f hI hD K9 hK => ?_) ?_
    · have h7 : (fun v W => ∃ k : Nat, v = .int .i64 (k : Int) ∧ k < 7) (x 7) W := hD 7 (by decide)
      have h10 : (fun v W => ∃ z : Int, v = .int .i64 z ∧ 0 ≤ z ∧ z ≤ 1) (x 10) W := hD 10 (by decide)
      clear hD
      obtain ⟨k, e7, hk⟩ := h7
      obtain ⟨z, e10, hz⟩ := h10
      simp only [e7, e10] at hK ⊢
      have hki : (k : Int) < 7 ∧ 0 ≤ (k : Int) := by omega
      have hw9 : IntKind.i64.wrap ((k : Int) - z) = (k : Int) - z := Go.IntWalk.i64_in _ (by omega)
      go_simp
      (try rw [hw9])
      exact hK (.int .i64 ((k : Int) - z)) _ _ (by kernel_rfl) ⟨Only.refl _ _, id⟩ ⟨hI.1, hI.2.1.le (by omega), hI.2.2⟩ ⟨(k : Int) - z, rfl, by omega, by omega⟩
    refine Steps.cons (RStep.of rfl fun x W f hI hD K9 hK => ?_) ?_
    · have e0 : x 0 = (.agg #[.slice A hm.cells.length n, .slice A' hm.roots.length n']) := hD 0 (by decide)
      clear hD
      simp only [e0] at hK ⊢
      obtain ⟨B1, B2, n1, d1, n2, d2, hX⟩ := hI.2.2
      have s0 := hX.c 0 _ rfl
      have s1 := hX.c 1 _ rfl
      have sf0 := hX.f 0
      have sf1 := hX.f 1
      have hX2 := hX.set2 (.slice A hm.cells.length n) (.slice A' hm.roots.length n')
      have hO9 : Only [g, w.heap.size] W ((W.setCell ⟨w.heap.size, 0, none⟩ (.slice A hm.cells.length n)).setCell ⟨w.heap.size, 1, none⟩ (.slice A' hm.roots.length n')) := ((Only.refl _ _).setCell (.inl (by simp)) _).setCell (.inl (by simp)) _
      have hR9 : Rd (w.heap.size + 1) ((W.setCell ⟨w.heap.size, 0, none⟩ (.slice A hm.cells.length n)).setCell ⟨w.heap.size, 1, none⟩ (.slice A' hm.roots.length n')) g (100 + f) := ((hI.2.1.le (by omega)).store s0 (by simp) _).store (A := B2) (n := n2) (c := d2) ((World.cell?_setCell_other _ _ _ _ (by simp)).trans s1) (by simp) _
      go_simp
      exact hK undef _ _ (by kernel_rfl) ⟨hO9, fun _ => hX2⟩ ⟨hI.1.trans hO9, hR9, _, _, _, _, _, _, hX2⟩ hX2
    refine Steps.cons (RStep.of rfl fun x W f hI hD K9 hK => ?_) ?_
    · have e5 : x 5 = .slice S mm cS := hD 5 (by decide)
      clear hD
      simp only [e5] at hK ⊢
      go_simp
      exact hK (.slice S mm cS) _ _ (by kernel_rfl) (⟨Only.refl _ _, id⟩) (⟨hI.1, hI.2.1.le (by omega), hI.2.2⟩) rfl
    refine Steps.cons (RStep.of rfl fun x W f hI hD K9 hK => ?_) ?_
    · have h11 : (fun v W => ∃ z : Int, v = .int .i64 z ∧ -1 ≤ z ∧ z ≤ 6) (x 11) W := hD 11 (by decide)
      clear hD
      obtain ⟨z, e11, hz⟩ := h11
      simp only [e11] at hK ⊢
      go_simp
      exact hK (.int .i64 z) _ _ (by kernel_rfl) ⟨Only.refl _ _, id⟩ ⟨hI.1, hI.2.1.le (by omega), hI.2.2⟩ ⟨z, rfl, hz⟩
    exact Steps.nil
  intro x W hI hV
  have e0 : x 0 = (.agg #[.slice A hm.cells.length n, .slice A' hm.roots.length n']) := hV 0 (by decide)
  have e1 : x 1 = .slice S L.length cS := hV 1 (by decide)
  have e2 : x 2 = .slice S L.length cS := hV 2 (by decide)
  have e3 : x 3 = .int .i64 (L.length : Int) := hV 3 (by decide)
  have e4 : x 4 = .int .i64 (mm : Int) := hV 4 (by decide)
  have e5 : x 5 = .slice S mm cS := hV 5 (by decide)
  have e6 : x 6 = .pointer (some ⟨g, 0, none⟩) := hV 6 (by decide)
  have h7 : (fun v W => ∃ k : Nat, v = .int .i64 (k : Int) ∧ k < 7) (x 7) W := hV 7 (by decide)
  have e8 : x 8 = .pointer (some ⟨g, 0, none⟩) := hV 8 (by decide)
  have h9 : (fun v W => ∃ k : Nat, v = .int .i64 (k : Int) ∧ k < 14) (x 9) W := hV 9 (by decide)
  have h10 : (fun v W => ∃ z : Int, v = .int .i64 z ∧ 0 ≤ z ∧ z ≤ 1) (x 10) W := hV 10 (by decide)
  have h11 : (fun v W => ∃ z : Int, v = .int .i64 z ∧ -1 ≤ z ∧ z ≤ 6) (x 11) W := hV 11 (by decide)
  have h12 : (fun v W => Bx W w.heap.size [.slice A hm.cells.length n, .slice A' hm.roots.length n']) (x 12) W := hV 12 (by decide)
  have e13 : x 13 = .slice S mm cS := hV 13 (by decide)
  have h14 : (fun v W => ∃ z : Int, v = .int .i64 z ∧ -1 ≤ z ∧ z ≤ 6) (x 14) W := hV 14 (by decide)
  clear hV
  simp only [e0, e1, e2, e3, e4, e5, e6, e8, e13]
  obtain ⟨z, e14, hz⟩ := h14
  simp only [e14]
  clear h7 h9 h10 h11 e14
  obtain ⟨hOI, -, -⟩ := hI
  have q0 := h12.c 0 _ rfl
  have q1 := h12.c 1 _ rfl
  have hnn := hne.out
  have hL2 := hL.only hOI (fun x hx hc => by have := HLB.out x hx; have := hg2.out; simp at hc; omega)
  have hS2 := hS.only hOI (by have := hg2.out; simp; omega)
  have HB2 := HB.trans (hOI.below (B := w.heap.size) HB.size (by have := hg2.out; simp; omega))
  rw [hR]
  refine wpAny_done (by kernel_rfl) ?_ _
  clear hR
  go_wp2_with fail
  refine bodyPost_ret (v := .tuple #[(.agg #[.slice A hm.cells.length n, .slice A' hm.roots.length n']), .slice S mm cS, .int .i64 z]) (by simp [results, Try.results42, go_sem, q0, q1]) rfl ⟨_, _, _, rfl, ⟨hm, L.take mm, S, cS, z, ?_, rfl, hS2.now, hL2.ro.take mm, by simp; omega, hz.1, hz.2⟩, HB2⟩
  rw [List.length_take]
  have := hmm.out
  congr 1
  omega
end Go.Proofs.Yteilaalababfpaa