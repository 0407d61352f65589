/- Texts of one family, one behind the other: DrawG, DrawGD. -/
import Derived.Test.YtopbngfghpgbnaaChecked
import Derived.Deep.QuietTactic
import Derived.BigQuiet
import Derived.IntWalk
import Derived.Deep.RegionWith
import Derived.Test.YtopbngfghpgbnaaKb
import Derived.Test.YtopbngfghpgbnaaGrDraw
import Derived.Test.YtopbngfghpgbnaaRunGS
import Derived.Test.YtopbngfghpgbnaaGrIso
import Derived.Test.YtopbngfghpgbnaaGrCtx
/- The reference's drawing: heaps with generations. -/
namespace Go.Proofs.Ytopbngfghpgbnaa
open Go.RowKit
set_option maxRecDepth 100000
set_option linter.unusedSimpArgs false
set_option linter.unusedVariables false
/-- What is drawn: it reads, while the blocks from lo on stay. -/
def SQT (lo : Nat) (w : World) (v : Value) : Prop := ∃ p : TwoM, SQ (fun W => RTw W v p) lo w
set_option maxHeartbeats 8000000 in
theorem l20Aged_any (lo g K : Nat) (n : Int) (w : World) (h : Rd lo w g (K + 1200)) (hn1 : 0 ≤ n) (hn2 : n ≤ 1048576) :
    Calls Try.prog 103 #[.pointer (some ⟨g, 0, none⟩), .int .i64 n] w fun e w' => ∃ v, e = .returned v ∧ SQT w.heap.size w' v ∧ Only [g] w w' ∧ Rd lo w' g K := by
  have hlt := h.lt.1
  go_enter Try.func103, Try.ntmps103
  go_wp2_with fail
  refine Calls.gen (fun W => Bx W w.heap.size [.slice none 0 0, .slice none 0 0, .slice none 0 0, .slice none 0 0] ∧ Only [g] w W ∧ Rd lo W g (K + 1200)) ⟨Bx.new w [.slice none 0 0, .slice none 0 0, .slice none 0 0, .slice none 0 0] 60, Only.of_below blw_, h.below blw_⟩ ?_
  clear h
  rintro W ⟨X4, HO, HR⟩
  (with_reducible refine (l20Program_any lo g (K + 200) 0 _ HR (by omega) (by omega)).mono ?_); rintro e w1 ⟨L, S, cS, rfl, hS, hSB, hL, hokr, hO1, hR1⟩
  have hok1 : cmdsOk L = true := hokr rfl
  have hok := Lib.hid hok1
  clear hok1 hokr
  have hw := X4.lt
  have X4 := X4.only hO1 (by simp; omega)
  have HO := HO.trans hO1
  have HSB := Lib.hid hSB
  clear HR hO1 hSB
  go_wp2_with fail
  (with_reducible refine (pick_any lo g (K + 199) 12 _ hR1 (by omega) (by omega)).mono ?_); rintro e w2 ⟨k, rfl, hk, -, hO1, hR2⟩
  have hk12 := hk (by omega)
  have HS := hS.only hO1 (fun b hb => by have := HSB.out b hb; simp; omega)
  have X4 := X4.only hO1 (by simp; omega)
  have HO := HO.trans hO1
  clear hR1 hO1 hk hS HSB
  have HS := HS.ro
  have hz2 := X4.lt
  go_wp2_with fail
  (with_reducible refine (specRunAged_any S L cS _ _ HS (by omega)).mono ?_); rintro e w3 ⟨v, rfl, oH, hB⟩
  have hrg : (cmdsOk L && inB 1 (1 + (k : Int)) 40) = true := by rw [hok.out]; simp [inB]; omega
  have hA : Hid (agedM (runAgedM L (1 + (k : Int))) = true) := (law_RunAged hrg).1
  have X4 := X4.below hB
  have HO := HO.trans (Only.of_below hB)
  have HR := hR2.below hB
  have hb4 := X4.lt
  generalize runAgedM L (1 + (k : Int)) = p at oH hA
  obtain ⟨A, c, A', c', os, A2, c2, A3, c3, rfl, hm, ho, hx, hy, hnd, hlo, hxl, hyl⟩ := oH
  have hlo1 : ∀ b ∈ hblks A os A' ++ blk A2 ++ blk A3, w.heap.size + 1 ≤ b := fun b hb => by have := hlo b hb; omega
  go_upto_region 2 with fail
  refine Code.gen (fun W => PTx (w.heap.size + 1) W w3.heap.size p A c A' c' os A2 c2 A3 c3 ∧ Bx W w.heap.size [.slice none 0 0, .slice none 0 0, .slice none 0 0, .slice none 0 0] ∧ Only [g] w W ∧ Rd lo W g (K + 199)) ⟨PTx.mk_ hm ho hx hy hnd hlo1 hxl hyl (by omega) _, X4.below blw_, HO.trans (Only.of_below blw_), HR.below blw_⟩ ?_
  have HN : Hid (w3.heap.size ≠ w.heap.size ∧ w.heap.size ≠ w3.heap.size) := ⟨by omega, by omega⟩
  generalize w3.heap.size = b5 at HN ⊢
  clear X4 HO HR hb4 hz2 HS hB hR2 hw hm ho hx hy hnd hlo hlo1 hxl hyl hrg hok hL hk12
  rintro W ⟨HP, X4, HO, HR⟩
  by_cases hl0 : p.x.length = 0
  · have q0 := HP.q0; have q1 := HP.q1; have q2 := HP.q2; have q3 := HP.q3; have z0 := X4.c 0 _ rfl; have z1 := X4.c 1 _ rfl; have z2 := X4.c 2 _ rfl; have z3 := X4.c 3 _ rfl; have zf0 := X4.f 0; have zf1 := X4.f 1; have zf2 := X4.f 2; have zf3 := X4.f 3; have n1 := HN.out.1; have n2 := HN.out.2
    have hl1 : ¬ ((0 : Int) < (p.x.length : Int)) := by omega
    clear hl0
    go_wp2_with fail
    refine bodyPost_ret (v := .agg #[.slice A p.store.cells.length c, .slice A' p.store.roots.length c', .slice A2 p.x.length c2, .slice A3 p.y.length c3]) (by simp [results, Try.results103, go_sem, q0, q1, q2, q3, z0, z1, z2, z3, n1, n2]) rfl ⟨_, rfl, ⟨_, ((HP.kb.only (S := [w.heap.size]) (by repeat (first | (with_reducible exact Only.refl _ _) | (with_reducible refine Only.drew ?_) | (refine Only.setCell ?_ (.inl (by simp)) _))) (fun x hx hc => by have := HP.ap x hx; simp at hc; omega)).sq (fun x hx => by have := HP.ap x hx; omega))⟩, ?_, ?_⟩
    · exact (by repeat (first | (with_reducible assumption) | (with_reducible refine Only.drew ?_) | (with_reducible refine Only.alloc ?_ _) | (refine Only.setCell ?_ (.inr (by simp only; omega)) _)))
    · exact (HR.keep (by repeat (first | (with_reducible exact Below.refl _ _) | (with_reducible refine Below.drew ?_) | ((with_reducible refine Below.allocc ?_ ?_ _); focus (first | omega | (simp; done) | (simp; omega))) | (refine Below.setCell ?_ (by simp only; omega) _)))).le (by omega)
  have hl1 : (0 : Int) < (p.x.length : Int) := by omega
  have q2 := HP.q2
  go_wp2_with fail
  (with_reducible refine (odd_any lo g (K + 100) n _ (HR.le (by omega)) hn1 hn2).mono ?_); rintro e w4 ⟨b, rfl, -, hO1, HR⟩
  have HP := HP.only hO1 (by omega)
  have X4 := X4.only hO1 (by simp; omega)
  have HO := HO.trans hO1
  clear hO1 q2
  cases b with
  | false =>
    have q0 := HP.q0; have q1 := HP.q1; have q2 := HP.q2; have q3 := HP.q3; have z0 := X4.c 0 _ rfl; have z1 := X4.c 1 _ rfl; have z2 := X4.c 2 _ rfl; have z3 := X4.c 3 _ rfl; have zf0 := X4.f 0; have zf1 := X4.f 1; have zf2 := X4.f 2; have zf3 := X4.f 3; have n1 := HN.out.1; have n2 := HN.out.2
    go_wp2_with fail
    refine bodyPost_ret (v := .agg #[.slice A p.store.cells.length c, .slice A' p.store.roots.length c', .slice A2 p.x.length c2, .slice A3 p.y.length c3]) (by simp [results, Try.results103, go_sem, q0, q1, q2, q3, z0, z1, z2, z3, n1, n2]) rfl ⟨_, rfl, ⟨_, ((HP.kb.only (S := [w.heap.size]) (by repeat (first | (with_reducible exact Only.refl _ _) | (with_reducible refine Only.drew ?_) | (refine Only.setCell ?_ (.inl (by simp)) _))) (fun x hx hc => by have := HP.ap x hx; simp at hc; omega)).sq (fun x hx => by have := HP.ap x hx; omega))⟩, ?_, ?_⟩
    · exact (by repeat (first | (with_reducible assumption) | (with_reducible refine Only.drew ?_) | (with_reducible refine Only.alloc ?_ _) | (refine Only.setCell ?_ (.inr (by simp only; omega)) _)))
    · exact (HR.keep (by repeat (first | (with_reducible exact Below.refl _ _) | (with_reducible refine Below.drew ?_) | ((with_reducible refine Below.allocc ?_ ?_ _); focus (first | omega | (simp; done) | (simp; omega))) | (refine Below.setCell ?_ (by simp only; omega) _)))).le (by omega)
  | true =>
    have q2 := HP.q2
    have hxm : Hid (p.x.length ≤ 1048576 ∧ p.y.length = p.x.length) := by
      have h9 := agedM_iff.1 hA.out
      have h8 := (validM_len h9.hv).1
      exact ⟨by have := h9.xl; omega, by rw [h9.xl, h9.yl]⟩
    go_wp2_with fail
    (with_reducible refine (pick_any lo g (K + 90) p.x.length _ (HR.le (by omega)) (by omega) (by have := hxm.out.1; omega)).mono ?_); rintro e w5 ⟨j, rfl, hj, -, hO1, HR⟩
    have hj1 := hj (by omega)
    have HP := HP.only hO1 (by omega)
    have X4 := X4.only hO1 (by simp; omega)
    have HO := HO.trans hO1
    clear hO1 q2 hj
    go_wp2_with fail
    (with_reducible refine (pick_any lo g (K + 80) 4 _ (HR.le (by omega)) (by omega) (by omega)).mono ?_); rintro e w6 ⟨m, rfl, hm, -, hO1, HR⟩
    have hm4 := hm (by omega)
    have HP := HP.only hO1 (by omega)
    have X4 := X4.only hO1 (by simp; omega)
    have HO := HO.trans hO1
    clear hO1 hm
    have j0 : (0 : Int) ≤ (j : Int) := by omega
    rcases (by omega : m = 0 ∨ m = 1 ∨ m = 2 ∨ m = 3) with rfl | rfl | rfl | rfl
    · obtain ⟨gx, rfl, hgx⟩ := HP.xs.some_ (j := j) (by omega)
      obtain ⟨y, hy⟩ : ∃ y, p.x[j]? = some y := ⟨p.x[j]'(by omega), List.getElem?_eq_getElem _⟩
      have m1 : w6.cell? ⟨gx, j, none⟩ = some (.bool y) := HP.xs.cell hy
      have f1 := HP.xs.frozen j
      have HP2 := HP.setx j (!y)
      have hga : w.heap.size + 1 ≤ gx ∧ gx ≠ b5 := HP.ap gx (by simp [tblks, blk])
      have q0 := HP.q0; have q1 := HP.q1; have q2 := HP.q2; have q3 := HP.q3; have z0 := X4.c 0 _ rfl; have z1 := X4.c 1 _ rfl; have z2 := X4.c 2 _ rfl; have z3 := X4.c 3 _ rfl; have zf0 := X4.f 0; have zf1 := X4.f 1; have zf2 := X4.f 2; have zf3 := X4.f 3; have n1 := HN.out.1; have n2 := HN.out.2
      clear hy
      have n3 : b5 ≠ gx := by omega
      have n4 : w.heap.size ≠ gx := by omega
      go_wp2_with fail
      go_still_tail 9, (by kernel_rfl)
      change wpList _ _ _ _ _ w6.drew
      go_wp2_with fail
      refine bodyPost_ret (v := .agg #[.slice A p.store.cells.length c, .slice A' p.store.roots.length c', .slice (some ⟨gx, 0, none⟩) p.x.length c2, .slice A3 p.y.length c3]) (by simp [results, Try.results103, go_sem, q0, q1, q2, q3, z0, z1, z2, z3, n1, n2]) rfl ⟨_, rfl, ⟨_, (((HP2.kbn (by simp) (by simp)).only (S := [w.heap.size]) (by repeat (first | (with_reducible exact Only.refl _ _) | (with_reducible refine Only.drew ?_) | (refine Only.setCell ?_ (.inl (by simp)) _))) (fun x hx hc => by have := HP2.ap x hx; simp at hc; omega)).sq (fun x hx => by have := HP2.ap x hx; omega))⟩, ?_, ?_⟩
      · exact (by repeat (first | (with_reducible assumption) | (with_reducible refine Only.drew ?_) | (with_reducible refine Only.alloc ?_ _) | (refine Only.setCell ?_ (.inr (by simp only; omega)) _)))
      · exact (HR.keep (by repeat (first | (with_reducible exact Below.refl _ _) | (with_reducible refine Below.drew ?_) | ((with_reducible refine Below.allocc ?_ ?_ _); focus (first | omega | (simp; done) | (simp; omega))) | (refine Below.setCell ?_ (by simp only; omega) _)))).le (by omega)
    · obtain ⟨gy, rfl, hgy⟩ := HP.ys.some_ (j := j) (by have := hxm.out; omega)
      obtain ⟨y, hy⟩ : ∃ y, p.y[j]? = some y := ⟨p.y[j]'(by have := hxm.out; omega), List.getElem?_eq_getElem _⟩
      have m1 : w6.cell? ⟨gy, j, none⟩ = some (.bool y) := HP.ys.cell hy
      have f1 := HP.ys.frozen j
      have HP2 := HP.sety j (!y)
      have hga : w.heap.size + 1 ≤ gy ∧ gy ≠ b5 := HP.ap gy (by simp [tblks, blk])
      have j3 : (j : Int) < (p.y.length : Int) := by have := hxm.out; omega
      have q0 := HP.q0; have q1 := HP.q1; have q2 := HP.q2; have q3 := HP.q3; have z0 := X4.c 0 _ rfl; have z1 := X4.c 1 _ rfl; have z2 := X4.c 2 _ rfl; have z3 := X4.c 3 _ rfl; have zf0 := X4.f 0; have zf1 := X4.f 1; have zf2 := X4.f 2; have zf3 := X4.f 3; have n1 := HN.out.1; have n2 := HN.out.2
      clear hy
      have n3 : b5 ≠ gy := by omega
      have n4 : w.heap.size ≠ gy := by omega
      go_wp2_with fail
      go_still_tail 9, (by kernel_rfl)
      change wpList _ _ _ _ _ w6.drew
      go_wp2_with fail
      refine bodyPost_ret (v := .agg #[.slice A p.store.cells.length c, .slice A' p.store.roots.length c', .slice A2 p.x.length c2, .slice (some ⟨gy, 0, none⟩) p.y.length c3]) (by simp [results, Try.results103, go_sem, q0, q1, q2, q3, z0, z1, z2, z3, n1, n2]) rfl ⟨_, rfl, ⟨_, (((HP2.kbn (by simp) (by simp)).only (S := [w.heap.size]) (by repeat (first | (with_reducible exact Only.refl _ _) | (with_reducible refine Only.drew ?_) | (refine Only.setCell ?_ (.inl (by simp)) _))) (fun x hx hc => by have := HP2.ap x hx; simp at hc; omega)).sq (fun x hx => by have := HP2.ap x hx; omega))⟩, ?_, ?_⟩
      · exact (by repeat (first | (with_reducible assumption) | (with_reducible refine Only.drew ?_) | (with_reducible refine Only.alloc ?_ _) | (refine Only.setCell ?_ (.inr (by simp only; omega)) _)))
      · exact (HR.keep (by repeat (first | (with_reducible exact Below.refl _ _) | (with_reducible refine Below.drew ?_) | ((with_reducible refine Below.allocc ?_ ?_ _); focus (first | omega | (simp; done) | (simp; omega))) | (refine Below.setCell ?_ (by simp only; omega) _)))).le (by omega)
    · obtain ⟨gx, rfl, hgx⟩ := HP.xs.some_ (j := j) (by omega)
      have hga : w.heap.size + 1 ≤ gx ∧ gx ≠ b5 := HP.ap gx (by simp [tblks, blk])
      have hxl1 : (1 : Int) ≤ (p.x.length : Int) := by omega
      have hcap : p.x.length ≤ c2 := by
        rcases ownsRow_block HP.xs with ⟨h9, -⟩ | ⟨g9, cur, -, -, h9, -⟩
        · cases h9
        · exact h9
      have hc1 : (1 : Int) ≤ (c2 : Int) ∧ (p.x.length : Int) ≤ (c2 : Int) := by omega
      have hb4 := X4.lt
      have hb45 := HP.lo_
      by_cases hone : c2 = 1
      · subst hone
        have hx1 : Hid (p.x.length = 1) := by unfold Hid; omega
        have q0 := HP.q0; have q1 := HP.q1; have q2 := HP.q2; have q3 := HP.q3; have z0 := X4.c 0 _ rfl; have z1 := X4.c 1 _ rfl; have z2 := X4.c 2 _ rfl; have z3 := X4.c 3 _ rfl; have zf0 := X4.f 0; have zf1 := X4.f 1; have zf2 := X4.f 2; have zf3 := X4.f 3; have n1 := HN.out.1; have n2 := HN.out.2
        rw [hx1.out] at q2
        have bf2 := HP.qf 2
        clear hxl1 hcap hc1
        go_wp2_with fail
        refine bodyPost_ret (v := .agg #[.slice A p.store.cells.length c, .slice A' p.store.roots.length c', .slice (some ⟨gx, 0, none⟩) 0 0, .slice A3 p.y.length c3]) (by simp [results, Try.results103, go_sem, q0, q1, q2, q3, z0, z1, z2, z3, n1, n2]) rfl ⟨_, rfl, ⟨_, (((HP.kb0 (n := 0) (k2 := 0) (j := 0) hx1.out rfl).only (S := [w.heap.size, b5]) (by repeat (first | (with_reducible exact Only.refl _ _) | (with_reducible refine Only.drew ?_) | (refine Only.setCell ?_ (.inl (by simp)) _))) (fun x hx hc => by have := HP.ap x hx; simp at hc; omega)).sq (fun x hx => by have := HP.ap x hx; omega))⟩, ?_, ?_⟩
        · exact (by repeat (first | (with_reducible assumption) | (with_reducible refine Only.drew ?_) | (with_reducible refine Only.alloc ?_ _) | (refine Only.setCell ?_ (.inr (by simp only; omega)) _)))
        · exact (HR.keep (by repeat (first | (with_reducible exact Below.refl _ _) | (with_reducible refine Below.drew ?_) | ((with_reducible refine Below.allocc ?_ ?_ _); focus (first | omega | (simp; done) | (simp; omega))) | (refine Below.setCell ?_ (by simp only; omega) _)))).le (by omega)
      have q0 := HP.q0; have q1 := HP.q1; have q2 := HP.q2; have q3 := HP.q3; have z0 := X4.c 0 _ rfl; have z1 := X4.c 1 _ rfl; have z2 := X4.c 2 _ rfl; have z3 := X4.c 3 _ rfl; have zf0 := X4.f 0; have zf1 := X4.f 1; have zf2 := X4.f 2; have zf3 := X4.f 3; have n1 := HN.out.1; have n2 := HN.out.2
      have bf2 := HP.qf 2
      go_wp2_with fail
      refine bodyPost_ret (v := .agg #[.slice A p.store.cells.length c, .slice A' p.store.roots.length c', .slice (some ⟨gx, 1, none⟩) (p.x.length - 1) (c2 - 1), .slice A3 p.y.length c3]) (by simp [results, Try.results103, go_sem, q0, q1, q2, q3, z0, z1, z2, z3, n1, n2]) rfl ⟨_, rfl, ⟨_, (((HP.kbt (n := p.x.length - 1) (k2 := c2 - 1) (by simp)).only (S := [w.heap.size, b5]) (by repeat (first | (with_reducible exact Only.refl _ _) | (with_reducible refine Only.drew ?_) | (refine Only.setCell ?_ (.inl (by simp)) _))) (fun x hx hc => by have := HP.ap x hx; simp at hc; omega)).sq (fun x hx => by have := HP.ap x hx; omega))⟩, ?_, ?_⟩
      · exact (by repeat (first | (with_reducible assumption) | (with_reducible refine Only.drew ?_) | (with_reducible refine Only.alloc ?_ _) | (refine Only.setCell ?_ (.inr (by simp only; omega)) _)))
      · exact (HR.keep (by repeat (first | (with_reducible exact Below.refl _ _) | (with_reducible refine Below.drew ?_) | ((with_reducible refine Below.allocc ?_ ?_ _); focus (first | omega | (simp; done) | (simp; omega))) | (refine Below.setCell ?_ (by simp only; omega) _)))).le (by omega)
    · have q0 := HP.q0; have q1 := HP.q1; have q2 := HP.q2; have q3 := HP.q3; have z0 := X4.c 0 _ rfl; have z1 := X4.c 1 _ rfl; have z2 := X4.c 2 _ rfl; have z3 := X4.c 3 _ rfl; have zf0 := X4.f 0; have zf1 := X4.f 1; have zf2 := X4.f 2; have zf3 := X4.f 3; have n1 := HN.out.1; have n2 := HN.out.2
      have bf1 := HP.qf 1
      have hb5 := HP.lt
      have hb4 := X4.lt
      have hb45 := HP.lo_
      have n5 : w6.heap.size ≠ b5 := by omega
      have n6 : b5 ≠ w6.heap.size := by omega
      have n7 : w6.heap.size ≠ w.heap.size := by omega
      go_wp2_with fail
      refine bodyPost_ret (v := .agg #[.slice A p.store.cells.length c, .slice (some ⟨w6.heap.size, 0, none⟩) 1 1, .slice A2 p.x.length c2, .slice A3 p.y.length c3]) (by simp [results, Try.results103, go_sem, q0, q1, q2, q3, z0, z1, z2, z3, n1, n2, n7, hb4]) rfl ⟨_, rfl, ⟨_, KB.sq (KB.roots (gn := w6.heap.size) (x := -1) (KB.alloc_ (HP.kb.only (S := [w.heap.size, b5]) (by repeat (first | (with_reducible exact Only.refl _ _) | (with_reducible refine Only.drew ?_) | (refine Only.setCell ?_ (.inl (by simp)) _))) (fun x hx hc => by have := HP.ap x hx; simp at hc; omega)) _) (by simp [go_sem])) (fun x hx => by rcases List.mem_cons.1 hx with rfl | hx; omega; (have := HP.ap x hx; omega))⟩, ?_, ?_⟩
      · exact (by repeat (first | (with_reducible assumption) | (with_reducible refine Only.drew ?_) | (with_reducible refine Only.alloc ?_ _) | (refine Only.setCell ?_ (.inr (by simp only; omega)) _)))
      · exact (HR.keep (by repeat (first | (with_reducible exact Below.refl _ _) | (with_reducible refine Below.drew ?_) | ((with_reducible refine Below.allocc ?_ ?_ _); focus (first | omega | (simp; done) | (simp; omega))) | (refine Below.setCell ?_ (by simp only; omega) _)))).le (by omega)
end Go.Proofs.Ytopbngfghpgbnaa

/- What the laws draw: heaps with generations. -/
namespace Go.Proofs.Ytopbngfghpgbnaa
open Go.RowKit
set_option maxRecDepth 100000
set_option linter.unusedSimpArgs false
set_option linter.unusedVariables false
set_option maxHeartbeats 4000000 in
theorem drawAgedValid_any (C : Option Addr) (bs : List Int) (c : Nat) (w : World) (hr : RF fu w C bs) (hb : ∀ x ∈ bs, 0 ≤ x ∧ x < 256) (hc : bs.length ≤ c) (hc2 : c ≤ 9223372036854775807) :
    Calls Try.prog 42 #[.slice C bs.length c] w fun e w' => ∃ v p, e = .returned v ∧ RTw w' v p ∧ Below w.heap.size w w' := by
  go_enter Try.func42, Try.ntmps42
  go_wp2_with fail
  refine Calls.gen (fun W => Bx W w.heap.size [.slice none 0 0, .slice none 0 0, .slice none 0 0, .slice none 0 0] ∧ Below w.heap.size w W ∧ RF fu W C bs) ⟨Bx.new w [.slice none 0 0, .slice none 0 0, .slice none 0 0, .slice none 0 0] 60, blw_, hr.below blw_⟩ ?_
  clear hr
  rintro W0 ⟨X2, HB, hr⟩
  have zB := HB.size
  have hw0 := X2.lt
  (with_reducible refine (l20Open_any C bs c _ hr hb hc hc2).mono ?_); rintro e w1 ⟨g, rfl, HR, hB⟩
  have X2 := X2.below hB
  have HB := HB.trans (hB.mono zB)
  have hg := HR.lt
  have zb := hB.size
  clear hB hr zB
  go_wp2_with fail
  (with_reducible refine (l20Aged_any W0.heap.size g 1000 2 _ (HR.le (by omega)) (by omega) (by omega)).mono ?_); rintro e w2 ⟨v, rfl, ⟨p, hS⟩, hO, -⟩
  obtain ⟨A, k1, A', k2, A2, k3, A3, k4, rfl⟩ := hS.now.parts
  have X2 := X2.only hO (by simp; omega)
  have HB := HB.trans (hO.below (B := w.heap.size) HB.size (by simp; omega))
  clear hO HR
  have q0 := X2.c 0 _ rfl
  have qf0 := X2.f 0
  have q1 := X2.c 1 _ rfl
  have qf1 := X2.f 1
  have q2 := X2.c 2 _ rfl
  have qf2 := X2.f 2
  have q3 := X2.c 3 _ rfl
  have qf3 := X2.f 3
  go_wp2_with fail
  refine bodyPost_ret (v := .agg #[.slice A p.store.cells.length k1, .slice A' p.store.roots.length k2, .slice A2 p.x.length k3, .slice A3 p.y.length k4]) (by simp [results, Try.results42, go_sem, q0, q1, q2, q3]) rfl ⟨_, p, rfl, ?_, ?_⟩
  · refine SQ.now (lo := w1.heap.size) (SQ.only (S := [w.heap.size]) hS ?_ ?_)
    · exact (by repeat (first | (with_reducible exact Only.refl _ _) | (refine Only.setCell ?_ (.inl (by simp)) _)))
    · simp; omega
  · exact blw_
set_option maxHeartbeats 4000000 in
theorem drawCollectYoung_any (C : Option Addr) (bs : List Int) (c : Nat) (w : World) (hr : RF fu w C bs) (hb : ∀ x ∈ bs, 0 ≤ x ∧ x < 256) (hc : bs.length ≤ c) (hc2 : c ≤ 9223372036854775807) :
    Calls Try.prog 49 #[.slice C bs.length c] w fun e w' => ∃ v p, e = .returned v ∧ RTw w' v p ∧ Below w.heap.size w w' := by
  go_enter Try.func49, Try.ntmps49
  go_wp2_with fail
  refine Calls.gen (fun W => Bx W w.heap.size [.slice none 0 0, .slice none 0 0, .slice none 0 0, .slice none 0 0] ∧ Below w.heap.size w W ∧ RF fu W C bs) ⟨Bx.new w [.slice none 0 0, .slice none 0 0, .slice none 0 0, .slice none 0 0] 60, blw_, hr.below blw_⟩ ?_
  clear hr
  rintro W0 ⟨X2, HB, hr⟩
  have zB := HB.size
  have hw0 := X2.lt
  (with_reducible refine (l20Open_any C bs c _ hr hb hc hc2).mono ?_); rintro e w1 ⟨g, rfl, HR, hB⟩
  have X2 := X2.below hB
  have HB := HB.trans (hB.mono zB)
  have hg := HR.lt
  have zb := hB.size
  clear hB hr zB
  go_wp2_with fail
  (with_reducible refine (l20Aged_any W0.heap.size g 1000 12 _ (HR.le (by omega)) (by omega) (by omega)).mono ?_); rintro e w2 ⟨v, rfl, ⟨p, hS⟩, hO, -⟩
  obtain ⟨A, k1, A', k2, A2, k3, A3, k4, rfl⟩ := hS.now.parts
  have X2 := X2.only hO (by simp; omega)
  have HB := HB.trans (hO.below (B := w.heap.size) HB.size (by simp; omega))
  clear hO HR
  have q0 := X2.c 0 _ rfl
  have qf0 := X2.f 0
  have q1 := X2.c 1 _ rfl
  have qf1 := X2.f 1
  have q2 := X2.c 2 _ rfl
  have qf2 := X2.f 2
  have q3 := X2.c 3 _ rfl
  have qf3 := X2.f 3
  go_wp2_with fail
  refine bodyPost_ret (v := .agg #[.slice A p.store.cells.length k1, .slice A' p.store.roots.length k2, .slice A2 p.x.length k3, .slice A3 p.y.length k4]) (by simp [results, Try.results49, go_sem, q0, q1, q2, q3]) rfl ⟨_, p, rfl, ?_, ?_⟩
  · refine SQ.now (lo := w1.heap.size) (SQ.only (S := [w.heap.size]) hS ?_ ?_)
    · exact (by repeat (first | (with_reducible exact Only.refl _ _) | (refine Only.setCell ?_ (.inl (by simp)) _)))
    · simp; omega
  · exact blw_
set_option maxHeartbeats 4000000 in
theorem drawCollectAged_any (C : Option Addr) (bs : List Int) (c : Nat) (w : World) (hr : RF fu w C bs) (hb : ∀ x ∈ bs, 0 ≤ x ∧ x < 256) (hc : bs.length ≤ c) (hc2 : c ≤ 9223372036854775807) :
    Calls Try.prog 52 #[.slice C bs.length c] w fun e w' => ∃ v p, e = .returned v ∧ RTw w' v p ∧ Below w.heap.size w w' := by
  go_enter Try.func52, Try.ntmps52
  go_wp2_with fail
  refine Calls.gen (fun W => Bx W w.heap.size [.slice none 0 0, .slice none 0 0, .slice none 0 0, .slice none 0 0] ∧ Below w.heap.size w W ∧ RF fu W C bs) ⟨Bx.new w [.slice none 0 0, .slice none 0 0, .slice none 0 0, .slice none 0 0] 60, blw_, hr.below blw_⟩ ?_
  clear hr
  rintro W0 ⟨X2, HB, hr⟩
  have zB := HB.size
  have hw0 := X2.lt
  (with_reducible refine (l20Open_any C bs c _ hr hb hc hc2).mono ?_); rintro e w1 ⟨g, rfl, HR, hB⟩
  have X2 := X2.below hB
  have HB := HB.trans (hB.mono zB)
  have hg := HR.lt
  have zb := hB.size
  clear hB hr zB
  go_wp2_with fail
  (with_reducible refine (l20Aged_any W0.heap.size g 1000 12 _ (HR.le (by omega)) (by omega) (by omega)).mono ?_); rintro e w2 ⟨v, rfl, ⟨p, hS⟩, hO, -⟩
  obtain ⟨A, k1, A', k2, A2, k3, A3, k4, rfl⟩ := hS.now.parts
  have X2 := X2.only hO (by simp; omega)
  have HB := HB.trans (hO.below (B := w.heap.size) HB.size (by simp; omega))
  clear hO HR
  have q0 := X2.c 0 _ rfl
  have qf0 := X2.f 0
  have q1 := X2.c 1 _ rfl
  have qf1 := X2.f 1
  have q2 := X2.c 2 _ rfl
  have qf2 := X2.f 2
  have q3 := X2.c 3 _ rfl
  have qf3 := X2.f 3
  go_wp2_with fail
  refine bodyPost_ret (v := .agg #[.slice A p.store.cells.length k1, .slice A' p.store.roots.length k2, .slice A2 p.x.length k3, .slice A3 p.y.length k4]) (by simp [results, Try.results52, go_sem, q0, q1, q2, q3]) rfl ⟨_, p, rfl, ?_, ?_⟩
  · refine SQ.now (lo := w1.heap.size) (SQ.only (S := [w.heap.size]) hS ?_ ?_)
    · exact (by repeat (first | (with_reducible exact Only.refl _ _) | (refine Only.setCell ?_ (.inl (by simp)) _)))
    · simp; omega
  · exact blw_
set_option maxHeartbeats 4000000 in
theorem drawStepAged_any (C : Option Addr) (bs : List Int) (c : Nat) (w : World) (hr : RF fu w C bs) (hb : ∀ x ∈ bs, 0 ≤ x ∧ x < 256) (hc : bs.length ≤ c) (hc2 : c ≤ 9223372036854775807) :
    Calls Try.prog 45 #[.slice C bs.length c] w fun e w' => ∃ v p o, e = .returned (.tuple #[v, cmdV o]) ∧ RTw w' v p ∧ Below w.heap.size w w' := by
  go_enter Try.func45, Try.ntmps45
  go_wp2_with fail
  refine Calls.gen (fun W => Bx W w.heap.size [.slice none 0 0, .slice none 0 0, .slice none 0 0, .slice none 0 0] ∧ Bx W (w.heap.size + 1) [.int .i64 0, .int .i64 0, .int .i64 0, .int .i64 0] ∧ Below w.heap.size w W ∧ RF fu W C bs ∧ W.heap.size = w.heap.size + 2) ⟨(Bx.new w [.slice none 0 0, .slice none 0 0, .slice none 0 0, .slice none 0 0] 60).below blw_, by simpa using Bx.new (w.alloc (.cells #[.slice none 0 0, .slice none 0 0, .slice none 0 0, .slice none 0 0] 60)) [.int .i64 0, .int .i64 0, .int .i64 0, .int .i64 0] 41, blw_, hr.below blw_, by simp⟩ ?_
  clear hr
  rintro W0 ⟨X2, X3, HB, hr, hz0⟩
  have zB := HB.size
  (with_reducible refine (l20Open_any C bs c _ hr hb hc hc2).mono ?_); rintro e w1 ⟨g, rfl, HR, hB⟩
  rw [hz0] at HR
  have X2 := X2.below hB
  have X3 := X3.below hB
  have HB := HB.trans (hB.mono zB)
  have hg := HR.lt
  clear hB hr zB
  go_wp2_with fail
  (with_reducible refine (l20Aged_any (w.heap.size + 2) g 1000 14 _ (HR.le (by omega)) (by omega) (by omega)).mono ?_); rintro e w2 ⟨v, rfl, ⟨p, hS⟩, hO, HR⟩
  obtain ⟨A, k1, A', k2, A2, k3, A3, k4, rfl⟩ := hS.now.parts
  have X2 := X2.only hO (by simp; omega)
  have X3 := X3.only hO (by simp; omega)
  have HB := HB.trans (hO.below (B := w.heap.size) HB.size (by simp; omega))
  have hz2 := hO.size
  clear hO
  go_upto_region 3 with fail
  refine Code.gen (fun W => Bx W w.heap.size [.slice none 0 0, .slice none 0 0, .slice none 0 0, .slice none 0 0] ∧ Bx W (w.heap.size + 1) [.int .i64 0, .int .i64 0, .int .i64 0, .int .i64 0] ∧ Bx W w2.heap.size [.slice A p.store.cells.length k1, .slice A' p.store.roots.length k2, .slice A2 p.x.length k3, .slice A3 p.y.length k4] ∧ SQ (fun W9 => RTw W9 (.agg #[.slice A p.store.cells.length k1, .slice A' p.store.roots.length k2, .slice A2 p.x.length k3, .slice A3 p.y.length k4]) p) w1.heap.size W ∧ Below w.heap.size w W ∧ Rd (w.heap.size + 2) W g 1000)
    ⟨X2.below blw_, X3.below blw_, Bx.new w2 [.slice A p.store.cells.length k1, .slice A' p.store.roots.length k2, .slice A2 p.x.length k3, .slice A3 p.y.length k4] 60, hS.below blw_, blw_, HR.below blw_⟩ ?_
  have hg2 : Hid (g < w1.heap.size ∧ w1.heap.size ≤ w2.heap.size ∧ w.heap.size + 2 ≤ g) := ⟨hg.1, hz2, hg.2⟩
  generalize w2.heap.size = b5 at hg2 ⊢
  clear X2 X3 hS HB HR hg hz2
  rintro W ⟨X2, X3, X5, hS, HB, HR⟩
  refine wp_region_R (by kernel_rfl) (fun R wd hR hwd => ?_)
  have hBd : Below W.heap.size W wd := by rw [hwd]; exact blw_
  have X2 := X2.below hBd
  have X3 := X3.below hBd
  have X5 := X5.below hBd
  have hS := hS.below hBd
  have HB := HB.trans (hBd.mono HB.size)
  have HR := HR.below hBd
  clear hBd hwd
  rw [hR]
  (refine wpAny_take (i := 1) (v := ?v9_1_u0) rfl (by kernel_rfl) (by kernel_rfl) (by kernel_rfl) (fun _ _ _ h => h) (Or.inl ⟨by kernel_rfl, ?h9_1_u0⟩) ?r9_1_u0; (case h9_1_u0 => (intro w9; go_simp; try with_reducible rfl)))
  rw [← hR]
  refine rel_at (fr := ?fr_0) hR (fun f W => Bx W w.heap.size [.slice none 0 0, .slice none 0 0, .slice none 0 0, .slice none 0 0] ∧ Bx W (w.heap.size + 1) [.int .i64 0, .int .i64 0, .int .i64 0, .int .i64 0] ∧ Bx W b5 [.slice A p.store.cells.length k1, .slice A' p.store.roots.length k2, .slice A2 p.x.length k3, .slice A3 p.y.length k4] ∧ SQ (fun W9 => RTw W9 (.agg #[.slice A p.store.cells.length k1, .slice A' p.store.roots.length k2, .slice A2 p.x.length k3, .slice A3 p.y.length k4]) p) w1.heap.size W ∧ Below w.heap.size w W ∧ Rd (w.heap.size + 2) W g (16 * f)) [(fun v W => v = .agg #[.slice A p.store.cells.length k1, .slice A' p.store.roots.length k2, .slice A2 p.x.length k3, .slice A3 p.y.length k4]), tt, (fun v W => ∃ o : CmdM, v = cmdV o), tt, tt] (fun W W' => Only [g] W W') [(0, []), (2, []), (3, [0, 2]), (4, [0, 2])] [(10, 0), (12, 2)] [0, 2] #[true, true, true, false, false] 4 2 (by kernel_rfl) (by kernel_rfl) ?hfr_0 ?h0_0 ?mono_0 ?steps_0 ?_
  case hfr_0 => intro x; (simp [frOf, fill, Act.put, List.lookup]; with_reducible rfl)
  case h0_0 => exact ⟨X2, X3, X5, hS, HB, HR.le (by omega)⟩
  case mono_0 => exact (Pm.cons (fun _ _ _ _ h => h) (Pm.cons (fun _ _ _ _ h => h) (Pm.cons (fun _ _ _ _ h => h) (Pm.cons (fun _ _ _ _ h => h) (Pm.cons (fun _ _ _ _ h => h) Pm.nil)))))
  case steps_0 =>
    refine Steps.cons (RStep.of rfl fun x W f hI hD K9 hK => ?_) ?_
    · clear hD
      have c0 := hI.2.2.1.c 0 _ rfl
      have c1 := hI.2.2.1.c 1 _ rfl
      have c2 := hI.2.2.1.c 2 _ rfl
      have c3 := hI.2.2.1.c 3 _ rfl
      go_simp
      exact hK (.agg #[.slice A p.store.cells.length k1, .slice A' p.store.roots.length k2, .slice A2 p.x.length k3, .slice A3 p.y.length k4]) _ _ (by kernel_rfl) (Only.refl _ _) (⟨hI.1, hI.2.1, hI.2.2.1, hI.2.2.2.1, hI.2.2.2.2.1, hI.2.2.2.2.2.le (by omega)⟩) rfl
    refine Steps.cons (RStep.of rfl fun x W f hI hD K9 hK => ?_) ?_
    · clear hD
      have hg9 := hg2.out
      go_wp2_with fail
      (with_reducible refine (l20Command_any (w.heap.size + 2) g (16 * f) 14 _ (hI.2.2.2.2.2.le (by omega)) (by omega) (by omega)).mono ?_)
      rintro e w6 ⟨o, rfl, -, hO, hR6⟩
      exact hK (cmdV o) _ _ (by kernel_rfl) hO ⟨hI.1.only hO (by simp; omega), hI.2.1.only hO (by simp; omega), hI.2.2.1.only hO (by simp; omega), hI.2.2.2.1.only hO (by simp; omega), hI.2.2.2.2.1.trans (hO.below (B := w.heap.size) hI.2.2.2.2.1.size (by simp; omega)), hR6⟩ ⟨o, rfl⟩
    exact Steps.nil
  intro x W hI hV
  have e0 : x 0 = .agg #[.slice A p.store.cells.length k1, .slice A' p.store.roots.length k2, .slice A2 p.x.length k3, .slice A3 p.y.length k4] := hV 0 (by decide)
  have h2 : (fun v W => ∃ o : CmdM, v = cmdV o) (x 2) W := hV 2 (by decide)
  clear hV
  simp only [e0]
  obtain ⟨o, e2⟩ := h2
  simp only [e2, cmdV]
  obtain ⟨X2, X3, -, hS, HB, -⟩ := hI
  have q0 := X2.c 0 _ rfl
  have qf0 := X2.f 0
  have q1 := X2.c 1 _ rfl
  have qf1 := X2.f 1
  have q2 := X2.c 2 _ rfl
  have qf2 := X2.f 2
  have q3 := X2.c 3 _ rfl
  have qf3 := X2.f 3
  have r0 := X3.c 0 _ rfl
  have rf0 := X3.f 0
  have r1 := X3.c 1 _ rfl
  have rf1 := X3.f 1
  have r2 := X3.c 2 _ rfl
  have rf2 := X3.f 2
  have r3 := X3.c 3 _ rfl
  have rf3 := X3.f 3
  have n1 : w.heap.size ≠ w.heap.size + 1 := by omega
  have n2 : w.heap.size + 1 ≠ w.heap.size := by omega
  rw [hR]
  refine wpAny_ready (rs := [3]) (by kernel_rfl) (by simp) ?_
  refine AllReady.cons rfl (fun K9 hK9 => ?_) AllReady.nil
  go_simp
  refine hK9 _ _ ?_
  clear hK9
  refine wpAny_ready (rs := [4]) (by kernel_rfl) (by simp) ?_
  refine AllReady.cons rfl (fun K9 hK9 => ?_) AllReady.nil
  go_simp
  refine hK9 _ _ ?_
  clear hK9
  refine wpAny_done (by kernel_rfl) ?_ _
  go_wp2_with fail
  refine bodyPost_ret (v := .tuple #[.agg #[.slice A p.store.cells.length k1, .slice A' p.store.roots.length k2, .slice A2 p.x.length k3, .slice A3 p.y.length k4], cmdV o]) (by simp [results, Try.results45, go_sem, q0, q1, q2, q3, r0, r1, r2, r3, n1, n2, cmdV]) rfl ⟨_, p, o, rfl, ?_, ?_⟩
  · refine SQ.now (lo := w1.heap.size) (SQ.only (S := [w.heap.size, w.heap.size + 1]) hS ?_ ?_)
    · exact (by repeat (first | (with_reducible exact Only.refl _ _) | (refine Only.setCell ?_ (.inl (by simp)) _)))
    · have := hg2.out; simp; omega
  · exact blw_
end Go.Proofs.Ytopbngfghpgbnaa
