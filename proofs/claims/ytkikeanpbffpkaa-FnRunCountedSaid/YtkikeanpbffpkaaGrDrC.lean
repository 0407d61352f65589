/- Texts of one family, one behind the other: DrCnt, DrCntD. -/
import Derived.Test.YtkikeanpbffpkaaChecked
import Derived.Deep.QuietTactic
import Derived.BigQuiet
import Derived.IntWalk
import Derived.Deep.RegionWith
import Derived.Deep.RegionHeld3
import Derived.Deep.DeepCutAuto
import Derived.Test.YtkikeanpbffpkaaKb
import Derived.Test.YtkikeanpbffpkaaDraw8
import Derived.Test.YtkikeanpbffpkaaGrDraw
import Derived.Test.YtkikeanpbffpkaaGrCntS
import Derived.Test.YtkikeanpbffpkaaGrCntI
import Derived.Test.YtkikeanpbffpkaaGrCntD
import Derived.Test.YtkikeanpbffpkaaGrCtx
/- The reference's drawing: heaps with counts. -/
namespace Go.Proofs.Ytkikeanpbffpkaa
open Go.RowKit
set_option maxRecDepth 100000
set_option linter.unusedSimpArgs false
set_option linter.unusedVariables false
/-- What is drawn: it reads, while the blocks from lo on stay. -/
def SQC (lo : Nat) (w : World) (v : Value) : Prop := ∃ p : CountM, SQ (fun W => RCt W v p) lo w
def OKc (p : CountM) : Prop := p.counts.length ≤ 1048576 ∧ ∀ x ∈ p.counts, 0 ≤ x ∧ x ≤ 124
theorem okc_of {p : CountM} (h : countOk p = true) : OKc p := by
  obtain ⟨h1, h2⟩ := countOk_iff.1 h
  refine ⟨by rw [h2, cntsM_len]; have := (valid_small h1).1; omega, fun x hx => ?_⟩
  rw [h2, ← cntsM_D, ← cntP_end] at hx
  exact cntP_bd h1 (Nat.le_refl _) x hx
theorem okc_ref (h : HeapM) : OKc ⟨h, refCM h⟩ := by
  unfold refCM
  rcases bool_ft (validM h) with hv | hv
  · rw [hv]; exact ⟨by simp, fun x hx => by simp at hx⟩
  · rw [hv]; exact okc_of (p := ⟨h, cntsM h⟩) (countOk_iff.2 ⟨hv, rfl⟩)
theorem KB.of_sr {lo : Nat} {w : World} {v : Value} {h : HeapM} (s : SR lo w v h) : KB ((List.range w.heap.size).filter fun x => decide (lo ≤ x)) (fun W => RH W v h) w :=
  ⟨fun x hx => by simp at hx; exact hx.1, fun W hW => s W fun x h1 h2 => hW x (by simp; exact ⟨h2, h1⟩)⟩
structure CX (lo b : Nat) (w : World) (p : CountM) (A : Option Addr) (c : Nat) (A' : Option Addr) (c' : Nat) (S : Option Addr) (k : Nat) (bs : List Nat) : Prop where
  kb : KB bs (fun W => RH W (.agg #[.slice A p.store.cells.length c, .slice A' p.store.roots.length c']) p.store) w
  cts : OF 3 fi w S k p.counts
  ap : ∀ x ∈ blk S, x ∉ bs
  los : ∀ x, x ∈ bs ∨ x ∈ blk S → lo ≤ x ∧ x ≠ b
  bx : Bx w b [.slice A p.store.cells.length c, .slice A' p.store.roots.length c', .slice S p.counts.length k]
  lb : lo ≤ b
section
variable {lo b : Nat} {w w' : World} {p : CountM} {A A' S : Option Addr} {c c' k : Nat} {bs : List Nat}
theorem CX.only (h : CX lo b w p A c A' c' S k bs) {q : Nat} (hO : Only [q] w w') (hq : q < lo) : CX lo b w' p A c A' c' S k bs :=
  have hn : ∀ x, x ∈ bs ∨ x ∈ blk S → x ∉ [q] := fun x hx hc => by have := (h.los x hx).1; simp at hc; omega
  ⟨h.kb.only hO (fun x hx => hn x (.inl hx)), h.cts.only hO (fun x hx => hn x (.inr hx)), h.ap, h.los, h.bx.only hO (by have := h.lb; simp; omega), h.lb⟩
theorem CX.below (h : CX lo b w p A c A' c' S k bs) (hB : Below w.heap.size w w') : CX lo b w' p A c A' c' S k bs := ⟨h.kb.below hB, h.cts.below hB, h.ap, h.los, h.bx.below hB, h.lb⟩
theorem rct_of {W : World} {n : Nat} (h1 : RH W (.agg #[.slice A p.store.cells.length c, .slice A' p.store.roots.length c']) p.store) (h2 : RF fi W S p.counts) (hn : n = p.counts.length) (hl : p.counts.length ≤ 9223372036854775807) : RCt W (.agg #[.slice A p.store.cells.length c, .slice A' p.store.roots.length c', .slice S n k]) p := by
  subst hn
  obtain ⟨B, d, B', d', e, g1, g2, g3, g4⟩ := h1
  simp only [Value.agg.injEq, Array.mk.injEq, List.cons.injEq, Value.slice.injEq] at e
  obtain ⟨⟨rfl, -, -⟩, ⟨rfl, -, -⟩, -⟩ := e
  exact ⟨A, c, A', c', S, k, rfl, ⟨g1, g2, g3, g4⟩, h2, hl⟩
theorem CX.len (h : CX lo b w p A c A' c' S k bs) : p.counts.length ≤ 9223372036854775807 := by
  rcases h.cts.2 with ⟨-, h0⟩ | ⟨g, cap, cur, -, -, -, h1, h2, -⟩
  · omega
  · simp only [maxLen] at h2; omega
theorem CX.mem (h : CX lo b w p A c A' c' S k bs) {x : Nat} (hx : x ∈ bs ++ blk S) : lo ≤ x ∧ x ≠ b := h.los x (List.mem_append.1 hx)
theorem CX.lt' (h : CX lo b w p A c A' c' S k bs) {x : Nat} (hx : x ∈ bs ++ blk S) : x < w.heap.size := (List.mem_append.1 hx).elim (h.kb.1 x) (h.cts.lt x)
theorem CX.kbc (h : CX lo b w p A c A' c' S k bs) : KB (bs ++ blk S) (fun W => RCt W (.agg #[.slice A p.store.cells.length c, .slice A' p.store.roots.length c', .slice S p.counts.length k]) p) w :=
  ⟨fun x hx => h.lt' hx, fun W hW => rct_of (h.kb.2 W fun x hx => hW x (List.mem_append.2 (.inl hx))) (h.cts.keep (w' := W) fun x hx => hW x (List.mem_append.2 (.inr hx))).rf rfl h.len⟩
theorem CX.kbt {gs n k2 : Nat} (h : CX lo b w p A c A' c' (some ⟨gs, 0, none⟩) k bs) (hn : n = p.counts.tail.length) : KB (bs ++ blk (some ⟨gs, 0, none⟩)) (fun W => RCt W (.agg #[.slice A p.store.cells.length c, .slice A' p.store.roots.length c', .slice (some ⟨gs, 1, none⟩) n k2]) ⟨p.store, p.counts.tail⟩) w :=
  ⟨fun x hx => h.lt' hx, fun W hW => rct_of (p := ⟨p.store, p.counts.tail⟩) (h.kb.2 W fun x hx => hW x (List.mem_append.2 (.inl hx))) (h.cts.keep (w' := W) fun x hx => hW x (List.mem_append.2 (.inr hx))).rf.tail_ hn (by have := h.len; simp; omega)⟩
theorem CX.kb0 {gs j n k2 : Nat} (h : CX lo b w p A c A' c' (some ⟨gs, 0, none⟩) k bs) (hp : p.counts.length = 1) (hn : n = 0) : KB (bs ++ blk (some ⟨gs, 0, none⟩)) (fun W => RCt W (.agg #[.slice A p.store.cells.length c, .slice A' p.store.roots.length c', .slice (some ⟨gs, j, none⟩) n k2]) ⟨p.store, p.counts.tail⟩) w :=
  ⟨fun x hx => h.lt' hx, fun W hW => rct_of (p := ⟨p.store, p.counts.tail⟩) (h.kb.2 W fun x hx => hW x (List.mem_append.2 (.inl hx))) (fun i hi => by simp [hp] at hi) (by simp [hp, hn]) (by simp [hp])⟩
theorem CX.inc {gs : Nat} (h : CX lo b w p A c A' c' (some ⟨gs, 0, none⟩) k bs) (j : Nat) (y : Int) : KB (bs ++ blk (some ⟨gs, 0, none⟩)) (fun W => RCt W (.agg #[.slice A p.store.cells.length c, .slice A' p.store.roots.length c', .slice (some ⟨gs, 0, none⟩) p.counts.length k]) ⟨p.store, p.counts.set j y⟩) (w.setCell ⟨gs, j, none⟩ (.int .i64 y)) := by
  have hg : gs ∈ blk (some (⟨gs, 0, none⟩ : Addr)) := by simp [blk]
  have hO : Only [gs] w (w.setCell ⟨gs, j, none⟩ (.int .i64 y)) := (Only.refl _ _).setCell (.inl (by simp)) _
  have h1 := h.kb.only hO (fun x hx hc => by simp at hc; subst hc; exact h.ap _ hg hx)
  have h2 := h.cts.set_ j y
  exact ⟨fun x hx => (List.mem_append.1 hx).elim (h1.1 x) (h2.lt x), fun W hW => rct_of (p := ⟨p.store, p.counts.set j y⟩) (h1.2 W fun x hx => hW x (List.mem_append.2 (.inl hx))) (h2.keep (w' := W) fun x hx => hW x (List.mem_append.2 (.inr hx))).rf (by simp) (by have := h.len; simp; omega)⟩
/-- Another value is stored into the box. -/
theorem CX.store {lo5 : Nat} {w5 : World} {u0 u1 u2 : Value} (hb : Bx w5 b [u0, u1, u2]) (h : OCt lo5 w5 (.agg #[.slice A p.store.cells.length c, .slice A' p.store.roots.length c', .slice S p.counts.length k]) p) (hl : b < lo5) (hl2 : lo ≤ b) :
    ∃ bs, CX lo b (((w5.setCell ⟨b, 0, none⟩ (.slice A p.store.cells.length c)).setCell ⟨b, 1, none⟩ (.slice A' p.store.roots.length c')).setCell ⟨b, 2, none⟩ (.slice S p.counts.length k)) p A c A' c' S k bs := by
  have h9 := ((h.set_lt (a := ⟨b, 0, none⟩) hl (.slice A p.store.cells.length c)).set_lt (a := ⟨b, 1, none⟩) hl (.slice A' p.store.roots.length c')).set_lt (a := ⟨b, 2, none⟩) hl (.slice S p.counts.length k)
  obtain ⟨A1, c1, A1', c1', os, S1, k1, e, h1, h2, h3, h4, h5, h6⟩ := h9
  simp only [Value.agg.injEq, Array.mk.injEq, List.cons.injEq, Value.slice.injEq] at e
  obtain ⟨⟨rfl, -, rfl⟩, ⟨rfl, -, rfl⟩, ⟨rfl, -, rfl⟩, -⟩ := e
  refine ⟨hblks A os A', ⟨fun x hx => h2.lt x hx, fun W hW => ((h2.keep (w' := W) hW).rhs h1).rh _ _⟩, h3, fun x hx hc => ?_, fun x hx => ?_, hb.set3 _ _ _, hl2⟩
  · rw [List.nodup_append] at h4
    exact h4.2.2 x hc x hx rfl
  · have := h5 x (List.mem_append.2 hx)
    omega
end
set_option maxHeartbeats 8000000 in
theorem l20Counted_any (lo g K : Nat) (n : Int) (w : World) (h : Rd lo w g (K + 3000)) (hn1 : 0 ≤ n) (hn2 : n ≤ 1048576) :
    Calls Try.prog 23 #[.pointer (some ⟨g, 0, none⟩), .int .i64 n] w fun e w' => ∃ v, e = .returned v ∧ SQC w.heap.size w' v ∧ Only [g] w w' ∧ Rd lo w' g K := by
  have hlt := h.lt.1
  go_enter Try.func23, Try.ntmps23
  go_wp2_with fail
  refine Calls.gen (fun W => Bx W w.heap.size [.slice none 0 0, .slice none 0 0, .slice none 0 0] ∧ Only [g] w W ∧ Rd lo W g (K + 3000)) ⟨Bx.new w [.slice none 0 0, .slice none 0 0, .slice none 0 0] 28, Only.of_below blw_, h.below blw_⟩ ?_
  clear h
  rintro W ⟨X4, HO, HR⟩
  have hw := X4.lt
  (with_reducible refine (l20Heap_any lo g (K + 1500) n _ (HR.le (by omega)) hn1 hn2).mono ?_); rintro e w1 ⟨v, hm, rfl, hS, hO1, HR⟩
  obtain ⟨A, c, A', c', rfl⟩ := hS.now.parts
  have X4 := X4.only hO1 (by simp; omega)
  have HO := HO.trans hO1
  have HK : Hid (∃ bs, (∀ x ∈ bs, w.heap.size + 1 ≤ x ∧ x < w1.heap.size) ∧ KB bs (fun W => RH W (.agg #[.slice A hm.cells.length c, .slice A' hm.roots.length c']) hm) w1) :=
    ⟨_, fun x hx => by simp at hx; omega, KB.of_sr hS⟩
  clear hS hO1
  obtain ⟨bs, HB1, HK⟩ := HK.out
  have HB1 := Lib.hid HB1
  have hw1 := X4.lt
  go_upto_region 2 with fail
  refine Code.gen (fun W => KB bs (fun W => RH W (.agg #[.slice A hm.cells.length c, .slice A' hm.roots.length c']) hm) W ∧ Bx W w1.heap.size [.slice A hm.cells.length c, .slice A' hm.roots.length c'] ∧ Bx W w.heap.size [.slice none 0 0, .slice none 0 0, .slice none 0 0] ∧ Only [g] w W ∧ Rd lo W g (K + 1500)) ⟨HK.below blw_, Bx.new w1 [.slice A hm.cells.length c, .slice A' hm.roots.length c'] 26, X4.below blw_, HO.trans (Only.of_below blw_), HR.below blw_⟩ ?_
  have hb5 : w.heap.size + 1 ≤ w1.heap.size := hw1
  generalize w1.heap.size = b5 at HB1 hb5 ⊢
  clear hw1 HK X4 HO HR hw
  rintro W2 ⟨HK, X5, X4, HO, HR⟩
  have q0 := X5.c 0 _ rfl
  have q1 := X5.c 1 _ rfl
  have hx5 := X5.lt
  have hx4 := X4.lt
  have hS : ∀ W, Below W2.heap.size W2 W → W.cell? ⟨b5, 0, none⟩ = some (.slice A hm.cells.length c) ∧ W.cell? ⟨b5, 1, none⟩ = some (.slice A' hm.roots.length c') := fun W hW => ⟨cell_below q0 hW, cell_below q1 hW⟩
  have HKH := Lib.hid HK
  have HX4 := Lib.hid X4
  have HRH := Lib.hid HR
  have HOH := Lib.hid HO
  clear HK X4 X5 HR HO
  go_cut [6] (fun s6 wx => ∃ (b6 : Nat) (S : Option Addr) (k : Nat) (bs : List Nat), s6 = .pointer (some ⟨b6, 0, none⟩) ∧ CX (w.heap.size + 1) b6 wx ⟨hm, refCM hm⟩ A c A' c' S k bs ∧ Bx wx w.heap.size [.slice none 0 0, .slice none 0 0, .slice none 0 0] ∧ Only [g] w wx ∧ Rd lo wx g (K + 1500))
  case first =>
    go_region_held3 (fun w' => w'.cell? ⟨b5, 0, none⟩ = some (.slice A hm.cells.length c) ∧ w'.cell? ⟨b5, 1, none⟩ = some (.slice A' hm.roots.length c'))
      (first | with_reducible exact hS _ blw_)
      (first
        | (go_at_call 61; (with_reducible refine (specRefCounts_any _ hm _ ((HKH.out.below blw_).now)).mono ?_); rintro e w5 ⟨S, k, rfl, hS5, hg5, hB5⟩; (have z_hB5 := Below.size hB5); (try simp only [World.size_alloc, World.size_setCell, World.size_drew, World.heap_drewN] at z_hB5); obtain ⟨hbc, hbf, -⟩ := bcell hB5; (first | (have zl5 : W2.heap.size < w5.heap.size := Nat.lt_of_lt_of_le (Nat.lt_succ_self _) z_hB5; have HBN := Lib.hid ((Bx.new W2 [.slice none 0 0, .slice none 0 0, .slice none 0 0] 28).below (W' := w5) blw_)) | skip); have Y5 : Below W2.heap.size W2 w5 := blw_; (try simp only [World.size_alloc, World.size_setCell, World.size_drew, World.heap_drewN, heap_drew_] at hg5); have HS5 := Lib.hid hS5; have HG5 := Lib.hid hg5; clear hS5 hg5))
    all_goals
      have HK5 := Lib.hid (HKH.out.below Y5)
      have HX5 := Lib.hid (HX4.out.below Y5)
      have HO5 := Lib.hid (HOH.out.trans (Only.of_below Y5))
      have HR5 := Lib.hid (HRH.out.below Y5)
      have zY := Y5.size
      have nw2 : w.heap.size ≠ W2.heap.size := by omega
      have nw5 : w.heap.size ≠ w5.heap.size := by omega
      clear hS HKH HX4 HRH HOH hB5
    · go_wp2_with fail
      go_meet
      refine ⟨_, S, k, bs, rfl, ⟨HK5.out.below blw_, HS5.out.below blw_, fun x hx hc => by have := HG5.out x hx; have := HB1.out x hc; omega, fun x hx => ?_, Bx.new w5 [.slice A hm.cells.length c, .slice A' hm.roots.length c', .slice S (refCM hm).length k] _, by omega⟩, HX5.out.below blw_, HO5.out.trans (Only.of_below blw_), HR5.out.below blw_⟩
      rcases hx with hx | hx
      · have := HB1.out x hx; exact ⟨by omega, by omega⟩
      · have h1 := HG5.out x hx; have h2 := HS5.out.lt x hx; exact ⟨by omega, by omega⟩
    · go_wp2_with fail
      go_meet
      have h2 : ∀ x ∈ bs, x ≠ W2.heap.size := fun x hx => by have := HB1.out x hx; omega
      have h3 : ∀ x ∈ blk S, x ≠ W2.heap.size := fun x hx => by have := HG5.out x hx; omega
      have hO3 : Only [W2.heap.size] w5 (((w5.setCell ⟨W2.heap.size, 0, none⟩ (.slice A hm.cells.length c)).setCell ⟨W2.heap.size, 1, none⟩ (.slice A' hm.roots.length c')).setCell ⟨W2.heap.size, 2, none⟩ (.slice S (refCM hm).length k)) := (by repeat (first | (with_reducible exact Only.refl _ _) | (with_reducible refine Only.drew ?_) | (refine Only.setCell ?_ (.inl (by simp)) _)))
      refine ⟨_, S, k, bs, rfl, ⟨HK5.out.only hO3 (fun x hx hc => h2 x hx (by simpa using hc)), HS5.out.only hO3 (fun x hx hc => h3 x hx (by simpa using hc)), fun x hx hc => by have := HG5.out x hx; have := HB1.out x hc; omega, fun x hx => ?_, HBN.out.set3 _ _ _, by omega⟩, ((HX5.out.other nw2 _ _).other nw2 _ _).other nw2 _ _, ?_, ?_⟩
      · rcases hx with hx | hx
        · have := HB1.out x hx; exact ⟨by omega, by omega⟩
        · have h1 := HG5.out x hx; exact ⟨by omega, by omega⟩
      · have HO := HO5.out
        exact (by repeat (first | (with_reducible assumption) | (with_reducible refine Only.drew ?_) | (with_reducible refine Only.alloc ?_ _) | (refine Only.setCell ?_ (.inr (by simp only; omega)) _)))
      · have HR := HR5.out
        have hg2 := HR.lt
        exact HR.keep (by repeat (first | (with_reducible exact Below.refl _ _) | (with_reducible refine Below.drew ?_) | ((with_reducible refine Below.allocc ?_ ?_ _); focus (first | omega | (simp; done) | (simp; omega))) | (refine Below.setCell ?_ (by simp only; omega) _)))
  case rest =>
    clear hS HKH HX4 HRH HOH q0 q1 HB1
    obtain ⟨b6, S, k, bs, rfl, HP, X4, HO, HR⟩ := hcut
    have hx4 := X4.lt
    go_wp2_with fail
    (with_reducible refine (pick_any lo g (K + 1499) 2 _ HR (by omega) (by omega)).mono ?_); rintro e w6 ⟨m, rfl, hm2, -, hO1, HR⟩
    have hm3 := hm2 (by omega)
    have HP := HP.only hO1 (by omega)
    have X4 := X4.only hO1 (by simp; omega)
    have HO := HO.trans hO1
    clear hO1 hm2
    go_upto_if 17 with fail
    go_cut [] (fun wx => ∃ (p : CountM) (A : Option Addr) (c : Nat) (A' : Option Addr) (c' : Nat) (S : Option Addr) (k : Nat) (bs : List Nat), CX (w.heap.size + 1) b6 wx p A c A' c' S k bs ∧ Hid (OKc p) ∧ Bx wx w.heap.size [.slice none 0 0, .slice none 0 0, .slice none 0 0] ∧ Only [g] w wx ∧ Rd lo wx g (K + 300))
    case first =>
      rcases (by omega : m = 0 ∨ 0 < m) with hm0 | hm0
      · subst hm0
        go_wp2_with fail
        (with_reducible refine (l20Program_any lo g (K + 300) 0 _ (HR.le (by omega)) (by omega) (by omega)).mono ?_); rintro e w7 ⟨L, SL, cL, rfl, hSL, hSB, hL, hok, hO1, HR⟩
        have hcok := hok rfl
        have HOK := Lib.hid (okc_of (law_RunCounted hcok).1)
        have HP := HP.only hO1 (by omega)
        have X4 := X4.only hO1 (by simp; omega)
        have HO := HO.trans hO1
        have hro := hSL.ro
        have hx7 := X4.lt
        clear hO1 hok hcok hSL hSB
        go_wp2_with fail
        (with_reducible refine (specRunCounted_any SL L cL _ hro (by omega)).mono ?_); rintro e w8 ⟨v8, rfl, hO8, hB8⟩
        obtain ⟨E, a1, E', a2, E2, a3, e8⟩ := hO8.rc.parts
        subst e8
        have hbl := HP.bx.lt
        have hlb := HP.lb
        have B8 := HP.bx.below hB8
        have X4 := X4.below hB8
        have HO := HO.trans (Only.of_below hB8)
        have HR := HR.below hB8
        obtain ⟨bs8, HP8⟩ := CX.store (lo := w.heap.size + 1) B8 hO8 hbl hlb
        have x0 := B8.c 0 _ rfl
        have x1 := B8.c 1 _ rfl
        have x2 := B8.c 2 _ rfl
        have f0 := B8.f 0
        have f1 := B8.f 1
        have f2 := B8.f 2
        have hg2 := HR.lt
        have HP8 := Lib.hid HP8
        have nw : w.heap.size ≠ b6 := by omega
        clear HP hO8 hB8 B8 hro
        go_wp2_with fail
        go_meet
        exact ⟨runCountM L, E, a1, E', a2, E2, a3, bs8, HP8.out, HOK, ((X4.other nw _ _).other nw _ _).other nw _ _, (by repeat (first | (with_reducible assumption) | (with_reducible refine Only.drew ?_) | (with_reducible refine Only.alloc ?_ _) | (refine Only.setCell ?_ (.inr (by simp only; omega)) _))), (HR.keep (by repeat (first | (with_reducible exact Below.refl _ _) | (with_reducible refine Below.drew ?_) | ((with_reducible refine Below.allocc ?_ ?_ _); focus (first | omega | (simp; done) | (simp; omega))) | (refine Below.setCell ?_ (by simp only; omega) _)))).le (by omega)⟩
      · have hm1 : ¬ ((m : Int) = 0) := by omega
        go_wp2_with fail
        go_meet
        exact ⟨⟨hm, refCM hm⟩, A, c, A', c', S, k, bs, HP, okc_ref hm, X4, HO, HR.le (by omega)⟩
    case rest =>
      clear HP X4 HO HR hm3
      obtain ⟨p, A, c, A', c', S, k, bs, HP, HOK, X4, HO, HR⟩ := hcut
      have HOK : Hid (p.counts.length ≤ 1048576 ∧ ∀ x ∈ p.counts, 0 ≤ x ∧ x ≤ 124) := HOK.out
      have HN : Hid (b6 ≠ w.heap.size ∧ w.heap.size ≠ b6) := ⟨by have := HP.lb; omega, by have := HP.lb; omega⟩
      by_cases hl0 : p.counts.length = 0
      · have q0 := HP.bx.c 0 _ rfl; have q1 := HP.bx.c 1 _ rfl; have q2 := HP.bx.c 2 _ rfl; have z0 := X4.c 0 _ rfl; have z1 := X4.c 1 _ rfl; have z2 := X4.c 2 _ rfl; have zf0 := X4.f 0; have zf1 := X4.f 1; have zf2 := X4.f 2; have n1 := HN.out.1; have n2 := HN.out.2
        have hl1 : ¬ ((0 : Int) < (p.counts.length : Int)) := by omega
        clear hl0
        go_wp2_with fail
        refine bodyPost_ret (v := .agg #[.slice A p.store.cells.length c, .slice A' p.store.roots.length c', .slice S p.counts.length k]) (by simp [results, Try.results23, go_sem, q0, q1, q2, z0, z1, z2, n1, n2]) rfl ⟨_, rfl, ⟨_, ((HP.kbc.only (S := [w.heap.size]) (by repeat (first | (with_reducible exact Only.refl _ _) | (with_reducible refine Only.drew ?_) | (refine Only.setCell ?_ (.inl (by simp)) _))) (fun x hx hc => by have := HP.mem hx; simp at hc; omega)).sq (fun x hx => by have := HP.mem hx; omega))⟩, ?_, ?_⟩
        · exact (by repeat (first | (with_reducible assumption) | (with_reducible refine Only.drew ?_) | (with_reducible refine Only.alloc ?_ _) | (refine Only.setCell ?_ (.inr (by simp only; omega)) _)))
        · exact (HR.keep (by repeat (first | (with_reducible exact Below.refl _ _) | (with_reducible refine Below.drew ?_) | ((with_reducible refine Below.allocc ?_ ?_ _); focus (first | omega | (simp; done) | (simp; omega))) | (refine Below.setCell ?_ (by simp only; omega) _)))).le (by omega)
      have hl1 : (0 : Int) < (p.counts.length : Int) := by omega
      have q2 := HP.bx.c 2 _ rfl
      have hx4 := X4.lt
      go_wp2_with fail
      (with_reducible refine (odd_any lo g (K + 200) n _ (HR.le (by omega)) hn1 hn2).mono ?_); rintro e w9 ⟨b, rfl, -, hO1, HR⟩
      have HP := HP.only hO1 (by omega)
      have X4 := X4.only hO1 (by simp; omega)
      have HO := HO.trans hO1
      clear hO1 q2
      cases b with
      | false =>
        have q0 := HP.bx.c 0 _ rfl; have q1 := HP.bx.c 1 _ rfl; have q2 := HP.bx.c 2 _ rfl; have z0 := X4.c 0 _ rfl; have z1 := X4.c 1 _ rfl; have z2 := X4.c 2 _ rfl; have zf0 := X4.f 0; have zf1 := X4.f 1; have zf2 := X4.f 2; have n1 := HN.out.1; have n2 := HN.out.2
        go_wp2_with fail
        refine bodyPost_ret (v := .agg #[.slice A p.store.cells.length c, .slice A' p.store.roots.length c', .slice S p.counts.length k]) (by simp [results, Try.results23, go_sem, q0, q1, q2, z0, z1, z2, n1, n2]) rfl ⟨_, rfl, ⟨_, ((HP.kbc.only (S := [w.heap.size]) (by repeat (first | (with_reducible exact Only.refl _ _) | (with_reducible refine Only.drew ?_) | (refine Only.setCell ?_ (.inl (by simp)) _))) (fun x hx hc => by have := HP.mem hx; simp at hc; omega)).sq (fun x hx => by have := HP.mem hx; omega))⟩, ?_, ?_⟩
        · exact (by repeat (first | (with_reducible assumption) | (with_reducible refine Only.drew ?_) | (with_reducible refine Only.alloc ?_ _) | (refine Only.setCell ?_ (.inr (by simp only; omega)) _)))
        · exact (HR.keep (by repeat (first | (with_reducible exact Below.refl _ _) | (with_reducible refine Below.drew ?_) | ((with_reducible refine Below.allocc ?_ ?_ _); focus (first | omega | (simp; done) | (simp; omega))) | (refine Below.setCell ?_ (by simp only; omega) _)))).le (by omega)
      | true =>
        go_wp2_with fail
        (with_reducible refine (pick_any lo g (K + 100) 2 _ (HR.le (by omega)) (by omega) (by omega)).mono ?_); rintro e w10 ⟨m, rfl, hm2, -, hO1, HR⟩
        have hm3 := hm2 (by omega)
        have HP := HP.only hO1 (by omega)
        have X4 := X4.only hO1 (by simp; omega)
        have HO := HO.trans hO1
        clear hO1 hm2
        rcases (by omega : m = 0 ∨ m = 1) with rfl | rfl
        · have q2 := HP.bx.c 2 _ rfl
          have hx10 := X4.lt
          go_wp2_with fail
          (with_reducible refine (pick_any lo g (K + 80) p.counts.length _ (HR.le (by omega)) (by omega) (by have := HOK.out.1; omega)).mono ?_); rintro e w11 ⟨j, rfl, hj, -, hO1, HR⟩
          have hj1 := hj (by omega)
          have HP := HP.only hO1 (by omega)
          have X4 := X4.only hO1 (by simp; omega)
          have HO := HO.trans hO1
          clear hO1 q2 hj
          have j0 : (0 : Int) ≤ (j : Int) := by omega
          obtain ⟨gs, rfl, hgs⟩ := HP.cts.some_ (j := j) (by omega)
          obtain ⟨y, hy⟩ : ∃ y, p.counts[j]? = some y := ⟨p.counts[j]'(by omega), List.getElem?_eq_getElem _⟩
          have m1 : w11.cell? ⟨gs, j, none⟩ = some (.int .i64 y) := HP.cts.cell hy
          have f1 := HP.cts.frozen j
          have hyb := HOK.out.2 y (List.mem_of_getElem? hy)
          have hy1 : y + 1 < 9223372036854775807 := by omega
          have hy2 : -9223372036854775808 ≤ y + 1 := by omega
          have HP2 := HP.inc j (y + 1)
          have hga : w.heap.size + 1 ≤ gs ∧ gs ≠ b6 := HP.los gs (.inr (by simp [blk]))
          have q0 := HP.bx.c 0 _ rfl; have q1 := HP.bx.c 1 _ rfl; have q2 := HP.bx.c 2 _ rfl; have z0 := X4.c 0 _ rfl; have z1 := X4.c 1 _ rfl; have z2 := X4.c 2 _ rfl; have zf0 := X4.f 0; have zf1 := X4.f 1; have zf2 := X4.f 2; have n1 := HN.out.1; have n2 := HN.out.2
          clear hy
          have n3 : b6 ≠ gs := by omega
          have n4 : w.heap.size ≠ gs := by omega
          go_wp2_with fail
          go_still_tail 9, (by kernel_rfl)
          change wpList _ _ _ _ _ w11.drew
          go_wp2_with fail
          refine bodyPost_ret (v := .agg #[.slice A p.store.cells.length c, .slice A' p.store.roots.length c', .slice (some ⟨gs, 0, none⟩) p.counts.length k]) (by simp [results, Try.results23, go_sem, q0, q1, q2, z0, z1, z2, n1, n2, n3, n4]) rfl ⟨_, rfl, ⟨_, ((HP2.only (S := [w.heap.size]) (by repeat (first | (with_reducible exact Only.refl _ _) | (with_reducible refine Only.drew ?_) | (refine Only.setCell ?_ (.inl (by simp)) _))) (fun x hx hc => by have := HP.mem hx; simp at hc; omega)).sq (fun x hx => by have := HP.mem hx; omega))⟩, ?_, ?_⟩
          · exact (by repeat (first | (with_reducible assumption) | (with_reducible refine Only.drew ?_) | (with_reducible refine Only.alloc ?_ _) | (refine Only.setCell ?_ (.inr (by simp only; omega)) _)))
          · exact (HR.keep (by repeat (first | (with_reducible exact Below.refl _ _) | (with_reducible refine Below.drew ?_) | ((with_reducible refine Below.allocc ?_ ?_ _); focus (first | omega | (simp; done) | (simp; omega))) | (refine Below.setCell ?_ (by simp only; omega) _)))).le (by omega)
        · obtain ⟨gs, rfl, hgs⟩ := HP.cts.some_ (j := 0) (by omega)
          have hga : w.heap.size + 1 ≤ gs ∧ gs ≠ b6 := HP.los gs (.inr (by simp [blk]))
          have hxl1 : (1 : Int) ≤ (p.counts.length : Int) := by omega
          have hcap : p.counts.length ≤ k := by
            rcases ownsRow_block HP.cts with ⟨h9, -⟩ | ⟨g9, cur, -, -, h9, -⟩
            · cases h9
            · exact h9
          have hc1 : (1 : Int) ≤ (k : Int) ∧ (p.counts.length : Int) ≤ (k : Int) := by omega
          have hb4 := X4.lt
          have hlb := HP.lb
          by_cases hone : k = 1
          · subst hone
            have hx1 : Hid (p.counts.length = 1) := by unfold Hid; omega
            have q0 := HP.bx.c 0 _ rfl; have q1 := HP.bx.c 1 _ rfl; have q2 := HP.bx.c 2 _ rfl; have z0 := X4.c 0 _ rfl; have z1 := X4.c 1 _ rfl; have z2 := X4.c 2 _ rfl; have zf0 := X4.f 0; have zf1 := X4.f 1; have zf2 := X4.f 2; have n1 := HN.out.1; have n2 := HN.out.2
            rw [hx1.out] at q2
            have bf2 := HP.bx.f 2
            clear hxl1 hcap hc1
            go_wp2_with fail
            refine bodyPost_ret (v := .agg #[.slice A p.store.cells.length c, .slice A' p.store.roots.length c', .slice (some ⟨gs, 0, none⟩) 0 0]) (by simp [results, Try.results23, go_sem, q0, q1, q2, z0, z1, z2, n1, n2]) rfl ⟨_, rfl, ⟨_, (((HP.kb0 (n := 0) (k2 := 0) (j := 0) hx1.out rfl).only (S := [w.heap.size, b6]) (by repeat (first | (with_reducible exact Only.refl _ _) | (with_reducible refine Only.drew ?_) | (refine Only.setCell ?_ (.inl (by simp)) _))) (fun x hx hc => by have := HP.mem hx; simp at hc; omega)).sq (fun x hx => by have := HP.mem hx; omega))⟩, ?_, ?_⟩
            · exact (by repeat (first | (with_reducible assumption) | (with_reducible refine Only.drew ?_) | (with_reducible refine Only.alloc ?_ _) | (refine Only.setCell ?_ (.inr (by simp only; omega)) _)))
            · exact (HR.keep (by repeat (first | (with_reducible exact Below.refl _ _) | (with_reducible refine Below.drew ?_) | ((with_reducible refine Below.allocc ?_ ?_ _); focus (first | omega | (simp; done) | (simp; omega))) | (refine Below.setCell ?_ (by simp only; omega) _)))).le (by omega)
          have q0 := HP.bx.c 0 _ rfl; have q1 := HP.bx.c 1 _ rfl; have q2 := HP.bx.c 2 _ rfl; have z0 := X4.c 0 _ rfl; have z1 := X4.c 1 _ rfl; have z2 := X4.c 2 _ rfl; have zf0 := X4.f 0; have zf1 := X4.f 1; have zf2 := X4.f 2; have n1 := HN.out.1; have n2 := HN.out.2
          have bf2 := HP.bx.f 2
          go_wp2_with fail
          refine bodyPost_ret (v := .agg #[.slice A p.store.cells.length c, .slice A' p.store.roots.length c', .slice (some ⟨gs, 1, none⟩) (p.counts.length - 1) (k - 1)]) (by simp [results, Try.results23, go_sem, q0, q1, q2, z0, z1, z2, n1, n2]) rfl ⟨_, rfl, ⟨_, (((HP.kbt (n := p.counts.length - 1) (k2 := k - 1) (by simp)).only (S := [w.heap.size, b6]) (by repeat (first | (with_reducible exact Only.refl _ _) | (with_reducible refine Only.drew ?_) | (refine Only.setCell ?_ (.inl (by simp)) _))) (fun x hx hc => by have := HP.mem hx; simp at hc; omega)).sq (fun x hx => by have := HP.mem hx; omega))⟩, ?_, ?_⟩
          · exact (by repeat (first | (with_reducible assumption) | (with_reducible refine Only.drew ?_) | (with_reducible refine Only.alloc ?_ _) | (refine Only.setCell ?_ (.inr (by simp only; omega)) _)))
          · exact (HR.keep (by repeat (first | (with_reducible exact Below.refl _ _) | (with_reducible refine Below.drew ?_) | ((with_reducible refine Below.allocc ?_ ?_ _); focus (first | omega | (simp; done) | (simp; omega))) | (refine Below.setCell ?_ (by simp only; omega) _)))).le (by omega)
end Go.Proofs.Ytkikeanpbffpkaa

/- What the laws draw: heaps with counts and instructions, programs. -/
namespace Go.Proofs.Ytkikeanpbffpkaa
open Go.RowKit
set_option maxRecDepth 100000
set_option linter.unusedSimpArgs false
set_option linter.unusedVariables false
set_option maxHeartbeats 4000000 in
theorem drawStepCounted_any (C : Option Addr) (bs : List Int) (c : Nat) (w : World) (hr : RF fu w C bs) (hb : ∀ x ∈ bs, 0 ≤ x ∧ x < 256) (hc : bs.length ≤ c) (hc2 : c ≤ 9223372036854775807) :
    Calls Try.prog 6 #[.slice C bs.length c] w fun e w' => ∃ v p o, e = .returned (.tuple #[v, cmdV o]) ∧ RCt w' v p ∧ Below w.heap.size w w' := by
  go_enter Try.func6, Try.ntmps6
  go_wp2_with fail
  refine Calls.gen (fun W => Bx W w.heap.size [.slice none 0 0, .slice none 0 0, .slice none 0 0] ∧ Bx W (w.heap.size + 1) [.int .i64 0, .int .i64 0, .int .i64 0, .int .i64 0] ∧ Below w.heap.size w W ∧ RF fu W C bs ∧ W.heap.size = w.heap.size + 2) ⟨(Bx.new w [.slice none 0 0, .slice none 0 0, .slice none 0 0] 28).below blw_, by simpa using Bx.new (w.alloc (.cells #[.slice none 0 0, .slice none 0 0, .slice none 0 0] 28)) [.int .i64 0, .int .i64 0, .int .i64 0, .int .i64 0] 30, blw_, hr.below blw_, by simp⟩ ?_
  clear hr
  rintro W0 ⟨X2, X3, HB, hr, hz0⟩
  have zB := HB.size
  (with_reducible refine (l20Open_any C bs c _ hr hb hc hc2).mono ?_); rintro e w1 ⟨g, rfl, HR, hB⟩
  rw [hz0] at HR
  have X2 := X2.below hB
  have X3 := X3.below hB
  have HB := HB.trans (hB.mono zB)
  have hg := HR.lt
  clear hB hr zB
  go_wp2_with fail
  (with_reducible refine (l20Counted_any (w.heap.size + 2) g 1000 20 _ (HR.le (by omega)) (by omega) (by omega)).mono ?_); rintro e w2 ⟨v, rfl, ⟨p, hS⟩, hO, HR⟩
  obtain ⟨A, k1, A', k2, A2, k3, rfl⟩ := hS.now.parts
  have X2 := X2.only hO (by simp; omega)
  have X3 := X3.only hO (by simp; omega)
  have HB := HB.trans (hO.below (B := w.heap.size) HB.size (by simp; omega))
  have hz2 := hO.size
  clear hO
  go_upto_region 3 with fail
  refine Code.gen (fun W => Bx W w.heap.size [.slice none 0 0, .slice none 0 0, .slice none 0 0] ∧ Bx W (w.heap.size + 1) [.int .i64 0, .int .i64 0, .int .i64 0, .int .i64 0] ∧ Bx W w2.heap.size [.slice A p.store.cells.length k1, .slice A' p.store.roots.length k2, .slice A2 p.counts.length k3] ∧ SQ (fun W9 => RCt W9 (.agg #[.slice A p.store.cells.length k1, .slice A' p.store.roots.length k2, .slice A2 p.counts.length k3]) p) w1.heap.size W ∧ Below w.heap.size w W ∧ Rd (w.heap.size + 2) W g 1000)
    ⟨X2.below blw_, X3.below blw_, Bx.new w2 [.slice A p.store.cells.length k1, .slice A' p.store.roots.length k2, .slice A2 p.counts.length k3] 28, hS.below blw_, blw_, HR.below blw_⟩ ?_
  have hg2 : Hid (g < w1.heap.size ∧ w1.heap.size ≤ w2.heap.size ∧ w.heap.size + 2 ≤ g) := ⟨hg.1, hz2, hg.2⟩
  generalize w2.heap.size = b5 at hg2 ⊢
  clear X2 X3 hS HB HR hg hz2
  rintro W ⟨X2, X3, X5, hS, HB, HR⟩
  refine wp_region_R (by kernel_rfl) (fun R wd hR hwd => ?_)
  have hBd : Below W.heap.size W wd := by rw [hwd]; exact blw_
  have X2 := X2.below hBd
  have X3 := X3.below hBd
  have X5 := X5.below hBd
  have hS := hS.below hBd
  have HB := HB.trans (hBd.mono HB.size)
  have HR := HR.below hBd
  clear hBd hwd
  rw [hR]
  (refine wpAny_take (i := 1) (v := ?v9_1_u0) rfl (by kernel_rfl) (by kernel_rfl) (by kernel_rfl) (fun _ _ _ h => h) (Or.inl ⟨by kernel_rfl, ?h9_1_u0⟩) ?r9_1_u0; (case h9_1_u0 => (intro w9; go_simp; try with_reducible rfl)))
  rw [← hR]
  refine rel_at (fr := ?fr_0) hR (fun f W => Bx W w.heap.size [.slice none 0 0, .slice none 0 0, .slice none 0 0] ∧ Bx W (w.heap.size + 1) [.int .i64 0, .int .i64 0, .int .i64 0, .int .i64 0] ∧ Bx W b5 [.slice A p.store.cells.length k1, .slice A' p.store.roots.length k2, .slice A2 p.counts.length k3] ∧ SQ (fun W9 => RCt W9 (.agg #[.slice A p.store.cells.length k1, .slice A' p.store.roots.length k2, .slice A2 p.counts.length k3]) p) w1.heap.size W ∧ Below w.heap.size w W ∧ Rd (w.heap.size + 2) W g (16 * f)) [(fun v W => v = .agg #[.slice A p.store.cells.length k1, .slice A' p.store.roots.length k2, .slice A2 p.counts.length k3]), tt, (fun v W => ∃ o : CmdM, v = cmdV o), tt, tt] (fun W W' => Only [g] W W') [(0, []), (2, []), (3, [0, 2]), (4, [0, 2])] [(10, 0), (12, 2)] [0, 2] #[true, true, true, false, false] 4 2 (by kernel_rfl) (by kernel_rfl) ?hfr_0 ?h0_0 ?mono_0 ?steps_0 ?_
  case hfr_0 => intro x; (simp [frOf, fill, Act.put, List.lookup]; with_reducible rfl)
  case h0_0 => exact ⟨X2, X3, X5, hS, HB, HR.le (by omega)⟩
  case mono_0 => exact (Pm.cons (fun _ _ _ _ h => h) (Pm.cons (fun _ _ _ _ h => h) (Pm.cons (fun _ _ _ _ h => h) (Pm.cons (fun _ _ _ _ h => h) (Pm.cons (fun _ _ _ _ h => h) Pm.nil)))))
  case steps_0 =>
    refine Steps.cons (RStep.of rfl fun x W f hI hD K9 hK => ?_) ?_
    · clear hD
      have c0 := hI.2.2.1.c 0 _ rfl
      have c1 := hI.2.2.1.c 1 _ rfl
      have c2 := hI.2.2.1.c 2 _ rfl
      go_simp
      exact hK (.agg #[.slice A p.store.cells.length k1, .slice A' p.store.roots.length k2, .slice A2 p.counts.length k3]) _ _ (by kernel_rfl) (Only.refl _ _) (⟨hI.1, hI.2.1, hI.2.2.1, hI.2.2.2.1, hI.2.2.2.2.1, hI.2.2.2.2.2.le (by omega)⟩) rfl
    refine Steps.cons (RStep.of rfl fun x W f hI hD K9 hK => ?_) ?_
    · clear hD
      have hg9 := hg2.out
      go_wp2_with fail
      (with_reducible refine (l20Command_any (w.heap.size + 2) g (16 * f) 14 _ (hI.2.2.2.2.2.le (by omega)) (by omega) (by omega)).mono ?_)
      rintro e w6 ⟨o, rfl, -, hO, hR6⟩
      exact hK (cmdV o) _ _ (by kernel_rfl) hO ⟨hI.1.only hO (by simp; omega), hI.2.1.only hO (by simp; omega), hI.2.2.1.only hO (by simp; omega), hI.2.2.2.1.only hO (by simp; omega), hI.2.2.2.2.1.trans (hO.below (B := w.heap.size) hI.2.2.2.2.1.size (by simp; omega)), hR6⟩ ⟨o, rfl⟩
    exact Steps.nil
  intro x W hI hV
  have e0 : x 0 = .agg #[.slice A p.store.cells.length k1, .slice A' p.store.roots.length k2, .slice A2 p.counts.length k3] := hV 0 (by decide)
  have h2 : (fun v W => ∃ o : CmdM, v = cmdV o) (x 2) W := hV 2 (by decide)
  clear hV
  simp only [e0]
  obtain ⟨o, e2⟩ := h2
  simp only [e2, cmdV]
  obtain ⟨X2, X3, -, hS, HB, -⟩ := hI
  have q0 := X2.c 0 _ rfl
  have qf0 := X2.f 0
  have q1 := X2.c 1 _ rfl
  have qf1 := X2.f 1
  have q2 := X2.c 2 _ rfl
  have qf2 := X2.f 2
  have r0 := X3.c 0 _ rfl
  have rf0 := X3.f 0
  have r1 := X3.c 1 _ rfl
  have rf1 := X3.f 1
  have r2 := X3.c 2 _ rfl
  have rf2 := X3.f 2
  have r3 := X3.c 3 _ rfl
  have rf3 := X3.f 3
  have n1 : w.heap.size ≠ w.heap.size + 1 := by omega
  have n2 : w.heap.size + 1 ≠ w.heap.size := by omega
  rw [hR]
  refine wpAny_ready (rs := [3]) (by kernel_rfl) (by simp) ?_
  refine AllReady.cons rfl (fun K9 hK9 => ?_) AllReady.nil
  go_simp
  refine hK9 _ _ ?_
  clear hK9
  refine wpAny_ready (rs := [4]) (by kernel_rfl) (by simp) ?_
  refine AllReady.cons rfl (fun K9 hK9 => ?_) AllReady.nil
  go_simp
  refine hK9 _ _ ?_
  clear hK9
  refine wpAny_done (by kernel_rfl) ?_ _
  go_wp2_with fail
  refine bodyPost_ret (v := .tuple #[.agg #[.slice A p.store.cells.length k1, .slice A' p.store.roots.length k2, .slice A2 p.counts.length k3], cmdV o]) (by simp [results, Try.results6, go_sem, q0, q1, q2, r0, r1, r2, r3, n1, n2, cmdV]) rfl ⟨_, p, o, rfl, ?_, ?_⟩
  · refine SQ.now (lo := w1.heap.size) (SQ.only (S := [w.heap.size, w.heap.size + 1]) hS ?_ ?_)
    · exact (by repeat (first | (with_reducible exact Only.refl _ _) | (refine Only.setCell ?_ (.inl (by simp)) _)))
    · have := hg2.out; simp; omega
  · exact blw_
set_option maxHeartbeats 4000000 in
theorem drawRunCounted_any (C : Option Addr) (bs : List Int) (c : Nat) (w : World) (hr : RF fu w C bs) (hb : ∀ x ∈ bs, 0 ≤ x ∧ x < 256) (hc : bs.length ≤ c) (hc2 : c ≤ 9223372036854775807) :
    Calls Try.prog 14 #[.slice C bs.length c] w fun e w' => ∃ L S cS, e = .returned (.slice S (L : List CmdM).length cS) ∧ OO w' S cS L ∧ (∀ b ∈ blk S, w.heap.size ≤ b) ∧ L.length ≤ 41 ∧ Below w.heap.size w w' := by
  go_enter Try.func14, Try.ntmps14
  go_wp2_with fail
  (with_reducible refine (l20Open_any C bs c _ hr hb hc hc2).mono ?_); rintro e w1 ⟨g, rfl, hR, hB1⟩
  have HR := Lib.hid hR
  have hg := hR.lt
  have hz1 := hB1.size
  have HB1 := Lib.hid hB1
  clear hR hB1
  go_wp2_with fail
  (with_reducible refine (l20Program_any w.heap.size g 1000 14 _ (HR.out.le (by omega)) (by omega) (by omega)).mono ?_); rintro e w2 ⟨L, S, cS, rfl, hS, hSB, hL, -, hO, -⟩
  have HS := Lib.hid hS
  have HSB := Lib.hid hSB
  have HB2 : Hid (Below w.heap.size w w2) := HB1.out.trans (hO.below (by omega) (by simp; omega))
  clear hS hSB hO
  go_wp2_with fail
  go_ret
  exact ⟨L, S, cS, rfl, HS.out, fun b hb9 => Nat.le_trans hz1 (HSB.out b hb9), hL, HB2.out⟩
end Go.Proofs.Ytkikeanpbffpkaa
