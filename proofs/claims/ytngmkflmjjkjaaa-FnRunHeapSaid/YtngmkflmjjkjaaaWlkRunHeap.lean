/- FnRunHeap: the law's call returns true. -/
import Derived.Test.YtngmkflmjjkjaaaChecked
import Derived.Deep.QuietTactic
import Derived.BigQuiet
import Derived.Deep.RegionWith
import Derived.Test.YtngmkflmjjkjaaaDraw6
import Derived.Test.YtngmkflmjjkjaaaGrMark
import Derived.Test.YtngmkflmjjkjaaaSame
import Derived.Test.YtngmkflmjjkjaaaAlive
import Derived.Test.YtngmkflmjjkjaaaRunH
import Derived.Test.YtngmkflmjjkjaaaStepH
import Derived.Test.YtngmkflmjjkjaaaCmdsV
import Derived.Test.YtngmkflmjjkjaaaGrHeap
import Derived.Test.YtngmkflmjjkjaaaLawH
namespace Go.Proofs.Ytngmkflmjjkjaaa
open Go.RowKit
set_option maxRecDepth 100000
set_option linter.unusedSimpArgs false
set_option linter.unusedVariables false
structure Box2 (lo : Nat) (W : World) (b : Nat) : Prop where
  c0 : W.cell? ⟨b, 0, none⟩ = some (.slice none 0 0)
  c1 : W.cell? ⟨b, 1, none⟩ = some (.slice none 0 0)
  fz : ∀ o, W.frozen? ⟨b, o, none⟩ = false
  ge : lo ≤ b
  lt : b < W.heap.size
theorem Box2.below {lo b : Nat} {W W' : World} (h : Box2 lo W b) (hB : Below W.heap.size W W') : Box2 lo W' b :=
  ⟨cell_below h.c0 hB, cell_below h.c1 hB, fun o => ((bcell hB).2.1 _ o h.lt).trans (h.fz o), h.ge, Nat.lt_of_lt_of_le h.lt hB.size⟩
theorem Box2.new {lo : Nat} {W : World} (h : lo ≤ W.heap.size) (T : TypeId) : Box2 lo (W.alloc (.cells #[.slice none 0 0, .slice none 0 0] T (0, 0))) W.heap.size :=
  ⟨by simp [go_sem], by simp [go_sem], fun o => by simp [go_sem], h, by simp⟩
theorem wp_gen9 {P : Program} {cd : Code} {Q : Exit → Act → World → Prop} {a : Act} {w : World} (F : World → Prop) (hF : F w) (h : ∀ W, F W → cd.wp P Q a W) : cd.wp P Q a w := h w hF
structure RunFx (w : World) (bx : Nat) (v0 v1 : Value) (h : HeapM) (S : Option Addr) (cS : Nat) (L : List CmdM) (W : World) : Prop where
  c0 : W.cell? ⟨bx, 0, none⟩ = some v0
  c1 : W.cell? ⟨bx, 1, none⟩ = some v1
  lt : bx < W.heap.size
  v : RH W (.agg #[v0, v1]) h
  s : OO W S cS L
  b : Below w.heap.size w W
theorem RunFx.below {w : World} {bx : Nat} {v0 v1 : Value} {h : HeapM} {S : Option Addr} {cS : Nat} {L : List CmdM} {W W' : World} (f : RunFx w bx v0 v1 h S cS L W) (hB : Below W.heap.size W W') : RunFx w bx v0 v1 h S cS L W' :=
  ⟨cell_below f.c0 hB, cell_below f.c1 hB, Nat.lt_of_lt_of_le f.lt hB.size, f.v.below hB, f.s.below hB, f.b.trans (hB.mono f.b.size)⟩
set_option maxHeartbeats 4000000 in
theorem walkRunHeap (C : Option Addr) (bs : List Int) (c : Nat) (w : World) (hr : RF fu w C bs) (hb : ∀ x ∈ bs, 0 ≤ x ∧ x < 256) (hc : bs.length ≤ c) (hc2 : c ≤ 9223372036854775807) :
    Calls Try.prog 3 #[.slice C bs.length c] w fun e w' => e = .returned (.bool true) ∧ Below w.heap.size w w' := by
  by_cases hbig : 1048576 < bs.length
  · go_enter Try.func3, Try.ntmps3
    go_wp2
    go_ret
    exact ⟨rfl, (by repeat (first | ((with_reducible refine Below.setc ?_ ?_ _); focus (first | omega | (simp; done) | (simp; omega))) | ((with_reducible refine Below.allocc ?_ ?_ _); focus (first | omega | (simp; done) | (simp; omega))) | (with_reducible refine Below.drew ?_) | (with_reducible refine Below.drewn ?_) | (with_reducible assumption) | (with_reducible exact Below.refl _ _) | ((with_reducible refine Below.stepp (by with_reducible assumption) ?_ ?_); focus (first | omega | (simp; done) | (simp; omega)))))⟩
  go_enter Try.func3, Try.ntmps3
  go_wp2_with fail
  (with_reducible refine (drawRunHeap_any C bs c _ hr hb hc hc2).mono ?_); rintro e w1 ⟨L, S, cS, rfl, hS, hSB, hL, hB1⟩
  have HS := Lib.hid hS
  have HSB := Lib.hid hSB
  have HB1 := Lib.hid hB1
  have hz1 := hB1.size
  clear hS hSB hB1
  go_wp2_with fail
  (with_reducible refine (implRunHeap_any S L cS _ HS.out.ro (by omega)).mono ?_); rintro e w2 ⟨v2, rfl, oH, hB2⟩
  have HV2 := Lib.hid oH.rh
  obtain ⟨B, d, B', d', os, rfl, -⟩ := oH
  have HB2 : Hid (Below w.heap.size w w2) := HB1.out.trans (hB2.mono hz1)
  have HS2 := Lib.hid (HS.out.below hB2)
  have hz2 := hB2.size
  clear hB2
  go_wp2_with fail
  have hbx : w2.heap.size < (w2.alloc (.cells #[.slice B (runM L).cells.length d, .slice B' (runM L).roots.length d'] 28 (0, 0))).heap.size := by simp
  have HF : Hid (RunFx w w2.heap.size (.slice B (runM L).cells.length d) (.slice B' (runM L).roots.length d') (runM L) S cS L (w2.alloc (.cells #[.slice B (runM L).cells.length d, .slice B' (runM L).roots.length d'] 28 (0, 0)))) := ⟨by simp [go_sem], by simp [go_sem], hbx, HV2.out.below (by repeat (first | ((with_reducible refine Below.setc ?_ ?_ _); focus (first | omega | (simp; done) | (simp; omega))) | ((with_reducible refine Below.allocc ?_ ?_ _); focus (first | omega | (simp; done) | (simp; omega))) | (with_reducible refine Below.drew ?_) | (with_reducible refine Below.drewn ?_) | (with_reducible assumption) | (with_reducible exact Below.refl _ _) | ((with_reducible refine Below.stepp (by with_reducible assumption) ?_ ?_); focus (first | omega | (simp; done) | (simp; omega))))), HS2.out.below (by repeat (first | ((with_reducible refine Below.setc ?_ ?_ _); focus (first | omega | (simp; done) | (simp; omega))) | ((with_reducible refine Below.allocc ?_ ?_ _); focus (first | omega | (simp; done) | (simp; omega))) | (with_reducible refine Below.drew ?_) | (with_reducible refine Below.drewn ?_) | (with_reducible assumption) | (with_reducible exact Below.refl _ _) | ((with_reducible refine Below.stepp (by with_reducible assumption) ?_ ?_); focus (first | omega | (simp; done) | (simp; omega))))), HB2.out.trans (by repeat (first | ((with_reducible refine Below.setc ?_ ?_ _); focus (first | omega | (simp; done) | (simp; omega))) | ((with_reducible refine Below.allocc ?_ ?_ _); focus (first | omega | (simp; done) | (simp; omega))) | (with_reducible refine Below.drew ?_) | (with_reducible refine Below.drewn ?_) | (with_reducible assumption) | (with_reducible exact Below.refl _ _) | ((with_reducible refine Below.stepp (by with_reducible assumption) ?_ ?_); focus (first | omega | (simp; done) | (simp; omega)))))⟩
  generalize w2.heap.size = bx at HF ⊢
  refine wp_gen9 (fun W => RunFx w bx (.slice B (runM L).cells.length d) (.slice B' (runM L).roots.length d') (runM L) S cS L W) HF.out ?_
  clear HF HV2 HB2 HS2 HB1 HSB HS hbx hz1 hz2
  intro W0 hF0
  have HF0 := Lib.hid hF0
  clear hF0
  have hE : Hid (eqB (runM L) (runM L) = true) := eqB_of rfl
  refine wp_region_named (by kernel_rfl) (fun R hR => ?_)
  have n_01234 : ∀ (u : Value) (W : World), Hid (RunFx w bx (.slice B (runM L).cells.length d) (.slice B' (runM L).roots.length d') (runM L) S cS L W) → R 0 #[true, true, true, true, true] ⟨#[.slice C bs.length c, undef, .bool false, .slice S L.length cS, .pointer (some ⟨bx, 0, none⟩), undef, undef, undef, .slice C bs.length c, .int .i64 (bs.length : Int), .bool (decide (1048576 < (bs.length : Int))), .slice C bs.length c, .slice S L.length cS, .slice S L.length cS, .agg #[.slice B (runM L).cells.length d, .slice B' (runM L).roots.length d'], .agg #[.slice B (runM L).cells.length d, .slice B' (runM L).roots.length d'], .slice S L.length cS, u, .bool true, .bool false, undef, undef, undef, undef, undef, undef, undef, undef, undef, undef, undef, undef, undef, undef, undef, undef, undef, undef, undef, undef, undef, undef, undef, undef, undef, undef, undef, undef, undef, undef, undef], []⟩ W := by
    intro u W HF
    rw [hR]
    refine wpAny_done (by kernel_rfl) ?_ _
    go_wp2_with fail
    (with_reducible refine (specCommandsValid_any S L cS _ HF.out.s.ro (by omega)).mono ?_); rintro e W5 ⟨rfl, hB⟩
    have HF5 := Lib.hid (HF.out.below hB)
    clear hB
    by_cases hok : cmdsOk L = true ∧ 0 < L.length
    · obtain ⟨hok, hpos⟩ := hok
      have HOK := Lib.hid hok
      rw [hok]
      clear hok
      obtain ⟨m, hm⟩ : ∃ m, L.length = m + 1 := ⟨L.length - 1, by omega⟩
      have HM := Lib.hid hm
      have hm1 : ¬ ((L.length : Int) = 0) := by omega
      have hm2 : (L.length : Int) - 1 = (m : Int) := by omega
      have hm3 : ((m : Int) + 1) = (L.length : Int) := by omega
      clear hm
      go_wp2_with fail
      obtain ⟨o, ho⟩ : ∃ o, L[m]? = some o := ⟨L[m]'(by have := HM.out; omega), List.getElem?_eq_getElem _⟩
      have HLast : Hid ((stepM (runM (L.take m)) o).1 = runM L) := run_last HOK.out ho HM.out
      obtain ⟨gS, hgS, -⟩ := HF5.out.s.some_ hpos
      subst hgS
      have hTl : (L.take m).length = m := by have := HM.out; simp; omega
      have hmS : m ≤ cS := by have := HF5.out.s.cap_; have := HM.out; omega
      have hmL : m < L.length := by have := HM.out; omega
      have hRun : Hid (∀ W : World, OO W (some ⟨gS, 0, none⟩) cS L → Calls Try.prog 16 #[.slice (some ⟨gS, 0, none⟩) m cS] W fun e w' => ∃ v', e = .returned v' ∧ OH W.heap.size w' v' (runM (L.take m)) ∧ Below W.heap.size W w') := by
        intro W hW
        have h9 := implRunHeap_any (some ⟨gS, 0, none⟩) (L.take m) cS W (hW.take_ (by omega)).ro (by omega)
        rw [hTl] at h9
        exact h9
      clear hTl hm2 hm3 hm1
      have hz0 : ((L.length : Int) == 0) = false := by have := HM.out; rw [beq_eq_false_iff_ne]; omega
      rw [hz0]
      clear hz0
      have HFx : Hid (∀ W : World, Below W5.heap.size W5 W → RunFx w bx (.slice B (runM L).cells.length d) (.slice B' (runM L).roots.length d') (runM L) (some ⟨gS, 0, none⟩) cS L W) := fun W h => HF5.out.below h
      refine wp_region_named (by kernel_rfl) (fun R hR => ?_)
      have n_3_7_8_12 : ∀ (x36 : Value) (B2 : Option Addr) (d2 : Nat) (B2' : Option Addr) (d2' : Nat) (b2 : Bool) (lo hi : Nat) (bb : Nat) (W : World), Hid (Below W5.heap.size W5 W) → Hid (Box2 W5.heap.size W bb) → Hid (OHB lo hi W (.agg #[.slice B2 (runM L).cells.length d2, .slice B2' (runM L).roots.length d2']) (runM L)) → (bb < lo ∨ hi ≤ bb) → R 2 #[true, true, true, true, true, true, true, true, true, true, true, true, true, false, false] ⟨#[.slice C bs.length c, undef, .bool false, .slice (some ⟨gS, 0, none⟩) L.length cS, .pointer (some ⟨bx, 0, none⟩), .int .i64 (m : Int), .pointer (some ⟨bb, 0, none⟩), undef, .slice C bs.length c, .int .i64 (bs.length : Int), .bool (decide (1048576 < (bs.length : Int))), .slice C bs.length c, .slice (some ⟨gS, 0, none⟩) L.length cS, .slice (some ⟨gS, 0, none⟩) L.length cS, .agg #[.slice B (runM L).cells.length d, .slice B' (runM L).roots.length d'], .agg #[.slice B (runM L).cells.length d, .slice B' (runM L).roots.length d'], .slice (some ⟨gS, 0, none⟩) L.length cS, u, .bool true, .bool false, .slice (some ⟨gS, 0, none⟩) L.length cS, .bool true, .bool false, .bool false, .slice (some ⟨gS, 0, none⟩) L.length cS, .int .i64 (L.length : Int), .bool false, .bool false, undef, .slice (some ⟨gS, 0, none⟩) L.length cS, .int .i64 (L.length : Int), .int .i64 (m : Int), .tuple #[.agg #[.slice B2 (runM L).cells.length d2, .slice B2' (runM L).roots.length d2'], .bool b2], .slice (some ⟨gS, 0, none⟩) L.length cS, .int .i64 (m : Int), .slice (some ⟨gS, 0, none⟩) m cS, x36, .slice (some ⟨gS, 0, none⟩) L.length cS, .int .i64 (m : Int), .pointer (some ⟨gS, m * 4, none⟩), .agg #[.int .i64 o.op, .int .i64 o.a, .int .i64 o.b, .int .i64 o.c], .tuple #[.agg #[.slice B2 (runM L).cells.length d2, .slice B2' (runM L).roots.length d2'], .bool b2], .agg #[.slice B2 (runM L).cells.length d2, .slice B2' (runM L).roots.length d2'], .bool b2, undef, undef, undef, undef, undef, undef, undef], []⟩ W := by
        intro x36 B2 d2 B2' d2' b2 lo hi bb W BW HB H41 hap
        rw [hR]
        refine wpAny_ready (rs := [13]) (by kernel_rfl) (by simp) ?_
        refine AllReady.cons rfl (fun K9 hK9 => ?_) AllReady.nil
        have c0 := HB.out.c0
        have c1 := HB.out.c1
        have f0 := HB.out.fz 0
        have f1 := HB.out.fz 1
        have hge := HB.out.ge
        have hlt9 := HB.out.lt
        have BW2 : Hid (Below W5.heap.size W5 ((W.setCell ⟨bb, 0, none⟩ (.slice B2 (runM L).cells.length d2)).setCell ⟨bb, 1, none⟩ (.slice B2' (runM L).roots.length d2'))) := (BW.out.setCell (by exact hge) _).setCell (by exact hge) _
        have H42 : Hid (OHB lo hi ((W.setCell ⟨bb, 0, none⟩ (.slice B2 (runM L).cells.length d2)).setCell ⟨bb, 1, none⟩ (.slice B2' (runM L).roots.length d2')) (.agg #[.slice B2 (runM L).cells.length d2, .slice B2' (runM L).roots.length d2']) (runM L)) := H41.out.keep (fun g9 h1 h2 h3 => (heap_setCell_ne _ _ _ (show g9 ≠ bb by omega)).trans (heap_setCell_ne _ _ _ (show g9 ≠ bb by omega)))
        have HC : Hid (((W.setCell ⟨bb, 0, none⟩ (.slice B2 (runM L).cells.length d2)).setCell ⟨bb, 1, none⟩ (.slice B2' (runM L).roots.length d2')).cell? ⟨bb, 0, none⟩ = some (.slice B2 (runM L).cells.length d2) ∧ ((W.setCell ⟨bb, 0, none⟩ (.slice B2 (runM L).cells.length d2)).setCell ⟨bb, 1, none⟩ (.slice B2' (runM L).roots.length d2')).cell? ⟨bb, 1, none⟩ = some (.slice B2' (runM L).roots.length d2')) := ⟨by simp [go_sem, c0], by simp [go_sem, c1]⟩
        go_simp
        refine hK9 _ _ ?_
        clear hK9 c0 c1 f0 f1
        generalize ((W.setCell ⟨bb, 0, none⟩ (.slice B2 (runM L).cells.length d2)).setCell ⟨bb, 1, none⟩ (.slice B2' (runM L).roots.length d2')) = W8 at BW2 H42 HC ⊢
        refine wpAny_ready (rs := [14]) (by kernel_rfl) (by simp) ?_
        refine AllReady.cons rfl (fun K9 hK9 => ?_) AllReady.nil
        go_simp
        refine hK9 _ _ ?_
        clear hK9
        refine wpAny_done (by kernel_rfl) ?_ _
        have HF8 := HFx.out W8 BW2.out
        have c0 := HF8.c0
        have c1 := HF8.c1
        have q0 := HC.out.1
        have q1 := HC.out.2
        go_wp2_with fail
        (with_reducible refine (sameHeap_any _ _ (runM L) (runM L) _ H42.out.rd HF8.v).mono ?_)
        rw [hE.out]
        rintro e W9 ⟨rfl, hB9⟩
        have BW9 : Hid (Below W5.heap.size W5 W9) := BW2.out.trans (hB9.mono BW2.out.size)
        have HF9 := HFx.out W9 BW9.out
        have c2 := HF9.c0
        have c3 := HF9.c1
        have hvV : Hid (validM (runM L) = true) := valid_run HOK.out
        clear hB9 c0 c1 q0 q1
        go_wp2_with fail
        (with_reducible refine (implHeapValid_any _ (runM L) _ HF9.v).mono ?_)
        rw [hvV.out]
        rintro e W10 ⟨rfl, hB10⟩
        have HF10 := HF9.below hB10
        clear hB10
        go_wp2_with fail
        go_ret
        exact ⟨rfl, HF10.b⟩
      have N_3_7_8_12 := Lib.hid n_3_7_8_12
      clear n_3_7_8_12
      have n_3_7_8 : ∀ (x36 : Value) (B2 : Option Addr) (d2 : Nat) (B2' : Option Addr) (d2' : Nat) (b2 : Bool) (lo hi : Nat) (W : World), Hid (Below W5.heap.size W5 W) → Hid (OHB lo hi W (.agg #[.slice B2 (runM L).cells.length d2, .slice B2' (runM L).roots.length d2']) (runM L)) → hi ≤ W.heap.size → R 3 #[true, true, true, true, true, true, true, true, true, true, true, true, false, false, false] ⟨#[.slice C bs.length c, undef, .bool false, .slice (some ⟨gS, 0, none⟩) L.length cS, .pointer (some ⟨bx, 0, none⟩), .int .i64 (m : Int), undef, undef, .slice C bs.length c, .int .i64 (bs.length : Int), .bool (decide (1048576 < (bs.length : Int))), .slice C bs.length c, .slice (some ⟨gS, 0, none⟩) L.length cS, .slice (some ⟨gS, 0, none⟩) L.length cS, .agg #[.slice B (runM L).cells.length d, .slice B' (runM L).roots.length d'], .agg #[.slice B (runM L).cells.length d, .slice B' (runM L).roots.length d'], .slice (some ⟨gS, 0, none⟩) L.length cS, u, .bool true, .bool false, .slice (some ⟨gS, 0, none⟩) L.length cS, .bool true, .bool false, .bool false, .slice (some ⟨gS, 0, none⟩) L.length cS, .int .i64 (L.length : Int), .bool false, .bool false, undef, .slice (some ⟨gS, 0, none⟩) L.length cS, .int .i64 (L.length : Int), .int .i64 (m : Int), .tuple #[.agg #[.slice B2 (runM L).cells.length d2, .slice B2' (runM L).roots.length d2'], .bool b2], .slice (some ⟨gS, 0, none⟩) L.length cS, .int .i64 (m : Int), .slice (some ⟨gS, 0, none⟩) m cS, x36, .slice (some ⟨gS, 0, none⟩) L.length cS, .int .i64 (m : Int), .pointer (some ⟨gS, m * 4, none⟩), .agg #[.int .i64 o.op, .int .i64 o.a, .int .i64 o.b, .int .i64 o.c], .tuple #[.agg #[.slice B2 (runM L).cells.length d2, .slice B2' (runM L).roots.length d2'], .bool b2], .agg #[.slice B2 (runM L).cells.length d2, .slice B2' (runM L).roots.length d2'], .bool b2, undef, undef, undef, undef, undef, undef, undef], []⟩ W := by
        intro x36 B2 d2 B2' d2' b2 lo hi W BW H41 hhi
        rw [hR]
        refine wpAny_ready (rs := [12]) (by kernel_rfl) (by simp) ?_
        refine AllReady.cons rfl (fun K9 hK9 => ?_) ?_
        · go_simp
          refine hK9 _ _ ?_
          (try clear hK9)
          rw [← hR]
          exact N_3_7_8_12.out x36 B2 d2 B2' d2' b2 lo hi W.heap.size _ (Lib.hid (BW.out.alloc BW.out.size _)) (Box2.new BW.out.size _) (H41.out.below (by repeat (first | ((with_reducible refine Below.setc ?_ ?_ _); focus (first | omega | (simp; done) | (simp; omega))) | ((with_reducible refine Below.allocc ?_ ?_ _); focus (first | omega | (simp; done) | (simp; omega))) | (with_reducible refine Below.drew ?_) | (with_reducible refine Below.drewn ?_) | (with_reducible assumption) | (with_reducible exact Below.refl _ _) | ((with_reducible refine Below.stepp (by with_reducible assumption) ?_ ?_); focus (first | omega | (simp; done) | (simp; omega)))))) (.inr hhi)
        exact AllReady.nil
      have N_3_7_8 := Lib.hid n_3_7_8
      clear n_3_7_8
      have n_3_7_12 : ∀ (x36 : Value) (bb : Nat) (W : World), Hid (Below W5.heap.size W5 W) → Hid (RH W x36 (runM (L.take m))) → Hid (Box2 W5.heap.size W bb) → R 6 #[true, true, true, true, true, true, true, true, false, false, false, false, true, false, false] ⟨#[.slice C bs.length c, undef, .bool false, .slice (some ⟨gS, 0, none⟩) L.length cS, .pointer (some ⟨bx, 0, none⟩), .int .i64 (m : Int), .pointer (some ⟨bb, 0, none⟩), undef, .slice C bs.length c, .int .i64 (bs.length : Int), .bool (decide (1048576 < (bs.length : Int))), .slice C bs.length c, .slice (some ⟨gS, 0, none⟩) L.length cS, .slice (some ⟨gS, 0, none⟩) L.length cS, .agg #[.slice B (runM L).cells.length d, .slice B' (runM L).roots.length d'], .agg #[.slice B (runM L).cells.length d, .slice B' (runM L).roots.length d'], .slice (some ⟨gS, 0, none⟩) L.length cS, u, .bool true, .bool false, .slice (some ⟨gS, 0, none⟩) L.length cS, .bool true, .bool false, .bool false, .slice (some ⟨gS, 0, none⟩) L.length cS, .int .i64 (L.length : Int), .bool false, .bool false, undef, .slice (some ⟨gS, 0, none⟩) L.length cS, .int .i64 (L.length : Int), .int .i64 (m : Int), undef, .slice (some ⟨gS, 0, none⟩) L.length cS, .int .i64 (m : Int), .slice (some ⟨gS, 0, none⟩) m cS, x36, .slice (some ⟨gS, 0, none⟩) L.length cS, .int .i64 (m : Int), .pointer (some ⟨gS, m * 4, none⟩), .agg #[.int .i64 o.op, .int .i64 o.a, .int .i64 o.b, .int .i64 o.c], undef, undef, undef, undef, undef, undef, undef, undef, undef, undef], []⟩ W := by
        intro x36 bb W BW H36 HB
        rw [hR]
        refine wpAny_ready (rs := [8]) (by kernel_rfl) (by simp) ?_
        refine AllReady.cons rfl (fun K9 hK9 => ?_) ?_
        · go_wp2_with fail
          (with_reducible refine (implStepHeap_any x36 (runM (L.take m)) o _ H36.out).mono ?_); rintro e W7 ⟨x41, rfl, oX, hB⟩
          rw [HLast.out] at oX
          have ob_ := oX.toB
          obtain ⟨B2, d2, B2', d2', os2, rfl, -⟩ := oX
          (try (refine hK9 _ _ ?_))
          (try clear hK9)
          (refine wpAny_take (i := 9) (v := ?v9_11) rfl (by kernel_rfl) (by kernel_rfl) (by kernel_rfl) (fun _ _ _ h => h) (Or.inl ⟨by rfl, ?h9_11⟩) ?r9_11; (case h9_11 => (intro w9; go_simp; try with_reducible rfl)))
          (refine wpAny_take (i := 10) (v := ?v9_12) rfl (by kernel_rfl) (by kernel_rfl) (by kernel_rfl) (fun _ _ _ h => h) (Or.inl ⟨by rfl, ?h9_12⟩) ?r9_12; (case h9_12 => (intro w9; go_simp; try with_reducible rfl)))
          (refine wpAny_take (i := 11) (v := ?v9_13) rfl (by kernel_rfl) (by kernel_rfl) (by kernel_rfl) (fun _ _ _ h => h) (Or.inl ⟨by rfl, ?h9_13⟩) ?r9_13; (case h9_13 => (intro w9; go_simp; try with_reducible rfl)))
          rw [← hR]
          exact N_3_7_8_12.out x36 B2 d2 B2' d2' _ _ _ bb W7 (Lib.hid (BW.out.trans (hB.mono BW.out.size))) (Lib.hid (HB.out.below hB)) (Lib.hid ob_) (.inl HB.out.lt)
        exact AllReady.nil
      have N_3_7_12 := Lib.hid n_3_7_12
      clear n_3_7_12
      have n_3_7 : ∀ (x36 : Value) (W : World), Hid (Below W5.heap.size W5 W) → Hid (RH W x36 (runM (L.take m))) → R 7 #[true, true, true, true, true, true, true, true, false, false, false, false, false, false, false] ⟨#[.slice C bs.length c, undef, .bool false, .slice (some ⟨gS, 0, none⟩) L.length cS, .pointer (some ⟨bx, 0, none⟩), .int .i64 (m : Int), undef, undef, .slice C bs.length c, .int .i64 (bs.length : Int), .bool (decide (1048576 < (bs.length : Int))), .slice C bs.length c, .slice (some ⟨gS, 0, none⟩) L.length cS, .slice (some ⟨gS, 0, none⟩) L.length cS, .agg #[.slice B (runM L).cells.length d, .slice B' (runM L).roots.length d'], .agg #[.slice B (runM L).cells.length d, .slice B' (runM L).roots.length d'], .slice (some ⟨gS, 0, none⟩) L.length cS, u, .bool true, .bool false, .slice (some ⟨gS, 0, none⟩) L.length cS, .bool true, .bool false, .bool false, .slice (some ⟨gS, 0, none⟩) L.length cS, .int .i64 (L.length : Int), .bool false, .bool false, undef, .slice (some ⟨gS, 0, none⟩) L.length cS, .int .i64 (L.length : Int), .int .i64 (m : Int), undef, .slice (some ⟨gS, 0, none⟩) L.length cS, .int .i64 (m : Int), .slice (some ⟨gS, 0, none⟩) m cS, x36, .slice (some ⟨gS, 0, none⟩) L.length cS, .int .i64 (m : Int), .pointer (some ⟨gS, m * 4, none⟩), .agg #[.int .i64 o.op, .int .i64 o.a, .int .i64 o.b, .int .i64 o.c], undef, undef, undef, undef, undef, undef, undef, undef, undef, undef], []⟩ W := by
        intro x36 W BW H36
        rw [hR]
        refine wpAny_ready (rs := [8, 12]) (by kernel_rfl) (by simp) ?_
        refine AllReady.cons rfl (fun K9 hK9 => ?_) ?_
        · go_wp2_with fail
          (with_reducible refine (implStepHeap_any x36 (runM (L.take m)) o _ H36.out).mono ?_); rintro e W7 ⟨x41, rfl, oX, hB⟩
          rw [HLast.out] at oX
          have ob_ := oX.toB
          obtain ⟨B2, d2, B2', d2', os2, rfl, -⟩ := oX
          (try (refine hK9 _ _ ?_))
          (try clear hK9)
          (refine wpAny_take (i := 9) (v := ?v9_31) rfl (by kernel_rfl) (by kernel_rfl) (by kernel_rfl) (fun _ _ _ h => h) (Or.inl ⟨by rfl, ?h9_31⟩) ?r9_31; (case h9_31 => (intro w9; go_simp; try with_reducible rfl)))
          (refine wpAny_take (i := 10) (v := ?v9_32) rfl (by kernel_rfl) (by kernel_rfl) (by kernel_rfl) (fun _ _ _ h => h) (Or.inl ⟨by rfl, ?h9_32⟩) ?r9_32; (case h9_32 => (intro w9; go_simp; try with_reducible rfl)))
          (refine wpAny_take (i := 11) (v := ?v9_33) rfl (by kernel_rfl) (by kernel_rfl) (by kernel_rfl) (fun _ _ _ h => h) (Or.inl ⟨by rfl, ?h9_33⟩) ?r9_33; (case h9_33 => (intro w9; go_simp; try with_reducible rfl)))
          rw [← hR]
          exact N_3_7_8.out x36 B2 d2 B2' d2' _ _ _ W7 (Lib.hid (BW.out.trans (hB.mono BW.out.size))) (Lib.hid ob_) (Nat.le_refl _)
        refine AllReady.cons rfl (fun K9 hK9 => ?_) ?_
        · go_simp
          refine hK9 _ _ ?_
          (try clear hK9)
          rw [← hR]
          exact N_3_7_12.out x36 W.heap.size _ (Lib.hid (BW.out.alloc BW.out.size _)) (H36.out.below (by repeat (first | ((with_reducible refine Below.setc ?_ ?_ _); focus (first | omega | (simp; done) | (simp; omega))) | ((with_reducible refine Below.allocc ?_ ?_ _); focus (first | omega | (simp; done) | (simp; omega))) | (with_reducible refine Below.drew ?_) | (with_reducible refine Below.drewn ?_) | (with_reducible assumption) | (with_reducible exact Below.refl _ _) | ((with_reducible refine Below.stepp (by with_reducible assumption) ?_ ?_); focus (first | omega | (simp; done) | (simp; omega)))))) (Box2.new BW.out.size _)
        exact AllReady.nil
      have N_3_7 := Lib.hid n_3_7
      clear n_3_7
      have n_3_12 : ∀ (x36 : Value) (bb : Nat) (W : World), Hid (Below W5.heap.size W5 W) → Hid (RH W x36 (runM (L.take m))) → Hid (Box2 W5.heap.size W bb) → R 7 #[true, true, true, true, true, true, true, false, false, false, false, false, true, false, false] ⟨#[.slice C bs.length c, undef, .bool false, .slice (some ⟨gS, 0, none⟩) L.length cS, .pointer (some ⟨bx, 0, none⟩), .int .i64 (m : Int), .pointer (some ⟨bb, 0, none⟩), undef, .slice C bs.length c, .int .i64 (bs.length : Int), .bool (decide (1048576 < (bs.length : Int))), .slice C bs.length c, .slice (some ⟨gS, 0, none⟩) L.length cS, .slice (some ⟨gS, 0, none⟩) L.length cS, .agg #[.slice B (runM L).cells.length d, .slice B' (runM L).roots.length d'], .agg #[.slice B (runM L).cells.length d, .slice B' (runM L).roots.length d'], .slice (some ⟨gS, 0, none⟩) L.length cS, u, .bool true, .bool false, .slice (some ⟨gS, 0, none⟩) L.length cS, .bool true, .bool false, .bool false, .slice (some ⟨gS, 0, none⟩) L.length cS, .int .i64 (L.length : Int), .bool false, .bool false, undef, .slice (some ⟨gS, 0, none⟩) L.length cS, .int .i64 (L.length : Int), .int .i64 (m : Int), undef, .slice (some ⟨gS, 0, none⟩) L.length cS, .int .i64 (m : Int), .slice (some ⟨gS, 0, none⟩) m cS, x36, .slice (some ⟨gS, 0, none⟩) L.length cS, .int .i64 (m : Int), .pointer (some ⟨gS, m * 4, none⟩), undef, undef, undef, undef, undef, undef, undef, undef, undef, undef, undef], []⟩ W := by
        intro x36 bb W BW H36 HB
        rw [hR]
        refine wpAny_ready (rs := [7]) (by kernel_rfl) (by simp) ?_
        refine AllReady.cons rfl (fun K9 hK9 => ?_) ?_
        · obtain ⟨g9, e9, k0, k1, k2, k3, -⟩ := (HFx.out _ BW.out).s.at_ ho
          injection e9 with e9
          injection e9 with e9
          subst e9
          go_simp
          refine hK9 _ _ ?_
          (try clear hK9)
          rw [← hR]
          exact N_3_7_12.out x36 bb W BW H36 HB
        exact AllReady.nil
      have N_3_12 := Lib.hid n_3_12
      clear n_3_12
      have n_7_12 : ∀ (bb : Nat) (W : World), Hid (Below W5.heap.size W5 W) → Hid (Box2 W5.heap.size W bb) → R 7 #[true, true, true, false, true, true, true, true, false, false, false, false, true, false, false] ⟨#[.slice C bs.length c, undef, .bool false, .slice (some ⟨gS, 0, none⟩) L.length cS, .pointer (some ⟨bx, 0, none⟩), .int .i64 (m : Int), .pointer (some ⟨bb, 0, none⟩), undef, .slice C bs.length c, .int .i64 (bs.length : Int), .bool (decide (1048576 < (bs.length : Int))), .slice C bs.length c, .slice (some ⟨gS, 0, none⟩) L.length cS, .slice (some ⟨gS, 0, none⟩) L.length cS, .agg #[.slice B (runM L).cells.length d, .slice B' (runM L).roots.length d'], .agg #[.slice B (runM L).cells.length d, .slice B' (runM L).roots.length d'], .slice (some ⟨gS, 0, none⟩) L.length cS, u, .bool true, .bool false, .slice (some ⟨gS, 0, none⟩) L.length cS, .bool true, .bool false, .bool false, .slice (some ⟨gS, 0, none⟩) L.length cS, .int .i64 (L.length : Int), .bool false, .bool false, undef, .slice (some ⟨gS, 0, none⟩) L.length cS, .int .i64 (L.length : Int), .int .i64 (m : Int), undef, .slice (some ⟨gS, 0, none⟩) L.length cS, .int .i64 (m : Int), .slice (some ⟨gS, 0, none⟩) m cS, undef, .slice (some ⟨gS, 0, none⟩) L.length cS, .int .i64 (m : Int), .pointer (some ⟨gS, m * 4, none⟩), .agg #[.int .i64 o.op, .int .i64 o.a, .int .i64 o.b, .int .i64 o.c], undef, undef, undef, undef, undef, undef, undef, undef, undef, undef], []⟩ W := by
        intro bb W BW HB
        rw [hR]
        refine wpAny_ready (rs := [3]) (by kernel_rfl) (by simp) ?_
        refine AllReady.cons rfl (fun K9 hK9 => ?_) ?_
        · go_wp2_with fail
          (with_reducible refine (hRun.out _ (HFx.out _ BW.out).s).mono ?_); rintro e W6 ⟨x36, rfl, oU, hB⟩
          (try (refine hK9 _ _ ?_))
          (try clear hK9)
          rw [← hR]
          exact N_3_7_12.out x36 bb W6 (Lib.hid (BW.out.trans (hB.mono BW.out.size))) (Lib.hid oU.rh) (Lib.hid (HB.out.below hB))
        exact AllReady.nil
      have N_7_12 := Lib.hid n_7_12
      clear n_7_12
      have n_3 : ∀ (x36 : Value) (W : World), Hid (Below W5.heap.size W5 W) → Hid (RH W x36 (runM (L.take m))) → R 8 #[true, true, true, true, true, true, true, false, false, false, false, false, false, false, false] ⟨#[.slice C bs.length c, undef, .bool false, .slice (some ⟨gS, 0, none⟩) L.length cS, .pointer (some ⟨bx, 0, none⟩), .int .i64 (m : Int), undef, undef, .slice C bs.length c, .int .i64 (bs.length : Int), .bool (decide (1048576 < (bs.length : Int))), .slice C bs.length c, .slice (some ⟨gS, 0, none⟩) L.length cS, .slice (some ⟨gS, 0, none⟩) L.length cS, .agg #[.slice B (runM L).cells.length d, .slice B' (runM L).roots.length d'], .agg #[.slice B (runM L).cells.length d, .slice B' (runM L).roots.length d'], .slice (some ⟨gS, 0, none⟩) L.length cS, u, .bool true, .bool false, .slice (some ⟨gS, 0, none⟩) L.length cS, .bool true, .bool false, .bool false, .slice (some ⟨gS, 0, none⟩) L.length cS, .int .i64 (L.length : Int), .bool false, .bool false, undef, .slice (some ⟨gS, 0, none⟩) L.length cS, .int .i64 (L.length : Int), .int .i64 (m : Int), undef, .slice (some ⟨gS, 0, none⟩) L.length cS, .int .i64 (m : Int), .slice (some ⟨gS, 0, none⟩) m cS, x36, .slice (some ⟨gS, 0, none⟩) L.length cS, .int .i64 (m : Int), .pointer (some ⟨gS, m * 4, none⟩), undef, undef, undef, undef, undef, undef, undef, undef, undef, undef, undef], []⟩ W := by
        intro x36 W BW H36
        rw [hR]
        refine wpAny_ready (rs := [7, 12]) (by kernel_rfl) (by simp) ?_
        refine AllReady.cons rfl (fun K9 hK9 => ?_) ?_
        · obtain ⟨g9, e9, k0, k1, k2, k3, -⟩ := (HFx.out _ BW.out).s.at_ ho
          injection e9 with e9
          injection e9 with e9
          subst e9
          go_simp
          refine hK9 _ _ ?_
          (try clear hK9)
          rw [← hR]
          exact N_3_7.out x36 W BW H36
        refine AllReady.cons rfl (fun K9 hK9 => ?_) ?_
        · go_simp
          refine hK9 _ _ ?_
          (try clear hK9)
          rw [← hR]
          exact N_3_12.out x36 W.heap.size _ (Lib.hid (BW.out.alloc BW.out.size _)) (H36.out.below (by repeat (first | ((with_reducible refine Below.setc ?_ ?_ _); focus (first | omega | (simp; done) | (simp; omega))) | ((with_reducible refine Below.allocc ?_ ?_ _); focus (first | omega | (simp; done) | (simp; omega))) | (with_reducible refine Below.drew ?_) | (with_reducible refine Below.drewn ?_) | (with_reducible assumption) | (with_reducible exact Below.refl _ _) | ((with_reducible refine Below.stepp (by with_reducible assumption) ?_ ?_); focus (first | omega | (simp; done) | (simp; omega)))))) (Box2.new BW.out.size _)
        exact AllReady.nil
      have N_3 := Lib.hid n_3
      clear n_3
      have n_7 : ∀ (W : World), Hid (Below W5.heap.size W5 W) → R 8 #[true, true, true, false, true, true, true, true, false, false, false, false, false, false, false] ⟨#[.slice C bs.length c, undef, .bool false, .slice (some ⟨gS, 0, none⟩) L.length cS, .pointer (some ⟨bx, 0, none⟩), .int .i64 (m : Int), undef, undef, .slice C bs.length c, .int .i64 (bs.length : Int), .bool (decide (1048576 < (bs.length : Int))), .slice C bs.length c, .slice (some ⟨gS, 0, none⟩) L.length cS, .slice (some ⟨gS, 0, none⟩) L.length cS, .agg #[.slice B (runM L).cells.length d, .slice B' (runM L).roots.length d'], .agg #[.slice B (runM L).cells.length d, .slice B' (runM L).roots.length d'], .slice (some ⟨gS, 0, none⟩) L.length cS, u, .bool true, .bool false, .slice (some ⟨gS, 0, none⟩) L.length cS, .bool true, .bool false, .bool false, .slice (some ⟨gS, 0, none⟩) L.length cS, .int .i64 (L.length : Int), .bool false, .bool false, undef, .slice (some ⟨gS, 0, none⟩) L.length cS, .int .i64 (L.length : Int), .int .i64 (m : Int), undef, .slice (some ⟨gS, 0, none⟩) L.length cS, .int .i64 (m : Int), .slice (some ⟨gS, 0, none⟩) m cS, undef, .slice (some ⟨gS, 0, none⟩) L.length cS, .int .i64 (m : Int), .pointer (some ⟨gS, m * 4, none⟩), .agg #[.int .i64 o.op, .int .i64 o.a, .int .i64 o.b, .int .i64 o.c], undef, undef, undef, undef, undef, undef, undef, undef, undef, undef], []⟩ W := by
        intro  W BW
        rw [hR]
        refine wpAny_ready (rs := [3, 12]) (by kernel_rfl) (by simp) ?_
        refine AllReady.cons rfl (fun K9 hK9 => ?_) ?_
        · go_wp2_with fail
          (with_reducible refine (hRun.out _ (HFx.out _ BW.out).s).mono ?_); rintro e W6 ⟨x36, rfl, oU, hB⟩
          (try (refine hK9 _ _ ?_))
          (try clear hK9)
          rw [← hR]
          exact N_3_7.out x36 W6 (Lib.hid (BW.out.trans (hB.mono BW.out.size))) (Lib.hid oU.rh)
        refine AllReady.cons rfl (fun K9 hK9 => ?_) ?_
        · go_simp
          refine hK9 _ _ ?_
          (try clear hK9)
          rw [← hR]
          exact N_7_12.out W.heap.size _ (Lib.hid (BW.out.alloc BW.out.size _)) (Box2.new BW.out.size _)
        exact AllReady.nil
      have N_7 := Lib.hid n_7
      clear n_7
      have n_12 : ∀ (bb : Nat) (W : World), Hid (Below W5.heap.size W5 W) → Hid (Box2 W5.heap.size W bb) → R 8 #[true, true, true, false, true, true, true, false, false, false, false, false, true, false, false] ⟨#[.slice C bs.length c, undef, .bool false, .slice (some ⟨gS, 0, none⟩) L.length cS, .pointer (some ⟨bx, 0, none⟩), .int .i64 (m : Int), .pointer (some ⟨bb, 0, none⟩), undef, .slice C bs.length c, .int .i64 (bs.length : Int), .bool (decide (1048576 < (bs.length : Int))), .slice C bs.length c, .slice (some ⟨gS, 0, none⟩) L.length cS, .slice (some ⟨gS, 0, none⟩) L.length cS, .agg #[.slice B (runM L).cells.length d, .slice B' (runM L).roots.length d'], .agg #[.slice B (runM L).cells.length d, .slice B' (runM L).roots.length d'], .slice (some ⟨gS, 0, none⟩) L.length cS, u, .bool true, .bool false, .slice (some ⟨gS, 0, none⟩) L.length cS, .bool true, .bool false, .bool false, .slice (some ⟨gS, 0, none⟩) L.length cS, .int .i64 (L.length : Int), .bool false, .bool false, undef, .slice (some ⟨gS, 0, none⟩) L.length cS, .int .i64 (L.length : Int), .int .i64 (m : Int), undef, .slice (some ⟨gS, 0, none⟩) L.length cS, .int .i64 (m : Int), .slice (some ⟨gS, 0, none⟩) m cS, undef, .slice (some ⟨gS, 0, none⟩) L.length cS, .int .i64 (m : Int), .pointer (some ⟨gS, m * 4, none⟩), undef, undef, undef, undef, undef, undef, undef, undef, undef, undef, undef], []⟩ W := by
        intro bb W BW HB
        rw [hR]
        refine wpAny_ready (rs := [3, 7]) (by kernel_rfl) (by simp) ?_
        refine AllReady.cons rfl (fun K9 hK9 => ?_) ?_
        · go_wp2_with fail
          (with_reducible refine (hRun.out _ (HFx.out _ BW.out).s).mono ?_); rintro e W6 ⟨x36, rfl, oU, hB⟩
          (try (refine hK9 _ _ ?_))
          (try clear hK9)
          rw [← hR]
          exact N_3_12.out x36 bb W6 (Lib.hid (BW.out.trans (hB.mono BW.out.size))) (Lib.hid oU.rh) (Lib.hid (HB.out.below hB))
        refine AllReady.cons rfl (fun K9 hK9 => ?_) ?_
        · obtain ⟨g9, e9, k0, k1, k2, k3, -⟩ := (HFx.out _ BW.out).s.at_ ho
          injection e9 with e9
          injection e9 with e9
          subst e9
          go_simp
          refine hK9 _ _ ?_
          (try clear hK9)
          rw [← hR]
          exact N_7_12.out bb W BW HB
        exact AllReady.nil
      have N_12 := Lib.hid n_12
      clear n_12
      have n_0 : ∀ (W : World), Hid (Below W5.heap.size W5 W) → R 9 #[true, true, true, false, true, true, true, false, false, false, false, false, false, false, false] ⟨#[.slice C bs.length c, undef, .bool false, .slice (some ⟨gS, 0, none⟩) L.length cS, .pointer (some ⟨bx, 0, none⟩), .int .i64 (m : Int), undef, undef, .slice C bs.length c, .int .i64 (bs.length : Int), .bool (decide (1048576 < (bs.length : Int))), .slice C bs.length c, .slice (some ⟨gS, 0, none⟩) L.length cS, .slice (some ⟨gS, 0, none⟩) L.length cS, .agg #[.slice B (runM L).cells.length d, .slice B' (runM L).roots.length d'], .agg #[.slice B (runM L).cells.length d, .slice B' (runM L).roots.length d'], .slice (some ⟨gS, 0, none⟩) L.length cS, u, .bool true, .bool false, .slice (some ⟨gS, 0, none⟩) L.length cS, .bool true, .bool false, .bool false, .slice (some ⟨gS, 0, none⟩) L.length cS, .int .i64 (L.length : Int), .bool false, .bool false, undef, .slice (some ⟨gS, 0, none⟩) L.length cS, .int .i64 (L.length : Int), .int .i64 (m : Int), undef, .slice (some ⟨gS, 0, none⟩) L.length cS, .int .i64 (m : Int), .slice (some ⟨gS, 0, none⟩) m cS, undef, .slice (some ⟨gS, 0, none⟩) L.length cS, .int .i64 (m : Int), .pointer (some ⟨gS, m * 4, none⟩), undef, undef, undef, undef, undef, undef, undef, undef, undef, undef, undef], []⟩ W := by
        intro  W BW
        rw [hR]
        refine wpAny_ready (rs := [3, 7, 12]) (by kernel_rfl) (by simp) ?_
        refine AllReady.cons rfl (fun K9 hK9 => ?_) ?_
        · go_wp2_with fail
          (with_reducible refine (hRun.out _ (HFx.out _ BW.out).s).mono ?_); rintro e W6 ⟨x36, rfl, oU, hB⟩
          (try (refine hK9 _ _ ?_))
          (try clear hK9)
          rw [← hR]
          exact N_3.out x36 W6 (Lib.hid (BW.out.trans (hB.mono BW.out.size))) (Lib.hid oU.rh)
        refine AllReady.cons rfl (fun K9 hK9 => ?_) ?_
        · obtain ⟨g9, e9, k0, k1, k2, k3, -⟩ := (HFx.out _ BW.out).s.at_ ho
          injection e9 with e9
          injection e9 with e9
          subst e9
          go_simp
          refine hK9 _ _ ?_
          (try clear hK9)
          rw [← hR]
          exact N_7.out  W BW
        refine AllReady.cons rfl (fun K9 hK9 => ?_) ?_
        · go_simp
          refine hK9 _ _ ?_
          (try clear hK9)
          rw [← hR]
          exact N_12.out W.heap.size _ (Lib.hid (BW.out.alloc BW.out.size _)) (Box2.new BW.out.size _)
        exact AllReady.nil
      have N_0 := Lib.hid n_0
      clear n_0
      rw [hR]
      have BW : Hid (Below W5.heap.size W5 W5.drew) := (Below.refl _ _).drew
      (refine wpAny_take (i := 0) (v := ?v9_21) rfl (by kernel_rfl) (by kernel_rfl) (by kernel_rfl) (fun _ _ _ h => h) (Or.inl ⟨by rfl, ?h9_21⟩) ?r9_21; (case h9_21 => (intro w9; go_simp; try with_reducible rfl)))
      (refine wpAny_take (i := 1) (v := ?v9_22) rfl (by kernel_rfl) (by kernel_rfl) (by kernel_rfl) (fun _ _ _ h => h) (Or.inl ⟨by rfl, ?h9_22⟩) ?r9_22; (case h9_22 => (intro w9; go_simp; try with_reducible rfl)))
      (refine wpAny_take (i := 2) (v := .slice (some ⟨gS, 0, none⟩) m cS) rfl (by kernel_rfl) (by kernel_rfl) (by kernel_rfl) (fun _ _ _ h => h) (Or.inl ⟨by rfl, ?h9_23⟩) ?r9_23; (case h9_23 => (intro w9; go_simp)))
      (refine wpAny_take (i := 4) (v := ?v9_24) rfl (by kernel_rfl) (by kernel_rfl) (by kernel_rfl) (fun _ _ _ h => h) (Or.inl ⟨by rfl, ?h9_24⟩) ?r9_24; (case h9_24 => (intro w9; go_simp; try with_reducible rfl)))
      (refine wpAny_take (i := 5) (v := ?v9_25) rfl (by kernel_rfl) (by kernel_rfl) (by kernel_rfl) (fun _ _ _ h => h) (Or.inl ⟨by rfl, ?h9_25⟩) ?r9_25; (case h9_25 => (intro w9; go_simp; try with_reducible rfl)))
      (refine wpAny_take (i := 6) (v := .pointer (some ⟨gS, m * 4, none⟩)) rfl (by kernel_rfl) (by kernel_rfl) (by kernel_rfl) (fun _ _ _ h => h) (Or.inl ⟨by rfl, ?h9_26⟩) ?r9_26; (case h9_26 => (intro w9; go_simp)))
      rw [← hR]
      exact N_0.out W5.drew BW
    · have hstop : Hid (cmdsOk L = false ∨ L.length = 0) := by
        cases h9 : cmdsOk L with
        | false => exact .inl rfl
        | true => exact .inr (by have : ¬ 0 < L.length := fun h8 => hok ⟨h9, h8⟩; omega)
      rcases hstop.out with h9 | h9
      · rw [h9]
        go_wp2_with fail
        (with_reducible refine (alive_any _).mono ?_); rintro e W6 ⟨rfl, hB⟩
        have HF6 := Lib.hid (HF5.out.below hB)
        clear hB
        go_wp2_with fail
        go_ret
        exact ⟨rfl, HF6.out.b⟩
      · have h8 : (L.length : Int) = 0 := by omega
        have HBo : Hid (∃ b : Bool, b = cmdsOk L) := ⟨_, rfl⟩
        generalize cmdsOk L = bo
        cases bo with
        | false =>
          go_wp2_with fail
          (with_reducible refine (alive_any _).mono ?_); rintro e W6 ⟨rfl, hB⟩
          have HF6 := Lib.hid (HF5.out.below hB)
          clear hB
          go_wp2_with fail
          go_ret
          exact ⟨rfl, HF6.out.b⟩
        | true =>
          go_wp2_with fail
          (with_reducible refine (alive_any _).mono ?_); rintro e W6 ⟨rfl, hB⟩
          have HF6 := Lib.hid (HF5.out.below hB)
          clear hB
          go_wp2_with fail
          go_ret
          exact ⟨rfl, HF6.out.b⟩
  have n_012 : ∀ (u : Value) (W : World), Hid (RunFx w bx (.slice B (runM L).cells.length d) (.slice B' (runM L).roots.length d') (runM L) S cS L W) → Hid (RH W u (runM L)) → R 2 #[true, true, true, false, false] ⟨#[.slice C bs.length c, undef, .bool false, .slice S L.length cS, .pointer (some ⟨bx, 0, none⟩), undef, undef, undef, .slice C bs.length c, .int .i64 (bs.length : Int), .bool (decide (1048576 < (bs.length : Int))), .slice C bs.length c, .slice S L.length cS, .slice S L.length cS, .agg #[.slice B (runM L).cells.length d, .slice B' (runM L).roots.length d'], .agg #[.slice B (runM L).cells.length d, .slice B' (runM L).roots.length d'], .slice S L.length cS, u, undef, undef, undef, undef, undef, undef, undef, undef, undef, undef, undef, undef, undef, undef, undef, undef, undef, undef, undef, undef, undef, undef, undef, undef, undef, undef, undef, undef, undef, undef, undef, undef, undef], []⟩ W := by
    intro u W HF HU
    rw [hR]
    refine wpAny_ready (rs := [3]) (by kernel_rfl) (by simp) ?_
    refine AllReady.cons rfl (fun K9 hK9 => ?_) AllReady.nil
    go_wp2_with fail
    (with_reducible refine (sameHeap_any _ _ (runM L) (runM L) _ HF.out.v HU.out).mono ?_)
    rw [hE.out]
    rintro e W5 ⟨rfl, hB⟩
    have HF5 := Lib.hid (HF.out.below hB)
    clear hB
    (try (refine hK9 _ _ ?_))
    (try clear hK9)
    (refine wpAny_take (i := 4) (v := ?v9_1) rfl (by kernel_rfl) (by kernel_rfl) (by kernel_rfl) (fun _ _ _ h => h) (Or.inl ⟨by rfl, ?h9_1⟩) ?r9_1; (case h9_1 => (intro w9; go_simp; try with_reducible rfl)))
    rw [← hR]
    exact n_01234 u W5 HF5
  have n_01 : ∀ (W : World), Hid (RunFx w bx (.slice B (runM L).cells.length d) (.slice B' (runM L).roots.length d') (runM L) S cS L W) → R 3 #[true, true, false, false, false] ⟨#[.slice C bs.length c, undef, .bool false, .slice S L.length cS, .pointer (some ⟨bx, 0, none⟩), undef, undef, undef, .slice C bs.length c, .int .i64 (bs.length : Int), .bool (decide (1048576 < (bs.length : Int))), .slice C bs.length c, .slice S L.length cS, .slice S L.length cS, .agg #[.slice B (runM L).cells.length d, .slice B' (runM L).roots.length d'], .agg #[.slice B (runM L).cells.length d, .slice B' (runM L).roots.length d'], .slice S L.length cS, undef, undef, undef, undef, undef, undef, undef, undef, undef, undef, undef, undef, undef, undef, undef, undef, undef, undef, undef, undef, undef, undef, undef, undef, undef, undef, undef, undef, undef, undef, undef, undef, undef, undef], []⟩ W := by
    intro W HF
    rw [hR]
    refine wpAny_ready (rs := [2]) (by kernel_rfl) (by simp) ?_
    refine AllReady.cons rfl (fun K9 hK9 => ?_) AllReady.nil
    go_wp2_with fail
    (with_reducible refine (specRunHeap_any S L cS _ HF.out.s.ro (by omega)).mono ?_); rintro e W5 ⟨u, rfl, oU, hB⟩
    have HU := Lib.hid oU.rh
    have HF5 := Lib.hid (HF.out.below hB)
    clear oU hB
    (try (refine hK9 _ _ ?_))
    (try clear hK9)
    rw [← hR]
    exact n_012 u W5 HF5 HU
  have n_12 : ∀ (u : Value) (W : World), Hid (RunFx w bx (.slice B (runM L).cells.length d) (.slice B' (runM L).roots.length d') (runM L) S cS L W) → Hid (RH W u (runM L)) → R 3 #[false, true, true, false, false] ⟨#[.slice C bs.length c, undef, .bool false, .slice S L.length cS, .pointer (some ⟨bx, 0, none⟩), undef, undef, undef, .slice C bs.length c, .int .i64 (bs.length : Int), .bool (decide (1048576 < (bs.length : Int))), .slice C bs.length c, .slice S L.length cS, .slice S L.length cS, .agg #[.slice B (runM L).cells.length d, .slice B' (runM L).roots.length d'], undef, .slice S L.length cS, u, undef, undef, undef, undef, undef, undef, undef, undef, undef, undef, undef, undef, undef, undef, undef, undef, undef, undef, undef, undef, undef, undef, undef, undef, undef, undef, undef, undef, undef, undef, undef, undef, undef], []⟩ W := by
    intro u W HF HU
    rw [hR]
    refine wpAny_ready (rs := [0]) (by kernel_rfl) (by simp) ?_
    refine AllReady.cons rfl (fun K9 hK9 => ?_) AllReady.nil
    have c0 := HF.out.c0
    have c1 := HF.out.c1
    go_simp
    refine hK9 _ _ ?_
    clear hK9
    rw [← hR]
    exact n_012 u W HF HU
  rw [hR]
  (refine wpAny_take (i := 1) (v := ?v9_2) rfl (by kernel_rfl) (by kernel_rfl) (by kernel_rfl) (fun _ _ _ h => h) (Or.inl ⟨by rfl, ?h9_2⟩) ?r9_2; (case h9_2 => (intro w9; go_simp; try with_reducible rfl)))
  have HF : Hid (RunFx w bx (.slice B (runM L).cells.length d) (.slice B' (runM L).roots.length d') (runM L) S cS L W0.drew) := HF0.out.below (by repeat (first | ((with_reducible refine Below.setc ?_ ?_ _); focus (first | omega | (simp; done) | (simp; omega))) | ((with_reducible refine Below.allocc ?_ ?_ _); focus (first | omega | (simp; done) | (simp; omega))) | (with_reducible refine Below.drew ?_) | (with_reducible refine Below.drewn ?_) | (with_reducible assumption) | (with_reducible exact Below.refl _ _) | ((with_reducible refine Below.stepp (by with_reducible assumption) ?_ ?_); focus (first | omega | (simp; done) | (simp; omega)))))
  refine wpAny_ready (rs := [0, 2]) (by kernel_rfl) (by simp) ?_
  refine AllReady.cons rfl (fun K9 hK9 => ?_) ?_
  · have c0 := HF.out.c0
    have c1 := HF.out.c1
    go_simp
    refine hK9 _ _ ?_
    clear hK9
    rw [← hR]
    exact n_01 _ HF
  refine AllReady.cons rfl (fun K9 hK9 => ?_) AllReady.nil
  go_wp2_with fail
  (with_reducible refine (specRunHeap_any S L cS _ HF.out.s.ro (by omega)).mono ?_); rintro e W5 ⟨u, rfl, oU, hB⟩
  have HU := Lib.hid oU.rh
  have HF5 := Lib.hid (HF.out.below hB)
  clear oU hB
  (try (refine hK9 _ _ ?_))
  (try clear hK9)
  rw [← hR]
  exact n_12 u W5 HF5 HU
end Go.Proofs.Ytngmkflmjjkjaaa
