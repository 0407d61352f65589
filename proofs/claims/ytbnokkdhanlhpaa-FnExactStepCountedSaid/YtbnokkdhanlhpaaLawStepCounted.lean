/- FnExactStepCounted: the program's StepCounted returns what the reference's returns, for every argument. No condition. -/
import Derived.Test.YtbnokkdhanlhpaaChecked
import Derived.Deep.RegionHeld3
import Derived.Deep.DeepCutAuto
import Derived.Test.YtbnokkdhanlhpaaGrMark
import Derived.Test.YtbnokkdhanlhpaaGrSz
import Derived.Test.YtbnokkdhanlhpaaGrTo
import Derived.Test.YtbnokkdhanlhpaaGrCntI
import Derived.Test.YtbnokkdhanlhpaaGrCntS
import Derived.Test.YtbnokkdhanlhpaaCntM
import Derived.Test.YtbnokkdhanlhpaaExC
namespace Go.Proofs.Ytbnokkdhanlhpaa
open Go.RowKit
set_option maxRecDepth 100000
set_option linter.unusedSimpArgs false
set_option linter.unusedVariables false
set_option maxHeartbeats 20000000 in
theorem walkExactStepCounted (v0 : Value) (p0 : CountM) (op1 oa1 ob1 oc1 : Int) (w : World) (hv0 : RCt w v0 p0) :
    Calls Try.prog 6 #[v0, .agg #[.int .i64 op1, .int .i64 oa1, .int .i64 ob1, .int .i64 oc1]] w fun e w' => e = .returned (.bool true) ∧ Below w.heap.size w w' := by
  obtain ⟨x0, hx0⟩ : ∃ x, x = v0 := ⟨_, rfl⟩
  have hw0 := hv0
  obtain ⟨BA0, dA0, CA0, eA0, EA0, gA0, hq0, -⟩ := hw0
  subst hq0
  clear hx0 x0
  have hle0 := szH1_le p0.store p0.counts.length 1048576
  by_cases hneg0 : szH1 p0.store p0.counts.length 1048576 < 0
  · go_enter Try.func6, Try.ntmps6
    go_wp2_with (go_at_call 24; refine (szCounted_any _ p0 _ _ (hv0.below blw_) (by omega) (by omega)).mono ?_; rintro e w1 ⟨rfl, hB1⟩)
    go_ret
    exact ⟨rfl, blw_⟩
  obtain ⟨s0, t0⟩ := szH1_small hneg0
  have HSR := Lib.hid (small_StepCounted p0 ⟨op1, oa1, ob1, oc1⟩)
  go_enter Try.func6, Try.ntmps6
  go_upto_region 5 with (go_at_call 24; refine (szCounted_any _ p0 _ _ (hv0.below blw_) (by omega) (by omega)).mono ?_; rintro e w1 ⟨rfl, hB1⟩)
  (have z_hB1 := Below.size hB1); (try simp only [World.size_alloc, World.size_setCell, World.size_drew, World.heap_drewN] at z_hB1)
  have A0_1 : Box w1 (w.heap.size) [.slice BA0 p0.store.cells.length dA0, .slice CA0 p0.store.roots.length eA0, .slice EA0 p0.counts.length gA0] := by
    exact (Box.new w [.slice BA0 p0.store.cells.length dA0, .slice CA0 p0.store.roots.length eA0, .slice EA0 p0.counts.length gA0] 58).below blw_
  have A1_1 : Box w1 (w.heap.size + 1) [.int .i64 op1, .int .i64 oa1, .int .i64 ob1, .int .i64 oc1] := by
    have h9 := (Box.new (w.alloc (.cells #[.slice BA0 p0.store.cells.length dA0, .slice CA0 p0.store.roots.length eA0, .slice EA0 p0.counts.length gA0] 58)) [.int .i64 op1, .int .i64 oa1, .int .i64 ob1, .int .i64 oc1] 59).below (w' := w1) blw_
    simpa only [World.size_alloc] using h9
  have W1 : Below w.heap.size w w1 := blw_
  have zb_1 : w.heap.size + 2 ≤ w1.heap.size := by omega
  clear hB1
  clear hneg0 hle0
  have HS : ∀ W, Below w1.heap.size w1 W → W.cell? ⟨w.heap.size, 0, none⟩ = some (.slice BA0 p0.store.cells.length dA0) ∧ W.cell? ⟨w.heap.size, 1, none⟩ = some (.slice CA0 p0.store.roots.length eA0) ∧ W.cell? ⟨w.heap.size, 2, none⟩ = some (.slice EA0 p0.counts.length gA0) ∧ W.cell? ⟨w.heap.size + 1, 0, none⟩ = some (.int .i64 op1) ∧ W.cell? ⟨w.heap.size + 1, 1, none⟩ = some (.int .i64 oa1) ∧ W.cell? ⟨w.heap.size + 1, 2, none⟩ = some (.int .i64 ob1) ∧ W.cell? ⟨w.heap.size + 1, 3, none⟩ = some (.int .i64 oc1) := fun W hW => ⟨cell_below (A0_1 0 _ rfl) (Below.trans (show Below w1.heap.size w1 w1 from blw_) (hW.mono (by first | exact Nat.le_refl _ | (simp; done) | (simp; omega)))), cell_below (A0_1 1 _ rfl) (Below.trans (show Below w1.heap.size w1 w1 from blw_) (hW.mono (by first | exact Nat.le_refl _ | (simp; done) | (simp; omega)))), cell_below (A0_1 2 _ rfl) (Below.trans (show Below w1.heap.size w1 w1 from blw_) (hW.mono (by first | exact Nat.le_refl _ | (simp; done) | (simp; omega)))), cell_below (A1_1 0 _ rfl) (Below.trans (show Below w1.heap.size w1 w1 from blw_) (hW.mono (by first | exact Nat.le_refl _ | (simp; done) | (simp; omega)))), cell_below (A1_1 1 _ rfl) (Below.trans (show Below w1.heap.size w1 w1 from blw_) (hW.mono (by first | exact Nat.le_refl _ | (simp; done) | (simp; omega)))), cell_below (A1_1 2 _ rfl) (Below.trans (show Below w1.heap.size w1 w1 from blw_) (hW.mono (by first | exact Nat.le_refl _ | (simp; done) | (simp; omega)))), cell_below (A1_1 3 _ rfl) (Below.trans (show Below w1.heap.size w1 w1 from blw_) (hW.mono (by first | exact Nat.le_refl _ | (simp; done) | (simp; omega))))⟩
  go_cut [6, 7] (fun s_r s_s wx => ∃ (bw : Nat) (Bw : Option Addr) (dw : Nat) (Cw : Option Addr) (ew : Nat) (Ew : Option Addr) (gw : Nat) (lo_ hi_ : Nat), s_r = .pointer (some ⟨bw, 0, none⟩) ∧ s_s = .bool (stepCountM p0 ⟨op1, oa1, ob1, oc1⟩).2 ∧ OCB lo_ hi_ wx (.agg #[.slice Bw (stepCountM p0 ⟨op1, oa1, ob1, oc1⟩).1.store.cells.length dw, .slice Cw (stepCountM p0 ⟨op1, oa1, ob1, oc1⟩).1.store.roots.length ew, .slice Ew (stepCountM p0 ⟨op1, oa1, ob1, oc1⟩).1.counts.length gw]) (stepCountM p0 ⟨op1, oa1, ob1, oc1⟩).1 ∧ Box wx bw [.slice Bw (stepCountM p0 ⟨op1, oa1, ob1, oc1⟩).1.store.cells.length dw, .slice Cw (stepCountM p0 ⟨op1, oa1, ob1, oc1⟩).1.store.roots.length ew, .slice Ew (stepCountM p0 ⟨op1, oa1, ob1, oc1⟩).1.counts.length gw] ∧ (bw < lo_ ∨ hi_ ≤ bw) ∧ w1.heap.size ≤ lo_ ∧ hi_ ≤ wx.heap.size ∧ w1.heap.size ≤ bw ∧ bw < wx.heap.size ∧ Below w1.heap.size w1 wx)
  case first =>
    go_region_held3 (fun w' => w'.cell? ⟨w.heap.size, 0, none⟩ = some (.slice BA0 p0.store.cells.length dA0) ∧ w'.cell? ⟨w.heap.size, 1, none⟩ = some (.slice CA0 p0.store.roots.length eA0) ∧ w'.cell? ⟨w.heap.size, 2, none⟩ = some (.slice EA0 p0.counts.length gA0) ∧ w'.cell? ⟨w.heap.size + 1, 0, none⟩ = some (.int .i64 op1) ∧ w'.cell? ⟨w.heap.size + 1, 1, none⟩ = some (.int .i64 oa1) ∧ w'.cell? ⟨w.heap.size + 1, 2, none⟩ = some (.int .i64 ob1) ∧ w'.cell? ⟨w.heap.size + 1, 3, none⟩ = some (.int .i64 oc1))
      (first | exact HS _ blw_)
      (first | (go_at_call 25; (with_reducible refine (toCounted_any _ p0 _ (hv0.below (W1.trans (Below.mono (show Below w1.heap.size w1 _ from blw_) W1.size))) s0.cells s0.refs s0.roots t0).mono ?_); rintro e y1 ⟨z0, rfl, o0, hY1⟩; obtain ⟨By0, dy0, Cy0, ey0, Ey0, gy0, rfl, -⟩ := o0.rc; have ob0 := o0.toB; (have z_hY1 := Below.size hY1); (try simp only [World.size_alloc, World.size_setCell, World.size_drew, World.heap_drewN] at z_hY1); obtain ⟨hbc1, hbf1, -⟩ := bcell hY1; (first | (have zl1 : w1.heap.size < y1.heap.size := Nat.lt_of_lt_of_le (Nat.lt_succ_self _) z_hY1) | skip)) | (go_at_call 26; (with_reducible refine (toCommand_any op1 oa1 ob1 oc1 _).mono ?_); rintro e y2 ⟨rfl, hY2⟩; (have z_hY2 := Below.size hY2); (try simp only [World.size_alloc, World.size_setCell, World.size_drew, World.heap_drewN] at z_hY2); obtain ⟨hbc2, hbf2, -⟩ := bcell hY2; (first | (have zl2 : y1.heap.size < y2.heap.size := Nat.lt_of_lt_of_le (Nat.lt_succ_self _) z_hY2) | skip); (first | (have zl1_2 := Nat.lt_of_lt_of_le zl1 z_hY2) | skip)) | (go_at_call 10; (with_reducible refine (specStepCounted_any _ p0 ⟨op1, oa1, ob1, oc1⟩ _ ((ob0.below blw_).rd)).mono ?_); rintro e y3 ⟨zF, rfl, oF, hY3⟩; obtain ob_ := oF.toB; obtain ⟨Bw, dw, Cw, ew, osw, Ew, gw, rfl, ownw⟩ := oF; (have z_hY3 := Below.size hY3); (try simp only [World.size_alloc, World.size_setCell, World.size_drew, World.heap_drewN] at z_hY3); obtain ⟨hbc3, hbf3, -⟩ := bcell hY3; (first | (have zl3 : y2.heap.size < y3.heap.size := Nat.lt_of_lt_of_le (Nat.lt_succ_self _) z_hY3) | skip); (first | (have zl1_3 := Nat.lt_of_lt_of_le zl1 z_hY3) | skip); (first | (have zl1_3 := Nat.lt_of_lt_of_le zl1_2 z_hY3) | skip); (first | (have zl2_3 := Nat.lt_of_lt_of_le zl2 z_hY3) | skip)))
    all_goals
      (try simp only [World.size_alloc, World.size_setCell, World.size_drew, World.heap_drewN, heap_drew_] at ownw)
      go_wp2_with fail
      (first | (refine fact_then (P := y3.cell? ⟨y2.heap.size, 0, none⟩ = some (.slice none 0 0)) ?_ ?_; (focus (simp (disch := (first | omega | (simp; done) | (simp; omega))) [go_sem, hbc1, hbc2, hbc3]; done)); intro bx0) | (refine fact_then (P := y3.cell? ⟨y1.heap.size, 0, none⟩ = some (.slice none 0 0)) ?_ ?_; (focus (simp (disch := (first | omega | (simp; done) | (simp; omega))) [go_sem, hbc1, hbc2, hbc3]; done)); intro bx0) | (refine fact_then (P := y3.cell? ⟨w1.heap.size, 0, none⟩ = some (.slice none 0 0)) ?_ ?_; (focus (simp (disch := (first | omega | (simp; done) | (simp; omega))) [go_sem, hbc1, hbc2, hbc3]; done)); intro bx0) | (have bx0 := True.intro))
      (first | (refine fact_then (P := y3.cell? ⟨y2.heap.size, 1, none⟩ = some (.slice none 0 0)) ?_ ?_; (focus (simp (disch := (first | omega | (simp; done) | (simp; omega))) [go_sem, hbc1, hbc2, hbc3]; done)); intro bx1) | (refine fact_then (P := y3.cell? ⟨y1.heap.size, 1, none⟩ = some (.slice none 0 0)) ?_ ?_; (focus (simp (disch := (first | omega | (simp; done) | (simp; omega))) [go_sem, hbc1, hbc2, hbc3]; done)); intro bx1) | (refine fact_then (P := y3.cell? ⟨w1.heap.size, 1, none⟩ = some (.slice none 0 0)) ?_ ?_; (focus (simp (disch := (first | omega | (simp; done) | (simp; omega))) [go_sem, hbc1, hbc2, hbc3]; done)); intro bx1) | (have bx1 := True.intro))
      (first | (refine fact_then (P := y3.cell? ⟨y2.heap.size, 2, none⟩ = some (.slice none 0 0)) ?_ ?_; (focus (simp (disch := (first | omega | (simp; done) | (simp; omega))) [go_sem, hbc1, hbc2, hbc3]; done)); intro bx2) | (refine fact_then (P := y3.cell? ⟨y1.heap.size, 2, none⟩ = some (.slice none 0 0)) ?_ ?_; (focus (simp (disch := (first | omega | (simp; done) | (simp; omega))) [go_sem, hbc1, hbc2, hbc3]; done)); intro bx2) | (refine fact_then (P := y3.cell? ⟨w1.heap.size, 2, none⟩ = some (.slice none 0 0)) ?_ ?_; (focus (simp (disch := (first | omega | (simp; done) | (simp; omega))) [go_sem, hbc1, hbc2, hbc3]; done)); intro bx2) | (have bx2 := True.intro))
      go_meet
      refine ⟨_, Bw, dw, Cw, ew, Ew, gw, _, _, rfl, rfl, ob_.keep (fun g h1 h2 hg => ?_), Box.of3 ?_ ?_ ?_, ?_, ?_, ?_, ?_, ?_, blw_⟩
      · (try simp only [World.size_alloc, World.size_setCell, World.size_drew, World.heap_drewN, heap_drew_] at h1)
        (repeat (first | rw [heap_drew_] | rw [heap_setCell_ne _ _ _ (by first | omega | (simp; done) | (simp; omega))] | rw [Below.heap_alloc _ _ _ (by first | omega | (simp; done) | (simp; omega))]))
      · first | (simp [go_sem]; done) | (simp (disch := (first | omega | (simp; done) | (simp; omega))) [go_sem, hbc1, hbc2, hbc3]; done) | (simp [go_sem, bx0, bx1, bx2]; done)
      · first | (simp [go_sem]; done) | (simp (disch := (first | omega | (simp; done) | (simp; omega))) [go_sem, hbc1, hbc2, hbc3]; done) | (simp [go_sem, bx0, bx1, bx2]; done)
      · first | (simp [go_sem]; done) | (simp (disch := (first | omega | (simp; done) | (simp; omega))) [go_sem, hbc1, hbc2, hbc3]; done) | (simp [go_sem, bx0, bx1, bx2]; done)
      · (first | omega | (simp; done) | (simp; omega))
      · (first | omega | (simp; done) | (simp; omega))
      · (first | omega | (simp; done) | (simp; omega))
      · (first | omega | (simp; done) | (simp; omega))
      · (first | omega | (simp; done) | (simp; omega))
  case rest =>
    obtain ⟨bw, Bw, dw, Cw, ew, Ew, gw, low, hiw, rfl, rfl, Ow_2, Xw_2, iww, ilw, ihw, ibw, icw, hCw⟩ := hcut
    clear HS
    obtain ⟨w2, hwc⟩ : ∃ x, x = wc := ⟨_, rfl⟩
    subst hwc
    have XC2 : Below w1.heap.size w1 w2 := Below.trans (show Below w1.heap.size w1 w1 from blw_) (hCw.mono (by first | exact Nat.le_refl _ | (simp; done) | (simp; omega)))
    have W2_ : Below w.heap.size w w2 := W1.trans (XC2.mono W1.size)
    have zs_2 := XC2.size
    have A0_2 := A0_1.below XC2
    clear A0_1
    have A1_2 := A1_1.below XC2
    clear A1_1
    clear XC2 hCw
    have A0_c0 : w2.cell? ⟨w.heap.size, 0, none⟩ = some (.slice BA0 p0.store.cells.length dA0) := A0_2 0 _ rfl
    have A0_c1 : w2.cell? ⟨w.heap.size, 1, none⟩ = some (.slice CA0 p0.store.roots.length eA0) := A0_2 1 _ rfl
    have A0_c2 : w2.cell? ⟨w.heap.size, 2, none⟩ = some (.slice EA0 p0.counts.length gA0) := A0_2 2 _ rfl
    go_wp2_with fail
    refine (toCounted_any _ p0 _ (hv0.below (W2_.trans (Below.mono (show Below w2.heap.size w2 _ from blw_) W2_.size))) s0.cells s0.refs s0.roots t0).mono ?_
    rintro e w3 ⟨z0, rfl, o0, hB3⟩
    obtain ⟨BX0, dX0, CX0, eX0, EX0, gX0, rfl, -⟩ := o0.rc
    clear A0_c0 A0_c1 A0_c2
    have hlo0 : ∃ lo0, lo0 = _ ∧ w2.heap.size ≤ lo0 ∧ OCB lo0 w3.heap.size w3 _ p0 := ⟨_, rfl, by (first | omega | (simp; done) | (simp; omega)), o0.toB⟩
    obtain ⟨lo0, -, hlo0, O0_3⟩ := hlo0
    clear o0
    (have z_hB3 := Below.size hB3); (try simp only [World.size_alloc, World.size_setCell, World.size_drew, World.heap_drewN] at z_hB3)
    have X3 : Below w2.heap.size w2 w3 := blw_
    clear hB3
    have W3_ : Below w.heap.size w w3 := W2_.trans (X3.mono W2_.size)
    have zs_3 := X3.size
    have A0_3 := A0_2.below X3
    clear A0_2
    have A1_3 := A1_2.below X3
    clear A1_2
    have Xw_3 := Xw_2.below X3
    clear Xw_2
    have Ow_3 := Ow_2.below X3
    clear Ow_2
    clear X3
    go_upto_region 7 with fail
    have HS : ∀ W, Below (w3.alloc (.cells #[.slice BX0 p0.store.cells.length dX0, .slice CX0 p0.store.roots.length eX0, .slice EX0 p0.counts.length gX0] 28)).heap.size (w3.alloc (.cells #[.slice BX0 p0.store.cells.length dX0, .slice CX0 p0.store.roots.length eX0, .slice EX0 p0.counts.length gX0] 28)) W → W.cell? ⟨w.heap.size + 1, 0, none⟩ = some (.int .i64 op1) ∧ W.cell? ⟨w.heap.size + 1, 1, none⟩ = some (.int .i64 oa1) ∧ W.cell? ⟨w.heap.size + 1, 2, none⟩ = some (.int .i64 ob1) ∧ W.cell? ⟨w.heap.size + 1, 3, none⟩ = some (.int .i64 oc1) ∧ W.cell? ⟨w3.heap.size, 0, none⟩ = some (.slice BX0 p0.store.cells.length dX0) ∧ W.cell? ⟨w3.heap.size, 1, none⟩ = some (.slice CX0 p0.store.roots.length eX0) ∧ W.cell? ⟨w3.heap.size, 2, none⟩ = some (.slice EX0 p0.counts.length gX0) := fun W hW => ⟨cell_below (A1_3 0 _ rfl) (Below.trans (show Below w3.heap.size w3 (w3.alloc (.cells #[.slice BX0 p0.store.cells.length dX0, .slice CX0 p0.store.roots.length eX0, .slice EX0 p0.counts.length gX0] 28)) from blw_) (hW.mono (by first | exact Nat.le_refl _ | (simp; done) | (simp; omega)))), cell_below (A1_3 1 _ rfl) (Below.trans (show Below w3.heap.size w3 (w3.alloc (.cells #[.slice BX0 p0.store.cells.length dX0, .slice CX0 p0.store.roots.length eX0, .slice EX0 p0.counts.length gX0] 28)) from blw_) (hW.mono (by first | exact Nat.le_refl _ | (simp; done) | (simp; omega)))), cell_below (A1_3 2 _ rfl) (Below.trans (show Below w3.heap.size w3 (w3.alloc (.cells #[.slice BX0 p0.store.cells.length dX0, .slice CX0 p0.store.roots.length eX0, .slice EX0 p0.counts.length gX0] 28)) from blw_) (hW.mono (by first | exact Nat.le_refl _ | (simp; done) | (simp; omega)))), cell_below (A1_3 3 _ rfl) (Below.trans (show Below w3.heap.size w3 (w3.alloc (.cells #[.slice BX0 p0.store.cells.length dX0, .slice CX0 p0.store.roots.length eX0, .slice EX0 p0.counts.length gX0] 28)) from blw_) (hW.mono (by first | exact Nat.le_refl _ | (simp; done) | (simp; omega)))), cell_below ((Box.new w3 [.slice BX0 p0.store.cells.length dX0, .slice CX0 p0.store.roots.length eX0, .slice EX0 p0.counts.length gX0] 28) 0 _ rfl) hW, cell_below ((Box.new w3 [.slice BX0 p0.store.cells.length dX0, .slice CX0 p0.store.roots.length eX0, .slice EX0 p0.counts.length gX0] 28) 1 _ rfl) hW, cell_below ((Box.new w3 [.slice BX0 p0.store.cells.length dX0, .slice CX0 p0.store.roots.length eX0, .slice EX0 p0.counts.length gX0] 28) 2 _ rfl) hW⟩
    go_cut [9, 10] (fun s_r s_s wx => ∃ (bg : Nat) (Bg : Option Addr) (dg : Nat) (Cg : Option Addr) (eg : Nat) (Eg : Option Addr) (gg : Nat) (lo_ hi_ : Nat), s_r = .pointer (some ⟨bg, 0, none⟩) ∧ s_s = .bool (stepCountM p0 ⟨op1, oa1, ob1, oc1⟩).2 ∧ OCB lo_ hi_ wx (.agg #[.slice Bg (stepCountM p0 ⟨op1, oa1, ob1, oc1⟩).1.store.cells.length dg, .slice Cg (stepCountM p0 ⟨op1, oa1, ob1, oc1⟩).1.store.roots.length eg, .slice Eg (stepCountM p0 ⟨op1, oa1, ob1, oc1⟩).1.counts.length gg]) (stepCountM p0 ⟨op1, oa1, ob1, oc1⟩).1 ∧ Box wx bg [.slice Bg (stepCountM p0 ⟨op1, oa1, ob1, oc1⟩).1.store.cells.length dg, .slice Cg (stepCountM p0 ⟨op1, oa1, ob1, oc1⟩).1.store.roots.length eg, .slice Eg (stepCountM p0 ⟨op1, oa1, ob1, oc1⟩).1.counts.length gg] ∧ (bg < lo_ ∨ hi_ ≤ bg) ∧ w3.heap.size + 1 ≤ lo_ ∧ hi_ ≤ wx.heap.size ∧ w3.heap.size + 1 ≤ bg ∧ bg < wx.heap.size ∧ Below (w3.alloc (.cells #[.slice BX0 p0.store.cells.length dX0, .slice CX0 p0.store.roots.length eX0, .slice EX0 p0.counts.length gX0] 28)).heap.size (w3.alloc (.cells #[.slice BX0 p0.store.cells.length dX0, .slice CX0 p0.store.roots.length eX0, .slice EX0 p0.counts.length gX0] 28)) wx)
    case first =>
      go_region_held3 (fun w' => w'.cell? ⟨w.heap.size + 1, 0, none⟩ = some (.int .i64 op1) ∧ w'.cell? ⟨w.heap.size + 1, 1, none⟩ = some (.int .i64 oa1) ∧ w'.cell? ⟨w.heap.size + 1, 2, none⟩ = some (.int .i64 ob1) ∧ w'.cell? ⟨w.heap.size + 1, 3, none⟩ = some (.int .i64 oc1) ∧ w'.cell? ⟨w3.heap.size, 0, none⟩ = some (.slice BX0 p0.store.cells.length dX0) ∧ w'.cell? ⟨w3.heap.size, 1, none⟩ = some (.slice CX0 p0.store.roots.length eX0) ∧ w'.cell? ⟨w3.heap.size, 2, none⟩ = some (.slice EX0 p0.counts.length gX0))
        (first | exact HS _ blw_)
        (first | (go_at_call 26; (with_reducible refine (toCommand_any op1 oa1 ob1 oc1 _).mono ?_); rintro e y1 ⟨rfl, hY1⟩; (have z_hY1 := Below.size hY1); (try simp only [World.size_alloc, World.size_setCell, World.size_drew, World.heap_drewN] at z_hY1); obtain ⟨hbc1, hbf1, -⟩ := bcell hY1; (first | (have zl1 : w3.heap.size + 1 < y1.heap.size := Nat.lt_of_lt_of_le (Nat.lt_succ_self _) z_hY1) | skip)) | (go_at_call 9; (with_reducible refine (implStepCounted_any _ p0 ⟨op1, oa1, ob1, oc1⟩ _ ((O0_3.below blw_).rd)).mono ?_); rintro e y2 ⟨zF, rfl, oF, hY2⟩; obtain ob_ := oF.toB; obtain ⟨Bg, dg, Cg, eg, osg, Eg, gg, rfl, owng⟩ := oF; (have z_hY2 := Below.size hY2); (try simp only [World.size_alloc, World.size_setCell, World.size_drew, World.heap_drewN] at z_hY2); obtain ⟨hbc2, hbf2, -⟩ := bcell hY2; (first | (have zl2 : y1.heap.size < y2.heap.size := Nat.lt_of_lt_of_le (Nat.lt_succ_self _) z_hY2) | skip); (first | (have zl1_2 := Nat.lt_of_lt_of_le zl1 z_hY2) | skip)))
      all_goals
        (try simp only [World.size_alloc, World.size_setCell, World.size_drew, World.heap_drewN, heap_drew_] at owng)
        go_wp2_with fail
        (first | (refine fact_then (P := y2.cell? ⟨y1.heap.size, 0, none⟩ = some (.slice none 0 0)) ?_ ?_; (focus (simp (disch := (first | omega | (simp; done) | (simp; omega))) [go_sem, hbc1, hbc2]; done)); intro bx0) | (refine fact_then (P := y2.cell? ⟨w3.heap.size + 1, 0, none⟩ = some (.slice none 0 0)) ?_ ?_; (focus (simp (disch := (first | omega | (simp; done) | (simp; omega))) [go_sem, hbc1, hbc2]; done)); intro bx0) | (have bx0 := True.intro))
        (first | (refine fact_then (P := y2.cell? ⟨y1.heap.size, 1, none⟩ = some (.slice none 0 0)) ?_ ?_; (focus (simp (disch := (first | omega | (simp; done) | (simp; omega))) [go_sem, hbc1, hbc2]; done)); intro bx1) | (refine fact_then (P := y2.cell? ⟨w3.heap.size + 1, 1, none⟩ = some (.slice none 0 0)) ?_ ?_; (focus (simp (disch := (first | omega | (simp; done) | (simp; omega))) [go_sem, hbc1, hbc2]; done)); intro bx1) | (have bx1 := True.intro))
        (first | (refine fact_then (P := y2.cell? ⟨y1.heap.size, 2, none⟩ = some (.slice none 0 0)) ?_ ?_; (focus (simp (disch := (first | omega | (simp; done) | (simp; omega))) [go_sem, hbc1, hbc2]; done)); intro bx2) | (refine fact_then (P := y2.cell? ⟨w3.heap.size + 1, 2, none⟩ = some (.slice none 0 0)) ?_ ?_; (focus (simp (disch := (first | omega | (simp; done) | (simp; omega))) [go_sem, hbc1, hbc2]; done)); intro bx2) | (have bx2 := True.intro))
        go_meet
        refine ⟨_, Bg, dg, Cg, eg, Eg, gg, _, _, rfl, rfl, ob_.keep (fun g h1 h2 hg => ?_), Box.of3 ?_ ?_ ?_, ?_, ?_, ?_, ?_, ?_, blw_⟩
        · (try simp only [World.size_alloc, World.size_setCell, World.size_drew, World.heap_drewN, heap_drew_] at h1)
          (repeat (first | rw [heap_drew_] | rw [heap_setCell_ne _ _ _ (by first | omega | (simp; done) | (simp; omega))] | rw [Below.heap_alloc _ _ _ (by first | omega | (simp; done) | (simp; omega))]))
        · first | (simp [go_sem]; done) | (simp (disch := (first | omega | (simp; done) | (simp; omega))) [go_sem, hbc1, hbc2]; done) | (simp [go_sem, bx0, bx1, bx2]; done)
        · first | (simp [go_sem]; done) | (simp (disch := (first | omega | (simp; done) | (simp; omega))) [go_sem, hbc1, hbc2]; done) | (simp [go_sem, bx0, bx1, bx2]; done)
        · first | (simp [go_sem]; done) | (simp (disch := (first | omega | (simp; done) | (simp; omega))) [go_sem, hbc1, hbc2]; done) | (simp [go_sem, bx0, bx1, bx2]; done)
        · (first | omega | (simp; done) | (simp; omega))
        · (first | omega | (simp; done) | (simp; omega))
        · (first | omega | (simp; done) | (simp; omega))
        · (first | omega | (simp; done) | (simp; omega))
        · (first | omega | (simp; done) | (simp; omega))
    case rest =>
      obtain ⟨bg, Bg, dg, Cg, eg, Eg, gg, log, hig, rfl, rfl, Og_4, Xg_4, iwg, ilg, ihg, ibg, icg, hCg⟩ := hcut
      clear HS
      obtain ⟨w4, hwc⟩ : ∃ x, x = wc := ⟨_, rfl⟩
      subst hwc
      have X0_4 : Box w4 w3.heap.size [.slice BX0 p0.store.cells.length dX0, .slice CX0 p0.store.roots.length eX0, .slice EX0 p0.counts.length gX0] := (Box.new w3 [.slice BX0 p0.store.cells.length dX0, .slice CX0 p0.store.roots.length eX0, .slice EX0 p0.counts.length gX0] 28).below hCg
      have XC4 : Below w3.heap.size w3 w4 := Below.trans (show Below w3.heap.size w3 (w3.alloc (.cells #[.slice BX0 p0.store.cells.length dX0, .slice CX0 p0.store.roots.length eX0, .slice EX0 p0.counts.length gX0] 28)) from blw_) (hCg.mono (by first | exact Nat.le_refl _ | (simp; done) | (simp; omega)))
      have W4_ : Below w.heap.size w w4 := W3_.trans (XC4.mono W3_.size)
      have zs_4 := XC4.size
      have zp_4 : w3.heap.size < w4.heap.size := World.block_lt_of_cell? w4 _ (X0_4 0 _ rfl)
      have A0_4 := A0_3.below XC4
      clear A0_3
      have A1_4 := A1_3.below XC4
      clear A1_3
      have Xw_4 := Xw_3.below XC4
      clear Xw_3
      have Ow_4 := Ow_3.below XC4
      clear Ow_3
      have O0_4 := O0_3.below XC4
      clear O0_3
      clear XC4 hCg
      have Xg_c0 : w4.cell? ⟨bg, 0, none⟩ = some (.slice Bg (stepCountM p0 ⟨op1, oa1, ob1, oc1⟩).1.store.cells.length dg) := Xg_4 0 _ rfl
      have Xg_c1 : w4.cell? ⟨bg, 1, none⟩ = some (.slice Cg (stepCountM p0 ⟨op1, oa1, ob1, oc1⟩).1.store.roots.length eg) := Xg_4 1 _ rfl
      have Xg_c2 : w4.cell? ⟨bg, 2, none⟩ = some (.slice Eg (stepCountM p0 ⟨op1, oa1, ob1, oc1⟩).1.counts.length gg) := Xg_4 2 _ rfl
      have Xw_c0 : w4.cell? ⟨bw, 0, none⟩ = some (.slice Bw (stepCountM p0 ⟨op1, oa1, ob1, oc1⟩).1.store.cells.length dw) := Xw_4 0 _ rfl
      have Xw_c1 : w4.cell? ⟨bw, 1, none⟩ = some (.slice Cw (stepCountM p0 ⟨op1, oa1, ob1, oc1⟩).1.store.roots.length ew) := Xw_4 1 _ rfl
      have Xw_c2 : w4.cell? ⟨bw, 2, none⟩ = some (.slice Ew (stepCountM p0 ⟨op1, oa1, ob1, oc1⟩).1.counts.length gw) := Xw_4 2 _ rfl
      have heq : eqB (stepCountM p0 ⟨op1, oa1, ob1, oc1⟩).1 (stepCountM p0 ⟨op1, oa1, ob1, oc1⟩).1 = true := eqB_of rfl
      go_wp2_with fail
      refine (eqCounted_any _ _ (stepCountM p0 ⟨op1, oa1, ob1, oc1⟩).1 (stepCountM p0 ⟨op1, oa1, ob1, oc1⟩).1 _ ((Og_4.below blw_).rd) ((Ow_4.below blw_).rd)).mono ?_
      rw [heq]
      rintro e w5 ⟨rfl, hB5⟩
      clear Xg_c0 Xg_c1 Xg_c2
      clear Xw_c0 Xw_c1 Xw_c2
      clear heq
      (have z_hB5 := Below.size hB5); (try simp only [World.size_alloc, World.size_setCell, World.size_drew, World.heap_drewN] at z_hB5)
      have X5 : Below w4.heap.size w4 w5 := blw_
      clear hB5
      have W5_ : Below w.heap.size w w5 := W4_.trans (X5.mono W4_.size)
      have zs_5 := X5.size
      have A0_5 := A0_4.below X5
      clear A0_4
      have A1_5 := A1_4.below X5
      clear A1_4
      have Xw_5 := Xw_4.below X5
      clear Xw_4
      have Ow_5 := Ow_4.below X5
      clear Ow_4
      have O0_5 := O0_4.below X5
      clear O0_4
      have X0_5 := X0_4.below X5
      clear X0_4
      have Xg_5 := Xg_4.below X5
      clear Xg_4
      have Og_5 := Og_4.below X5
      clear Og_4
      clear X5
      have heq : eqB p0 p0 = true := eqB_of rfl
      have HS : ∀ W, Below w5.heap.size w5 W → W.cell? ⟨w3.heap.size, 0, none⟩ = some (.slice BX0 p0.store.cells.length dX0) ∧ W.cell? ⟨w3.heap.size, 1, none⟩ = some (.slice CX0 p0.store.roots.length eX0) ∧ W.cell? ⟨w3.heap.size, 2, none⟩ = some (.slice EX0 p0.counts.length gX0) ∧ W.cell? ⟨w.heap.size, 0, none⟩ = some (.slice BA0 p0.store.cells.length dA0) ∧ W.cell? ⟨w.heap.size, 1, none⟩ = some (.slice CA0 p0.store.roots.length eA0) ∧ W.cell? ⟨w.heap.size, 2, none⟩ = some (.slice EA0 p0.counts.length gA0) := fun W hW => ⟨cell_below (X0_5 0 _ rfl) hW, cell_below (X0_5 1 _ rfl) hW, cell_below (X0_5 2 _ rfl) hW, cell_below (A0_5 0 _ rfl) hW, cell_below (A0_5 1 _ rfl) hW, cell_below (A0_5 2 _ rfl) hW⟩
      go_upto_region 10 with fail
      go_region_held3 (fun w' => w'.cell? ⟨w3.heap.size, 0, none⟩ = some (.slice BX0 p0.store.cells.length dX0) ∧ w'.cell? ⟨w3.heap.size, 1, none⟩ = some (.slice CX0 p0.store.roots.length eX0) ∧ w'.cell? ⟨w3.heap.size, 2, none⟩ = some (.slice EX0 p0.counts.length gX0) ∧ w'.cell? ⟨w.heap.size, 0, none⟩ = some (.slice BA0 p0.store.cells.length dA0) ∧ w'.cell? ⟨w.heap.size, 1, none⟩ = some (.slice CA0 p0.store.roots.length eA0) ∧ w'.cell? ⟨w.heap.size, 2, none⟩ = some (.slice EA0 p0.counts.length gA0))
        (first | exact HS _ blw_)
        (first | (go_at_call 25; (with_reducible refine (toCounted_any _ p0 _ (hv0.below (W5_.trans (Below.mono (show Below w5.heap.size w5 _ from blw_) W5_.size))) s0.cells s0.refs s0.roots t0).mono ?_); rintro e y1 ⟨z0, rfl, o0, hY1⟩; (have z_hY1 := Below.size hY1); (try simp only [World.size_alloc, World.size_setCell, World.size_drew, World.heap_drewN] at z_hY1); have XY1 : Below w5.heap.size w5 y1 := blw_) | (go_at_call 27; (with_reducible refine (eqCounted_any _ _ p0 p0 _ ((O0_5.below blw_).rd) (o0.rc.below blw_)).mono ?_); rw [heq]; rintro e w6 ⟨rfl, hB6⟩))
      clear HS heq
      (have z_hB6 := Below.size hB6); (try simp only [World.size_alloc, World.size_setCell, World.size_drew, World.heap_drewN] at z_hB6)
      have X6 : Below w5.heap.size w5 w6 := blw_
      clear hB6
      have W6_ : Below w.heap.size w w6 := W5_.trans (X6.mono W5_.size)
      have zs_6 := X6.size
      have A0_6 := A0_5.below X6
      clear A0_5
      have A1_6 := A1_5.below X6
      clear A1_5
      have Xw_6 := Xw_5.below X6
      clear Xw_5
      have Ow_6 := Ow_5.below X6
      clear Ow_5
      have O0_6 := O0_5.below X6
      clear O0_5
      have X0_6 := X0_5.below X6
      clear X0_5
      have Xg_6 := Xg_5.below X6
      clear Xg_5
      have Og_6 := Og_5.below X6
      clear Og_5
      clear X6
      have hk_ : (0 : Int) ≤ 1 := by omega
      have X0_c0 : w6.cell? ⟨w3.heap.size, 0, none⟩ = some (.slice BX0 p0.store.cells.length dX0) := X0_6 0 _ rfl
      have X0_c1 : w6.cell? ⟨w3.heap.size, 1, none⟩ = some (.slice CX0 p0.store.roots.length eX0) := X0_6 1 _ rfl
      have X0_c2 : w6.cell? ⟨w3.heap.size, 2, none⟩ = some (.slice EX0 p0.counts.length gX0) := X0_6 2 _ rfl
      go_wp2_with fail
      refine (markCounted_law _ _ _ _ p0 _ (O0_6.below blw_) s0 t0 (by omega) (by omega)).mono ?_
      rintro e w7 ⟨rfl, -, hS7⟩
      clear X0_c0 X0_c1 X0_c2
      clear X0_6
      clear O0_6
      have zs_7 : w6.heap.size ≤ w7.heap.size := (by have := hS7.size; first | exact this | simpa using this)
      have W7_ : Below w.heap.size w w7 := W6_.trans (hS7.below (by first | omega | (simp; done) | (simp; omega)) W6_.size)
      have A0_7 := A0_6.span hS7 (by first | omega | (simp; done) | (simp; omega))
      clear A0_6
      have A1_7 := A1_6.span hS7 (by first | omega | (simp; done) | (simp; omega))
      clear A1_6
      have Xw_7 := Xw_6.span hS7 (by first | omega | (simp; done) | (simp; omega))
      clear Xw_6
      have Ow_7 := Ow_6.span hS7 (by first | omega | (simp; done) | (simp; omega))
      clear Ow_6
      have Xg_7 := Xg_6.span hS7 (by first | omega | (simp; done) | (simp; omega))
      clear Xg_6
      have Og_7 := Og_6.span hS7 (by first | omega | (simp; done) | (simp; omega))
      clear Og_6
      clear hS7
      have hm0 := sizeN_bound s0 t0
      have hk0 : (0 : Int) ≤ 1 + (sizeN p0 : Int) := by omega
      have Xg_c0 : w7.cell? ⟨bg, 0, none⟩ = some (.slice Bg (stepCountM p0 ⟨op1, oa1, ob1, oc1⟩).1.store.cells.length dg) := Xg_7 0 _ rfl
      have Xg_c1 : w7.cell? ⟨bg, 1, none⟩ = some (.slice Cg (stepCountM p0 ⟨op1, oa1, ob1, oc1⟩).1.store.roots.length eg) := Xg_7 1 _ rfl
      have Xg_c2 : w7.cell? ⟨bg, 2, none⟩ = some (.slice Eg (stepCountM p0 ⟨op1, oa1, ob1, oc1⟩).1.counts.length gg) := Xg_7 2 _ rfl
      have Xw_c0 : w7.cell? ⟨bw, 0, none⟩ = some (.slice Bw (stepCountM p0 ⟨op1, oa1, ob1, oc1⟩).1.store.cells.length dw) := Xw_7 0 _ rfl
      have Xw_c1 : w7.cell? ⟨bw, 1, none⟩ = some (.slice Cw (stepCountM p0 ⟨op1, oa1, ob1, oc1⟩).1.store.roots.length ew) := Xw_7 1 _ rfl
      have Xw_c2 : w7.cell? ⟨bw, 2, none⟩ = some (.slice Ew (stepCountM p0 ⟨op1, oa1, ob1, oc1⟩).1.counts.length gw) := Xw_7 2 _ rfl
      have heq : eqB (stepCountM p0 ⟨op1, oa1, ob1, oc1⟩).1 (stepCountM p0 ⟨op1, oa1, ob1, oc1⟩).1 = true := eqB_of rfl
      go_wp2_with fail
      refine (eqCounted_any _ _ (stepCountM p0 ⟨op1, oa1, ob1, oc1⟩).1 (stepCountM p0 ⟨op1, oa1, ob1, oc1⟩).1 _ ((Og_7.below blw_).rd) ((Ow_7.below blw_).rd)).mono ?_
      rw [heq]
      rintro e w8 ⟨rfl, hB8⟩
      clear Xg_c0 Xg_c1 Xg_c2
      clear Xw_c0 Xw_c1 Xw_c2
      clear heq
      (have z_hB8 := Below.size hB8); (try simp only [World.size_alloc, World.size_setCell, World.size_drew, World.heap_drewN] at z_hB8)
      have X8 : Below w7.heap.size w7 w8 := blw_
      clear hB8
      have W8_ : Below w.heap.size w w8 := W7_.trans (X8.mono W7_.size)
      have zs_8 := X8.size
      have A0_8 := A0_7.below X8
      clear A0_7
      have A1_8 := A1_7.below X8
      clear A1_7
      have Xw_8 := Xw_7.below X8
      clear Xw_7
      have Ow_8 := Ow_7.below X8
      clear Ow_7
      have Xg_8 := Xg_7.below X8
      clear Xg_7
      have Og_8 := Og_7.below X8
      clear Og_7
      clear X8
      have Xg_c0 : w8.cell? ⟨bg, 0, none⟩ = some (.slice Bg (stepCountM p0 ⟨op1, oa1, ob1, oc1⟩).1.store.cells.length dg) := Xg_8 0 _ rfl
      have Xg_c1 : w8.cell? ⟨bg, 1, none⟩ = some (.slice Cg (stepCountM p0 ⟨op1, oa1, ob1, oc1⟩).1.store.roots.length eg) := Xg_8 1 _ rfl
      have Xg_c2 : w8.cell? ⟨bg, 2, none⟩ = some (.slice Eg (stepCountM p0 ⟨op1, oa1, ob1, oc1⟩).1.counts.length gg) := Xg_8 2 _ rfl
      go_wp2_with fail
      have hm := HSR.out
      refine (markCounted_law _ _ _ _ (stepCountM p0 ⟨op1, oa1, ob1, oc1⟩).1 _ (Og_8.below blw_) hm.1 hm.2 (by omega) (by omega)).mono ?_
      rintro e w9 ⟨rfl, Q_, hS9⟩
      clear Xg_c0 Xg_c1 Xg_c2
      clear Og_8
      have zs_9 : w8.heap.size ≤ w9.heap.size := (by have := hS9.size; first | exact this | simpa using this)
      have W9_ : Below w.heap.size w w9 := W8_.trans (hS9.below (by first | omega | (simp; done) | (simp; omega)) W8_.size)
      have A0_9 := A0_8.span hS9 (by first | omega | (simp; done) | (simp; omega))
      clear A0_8
      have A1_9 := A1_8.span hS9 (by first | omega | (simp; done) | (simp; omega))
      clear A1_8
      have Xw_9 := Xw_8.span hS9 (by first | omega | (simp; done) | (simp; omega))
      clear Xw_8
      have Ow_9 := Ow_8.span hS9 (by first | omega | (simp; done) | (simp; omega))
      clear Ow_8
      have Xg_9 := Xg_8.span hS9 (by first | omega | (simp; done) | (simp; omega))
      clear Xg_8
      clear hS9
      have Q_9 := Q_
      clear Q_
      have hkm : (0 : Int) ≤ 1 + (sizeN (stepCountM p0 ⟨op1, oa1, ob1, oc1⟩).1 : Int) := by omega
      have Xg_c0 : w9.cell? ⟨bg, 0, none⟩ = some (.slice Bg (stepCountM p0 ⟨op1, oa1, ob1, oc1⟩).1.store.cells.length dg) := Xg_9 0 _ rfl
      have Xg_c1 : w9.cell? ⟨bg, 1, none⟩ = some (.slice Cg (stepCountM p0 ⟨op1, oa1, ob1, oc1⟩).1.store.roots.length eg) := Xg_9 1 _ rfl
      have Xg_c2 : w9.cell? ⟨bg, 2, none⟩ = some (.slice Eg (stepCountM p0 ⟨op1, oa1, ob1, oc1⟩).1.counts.length gg) := Xg_9 2 _ rfl
      go_wp2_with fail
      refine (heldCounted_any _ (stepCountM p0 ⟨op1, oa1, ob1, oc1⟩).1 _ _ (Q_9.below blw_) HSR.out.1 HSR.out.2 (by omega) (by omega)).mono ?_
      rintro e w10 ⟨rfl, hB10⟩
      clear Xg_c0 Xg_c1 Xg_c2
      (have z_hB10 := Below.size hB10); (try simp only [World.size_alloc, World.size_setCell, World.size_drew, World.heap_drewN] at z_hB10)
      have X10 : Below w9.heap.size w9 w10 := blw_
      clear hB10
      have W10_ : Below w.heap.size w w10 := W9_.trans (X10.mono W9_.size)
      have zs_10 := X10.size
      have A0_10 := A0_9.below X10
      clear A0_9
      have A1_10 := A1_9.below X10
      clear A1_9
      have Xw_10 := Xw_9.below X10
      clear Xw_9
      have Ow_10 := Ow_9.below X10
      clear Ow_9
      have Xg_10 := Xg_9.below X10
      clear Xg_9
      have Q_10 := Q_9.below X10
      clear Q_9
      clear X10
      go_upto_region 24 with fail
      have HS : ∀ W, Below w10.heap.size w10 W → W.cell? ⟨w.heap.size, 0, none⟩ = some (.slice BA0 p0.store.cells.length dA0) ∧ W.cell? ⟨w.heap.size, 1, none⟩ = some (.slice CA0 p0.store.roots.length eA0) ∧ W.cell? ⟨w.heap.size, 2, none⟩ = some (.slice EA0 p0.counts.length gA0) ∧ W.cell? ⟨w.heap.size + 1, 0, none⟩ = some (.int .i64 op1) ∧ W.cell? ⟨w.heap.size + 1, 1, none⟩ = some (.int .i64 oa1) ∧ W.cell? ⟨w.heap.size + 1, 2, none⟩ = some (.int .i64 ob1) ∧ W.cell? ⟨w.heap.size + 1, 3, none⟩ = some (.int .i64 oc1) := fun W hW => ⟨cell_below (A0_10 0 _ rfl) (Below.trans (show Below w10.heap.size w10 w10 from blw_) (hW.mono (by first | exact Nat.le_refl _ | (simp; done) | (simp; omega)))), cell_below (A0_10 1 _ rfl) (Below.trans (show Below w10.heap.size w10 w10 from blw_) (hW.mono (by first | exact Nat.le_refl _ | (simp; done) | (simp; omega)))), cell_below (A0_10 2 _ rfl) (Below.trans (show Below w10.heap.size w10 w10 from blw_) (hW.mono (by first | exact Nat.le_refl _ | (simp; done) | (simp; omega)))), cell_below (A1_10 0 _ rfl) (Below.trans (show Below w10.heap.size w10 w10 from blw_) (hW.mono (by first | exact Nat.le_refl _ | (simp; done) | (simp; omega)))), cell_below (A1_10 1 _ rfl) (Below.trans (show Below w10.heap.size w10 w10 from blw_) (hW.mono (by first | exact Nat.le_refl _ | (simp; done) | (simp; omega)))), cell_below (A1_10 2 _ rfl) (Below.trans (show Below w10.heap.size w10 w10 from blw_) (hW.mono (by first | exact Nat.le_refl _ | (simp; done) | (simp; omega)))), cell_below (A1_10 3 _ rfl) (Below.trans (show Below w10.heap.size w10 w10 from blw_) (hW.mono (by first | exact Nat.le_refl _ | (simp; done) | (simp; omega))))⟩
      go_cut [14, 15] (fun s_r s_s wx => ∃ (bh : Nat) (Bh : Option Addr) (dh : Nat) (Ch : Option Addr) (eh : Nat) (Eh : Option Addr) (gh : Nat) (lo_ hi_ : Nat), s_r = .pointer (some ⟨bh, 0, none⟩) ∧ s_s = .bool (stepCountM p0 ⟨op1, oa1, ob1, oc1⟩).2 ∧ OCB lo_ hi_ wx (.agg #[.slice Bh (stepCountM p0 ⟨op1, oa1, ob1, oc1⟩).1.store.cells.length dh, .slice Ch (stepCountM p0 ⟨op1, oa1, ob1, oc1⟩).1.store.roots.length eh, .slice Eh (stepCountM p0 ⟨op1, oa1, ob1, oc1⟩).1.counts.length gh]) (stepCountM p0 ⟨op1, oa1, ob1, oc1⟩).1 ∧ Box wx bh [.slice Bh (stepCountM p0 ⟨op1, oa1, ob1, oc1⟩).1.store.cells.length dh, .slice Ch (stepCountM p0 ⟨op1, oa1, ob1, oc1⟩).1.store.roots.length eh, .slice Eh (stepCountM p0 ⟨op1, oa1, ob1, oc1⟩).1.counts.length gh] ∧ (bh < lo_ ∨ hi_ ≤ bh) ∧ w10.heap.size ≤ lo_ ∧ hi_ ≤ wx.heap.size ∧ w10.heap.size ≤ bh ∧ bh < wx.heap.size ∧ Below w10.heap.size w10 wx)
      case first =>
        go_region_held3 (fun w' => w'.cell? ⟨w.heap.size, 0, none⟩ = some (.slice BA0 p0.store.cells.length dA0) ∧ w'.cell? ⟨w.heap.size, 1, none⟩ = some (.slice CA0 p0.store.roots.length eA0) ∧ w'.cell? ⟨w.heap.size, 2, none⟩ = some (.slice EA0 p0.counts.length gA0) ∧ w'.cell? ⟨w.heap.size + 1, 0, none⟩ = some (.int .i64 op1) ∧ w'.cell? ⟨w.heap.size + 1, 1, none⟩ = some (.int .i64 oa1) ∧ w'.cell? ⟨w.heap.size + 1, 2, none⟩ = some (.int .i64 ob1) ∧ w'.cell? ⟨w.heap.size + 1, 3, none⟩ = some (.int .i64 oc1))
          (first | exact HS _ blw_)
          (first | (go_at_call 25; (with_reducible refine (toCounted_any _ p0 _ (hv0.below (W10_.trans (Below.mono (show Below w10.heap.size w10 _ from blw_) W10_.size))) s0.cells s0.refs s0.roots t0).mono ?_); rintro e y1 ⟨z0, rfl, o0, hY1⟩; obtain ⟨By0, dy0, Cy0, ey0, Ey0, gy0, rfl, -⟩ := o0.rc; have ob0 := o0.toB; (have z_hY1 := Below.size hY1); (try simp only [World.size_alloc, World.size_setCell, World.size_drew, World.heap_drewN] at z_hY1); obtain ⟨hbc1, hbf1, -⟩ := bcell hY1; (first | (have zl1 : w10.heap.size < y1.heap.size := Nat.lt_of_lt_of_le (Nat.lt_succ_self _) z_hY1) | skip)) | (go_at_call 26; (with_reducible refine (toCommand_any op1 oa1 ob1 oc1 _).mono ?_); rintro e y2 ⟨rfl, hY2⟩; (have z_hY2 := Below.size hY2); (try simp only [World.size_alloc, World.size_setCell, World.size_drew, World.heap_drewN] at z_hY2); obtain ⟨hbc2, hbf2, -⟩ := bcell hY2; (first | (have zl2 : y1.heap.size < y2.heap.size := Nat.lt_of_lt_of_le (Nat.lt_succ_self _) z_hY2) | skip); (first | (have zl1_2 := Nat.lt_of_lt_of_le zl1 z_hY2) | skip)) | (go_at_call 9; (with_reducible refine (implStepCounted_any _ p0 ⟨op1, oa1, ob1, oc1⟩ _ ((ob0.below blw_).rd)).mono ?_); rintro e y3 ⟨zF, rfl, oF, hY3⟩; obtain ob_ := oF.toB; obtain ⟨Bh, dh, Ch, eh, osh, Eh, gh, rfl, ownh⟩ := oF; (have z_hY3 := Below.size hY3); (try simp only [World.size_alloc, World.size_setCell, World.size_drew, World.heap_drewN] at z_hY3); obtain ⟨hbc3, hbf3, -⟩ := bcell hY3; (first | (have zl3 : y2.heap.size < y3.heap.size := Nat.lt_of_lt_of_le (Nat.lt_succ_self _) z_hY3) | skip); (first | (have zl1_3 := Nat.lt_of_lt_of_le zl1 z_hY3) | skip); (first | (have zl1_3 := Nat.lt_of_lt_of_le zl1_2 z_hY3) | skip); (first | (have zl2_3 := Nat.lt_of_lt_of_le zl2 z_hY3) | skip)))
        all_goals
          (try simp only [World.size_alloc, World.size_setCell, World.size_drew, World.heap_drewN, heap_drew_] at ownh)
          go_wp2_with fail
          (first | (refine fact_then (P := y3.cell? ⟨y2.heap.size, 0, none⟩ = some (.slice none 0 0)) ?_ ?_; (focus (simp (disch := (first | omega | (simp; done) | (simp; omega))) [go_sem, hbc1, hbc2, hbc3]; done)); intro bx0) | (refine fact_then (P := y3.cell? ⟨y1.heap.size, 0, none⟩ = some (.slice none 0 0)) ?_ ?_; (focus (simp (disch := (first | omega | (simp; done) | (simp; omega))) [go_sem, hbc1, hbc2, hbc3]; done)); intro bx0) | (refine fact_then (P := y3.cell? ⟨w10.heap.size, 0, none⟩ = some (.slice none 0 0)) ?_ ?_; (focus (simp (disch := (first | omega | (simp; done) | (simp; omega))) [go_sem, hbc1, hbc2, hbc3]; done)); intro bx0) | (have bx0 := True.intro))
          (first | (refine fact_then (P := y3.cell? ⟨y2.heap.size, 1, none⟩ = some (.slice none 0 0)) ?_ ?_; (focus (simp (disch := (first | omega | (simp; done) | (simp; omega))) [go_sem, hbc1, hbc2, hbc3]; done)); intro bx1) | (refine fact_then (P := y3.cell? ⟨y1.heap.size, 1, none⟩ = some (.slice none 0 0)) ?_ ?_; (focus (simp (disch := (first | omega | (simp; done) | (simp; omega))) [go_sem, hbc1, hbc2, hbc3]; done)); intro bx1) | (refine fact_then (P := y3.cell? ⟨w10.heap.size, 1, none⟩ = some (.slice none 0 0)) ?_ ?_; (focus (simp (disch := (first | omega | (simp; done) | (simp; omega))) [go_sem, hbc1, hbc2, hbc3]; done)); intro bx1) | (have bx1 := True.intro))
          (first | (refine fact_then (P := y3.cell? ⟨y2.heap.size, 2, none⟩ = some (.slice none 0 0)) ?_ ?_; (focus (simp (disch := (first | omega | (simp; done) | (simp; omega))) [go_sem, hbc1, hbc2, hbc3]; done)); intro bx2) | (refine fact_then (P := y3.cell? ⟨y1.heap.size, 2, none⟩ = some (.slice none 0 0)) ?_ ?_; (focus (simp (disch := (first | omega | (simp; done) | (simp; omega))) [go_sem, hbc1, hbc2, hbc3]; done)); intro bx2) | (refine fact_then (P := y3.cell? ⟨w10.heap.size, 2, none⟩ = some (.slice none 0 0)) ?_ ?_; (focus (simp (disch := (first | omega | (simp; done) | (simp; omega))) [go_sem, hbc1, hbc2, hbc3]; done)); intro bx2) | (have bx2 := True.intro))
          go_meet
          refine ⟨_, Bh, dh, Ch, eh, Eh, gh, _, _, rfl, rfl, ob_.keep (fun g h1 h2 hg => ?_), Box.of3 ?_ ?_ ?_, ?_, ?_, ?_, ?_, ?_, blw_⟩
          · (try simp only [World.size_alloc, World.size_setCell, World.size_drew, World.heap_drewN, heap_drew_] at h1)
            (repeat (first | rw [heap_drew_] | rw [heap_setCell_ne _ _ _ (by first | omega | (simp; done) | (simp; omega))] | rw [Below.heap_alloc _ _ _ (by first | omega | (simp; done) | (simp; omega))]))
          · first | (simp [go_sem]; done) | (simp (disch := (first | omega | (simp; done) | (simp; omega))) [go_sem, hbc1, hbc2, hbc3]; done) | (simp [go_sem, bx0, bx1, bx2]; done)
          · first | (simp [go_sem]; done) | (simp (disch := (first | omega | (simp; done) | (simp; omega))) [go_sem, hbc1, hbc2, hbc3]; done) | (simp [go_sem, bx0, bx1, bx2]; done)
          · first | (simp [go_sem]; done) | (simp (disch := (first | omega | (simp; done) | (simp; omega))) [go_sem, hbc1, hbc2, hbc3]; done) | (simp [go_sem, bx0, bx1, bx2]; done)
          · (first | omega | (simp; done) | (simp; omega))
          · (first | omega | (simp; done) | (simp; omega))
          · (first | omega | (simp; done) | (simp; omega))
          · (first | omega | (simp; done) | (simp; omega))
          · (first | omega | (simp; done) | (simp; omega))
      case rest =>
        obtain ⟨bh, Bh, dh, Ch, eh, Eh, gh, loh, hih, rfl, rfl, Oh_11, Xh_11, iwh, ilh, ihh, ibh, ich, hCh⟩ := hcut
        clear HS
        obtain ⟨w11, hwc⟩ : ∃ x, x = wc := ⟨_, rfl⟩
        subst hwc
        have XC11 : Below w10.heap.size w10 w11 := Below.trans (show Below w10.heap.size w10 w10 from blw_) (hCh.mono (by first | exact Nat.le_refl _ | (simp; done) | (simp; omega)))
        have W11_ : Below w.heap.size w w11 := W10_.trans (XC11.mono W10_.size)
        have zs_11 := XC11.size
        have A0_11 := A0_10.below XC11
        clear A0_10
        have A1_11 := A1_10.below XC11
        clear A1_10
        have Xw_11 := Xw_10.below XC11
        clear Xw_10
        have Ow_11 := Ow_10.below XC11
        clear Ow_10
        have Xg_11 := Xg_10.below XC11
        clear Xg_10
        have Q_11 := Q_10.below XC11
        clear Q_10
        clear XC11 hCh
        have Xh_c0 : w11.cell? ⟨bh, 0, none⟩ = some (.slice Bh (stepCountM p0 ⟨op1, oa1, ob1, oc1⟩).1.store.cells.length dh) := Xh_11 0 _ rfl
        have Xh_c1 : w11.cell? ⟨bh, 1, none⟩ = some (.slice Ch (stepCountM p0 ⟨op1, oa1, ob1, oc1⟩).1.store.roots.length eh) := Xh_11 1 _ rfl
        have Xh_c2 : w11.cell? ⟨bh, 2, none⟩ = some (.slice Eh (stepCountM p0 ⟨op1, oa1, ob1, oc1⟩).1.counts.length gh) := Xh_11 2 _ rfl
        have Xw_c0 : w11.cell? ⟨bw, 0, none⟩ = some (.slice Bw (stepCountM p0 ⟨op1, oa1, ob1, oc1⟩).1.store.cells.length dw) := Xw_11 0 _ rfl
        have Xw_c1 : w11.cell? ⟨bw, 1, none⟩ = some (.slice Cw (stepCountM p0 ⟨op1, oa1, ob1, oc1⟩).1.store.roots.length ew) := Xw_11 1 _ rfl
        have Xw_c2 : w11.cell? ⟨bw, 2, none⟩ = some (.slice Ew (stepCountM p0 ⟨op1, oa1, ob1, oc1⟩).1.counts.length gw) := Xw_11 2 _ rfl
        have heq : eqB (stepCountM p0 ⟨op1, oa1, ob1, oc1⟩).1 (stepCountM p0 ⟨op1, oa1, ob1, oc1⟩).1 = true := eqB_of rfl
        go_wp2_with fail
        refine (eqCounted_any _ _ (stepCountM p0 ⟨op1, oa1, ob1, oc1⟩).1 (stepCountM p0 ⟨op1, oa1, ob1, oc1⟩).1 _ ((Oh_11.below blw_).rd) ((Ow_11.below blw_).rd)).mono ?_
        rw [heq]
        rintro e w12 ⟨rfl, hB12⟩
        clear Xh_c0 Xh_c1 Xh_c2
        clear Xw_c0 Xw_c1 Xw_c2
        clear heq
        (have z_hB12 := Below.size hB12); (try simp only [World.size_alloc, World.size_setCell, World.size_drew, World.heap_drewN] at z_hB12)
        have X12 : Below w11.heap.size w11 w12 := blw_
        clear hB12
        have W12_ : Below w.heap.size w w12 := W11_.trans (X12.mono W11_.size)
        have zs_12 := X12.size
        have A0_12 := A0_11.below X12
        clear A0_11
        have A1_12 := A1_11.below X12
        clear A1_11
        have Xw_12 := Xw_11.below X12
        clear Xw_11
        have Ow_12 := Ow_11.below X12
        clear Ow_11
        have Xg_12 := Xg_11.below X12
        clear Xg_11
        have Q_12 := Q_11.below X12
        clear Q_11
        have Xh_12 := Xh_11.below X12
        clear Xh_11
        have Oh_12 := Oh_11.below X12
        clear Oh_11
        clear X12
        have Xg_c0 : w12.cell? ⟨bg, 0, none⟩ = some (.slice Bg (stepCountM p0 ⟨op1, oa1, ob1, oc1⟩).1.store.cells.length dg) := Xg_12 0 _ rfl
        have Xg_c1 : w12.cell? ⟨bg, 1, none⟩ = some (.slice Cg (stepCountM p0 ⟨op1, oa1, ob1, oc1⟩).1.store.roots.length eg) := Xg_12 1 _ rfl
        have Xg_c2 : w12.cell? ⟨bg, 2, none⟩ = some (.slice Eg (stepCountM p0 ⟨op1, oa1, ob1, oc1⟩).1.counts.length gg) := Xg_12 2 _ rfl
        go_wp2_with fail
        refine (heldCounted_any _ (stepCountM p0 ⟨op1, oa1, ob1, oc1⟩).1 _ _ (Q_12.below blw_) HSR.out.1 HSR.out.2 (by omega) (by omega)).mono ?_
        rintro e w13 ⟨rfl, hB13⟩
        clear Xg_c0 Xg_c1 Xg_c2
        (have z_hB13 := Below.size hB13); (try simp only [World.size_alloc, World.size_setCell, World.size_drew, World.heap_drewN] at z_hB13)
        have X13 : Below w12.heap.size w12 w13 := blw_
        clear hB13
        have W13_ : Below w.heap.size w w13 := W12_.trans (X13.mono W12_.size)
        have zs_13 := X13.size
        have A0_13 := A0_12.below X13
        clear A0_12
        have A1_13 := A1_12.below X13
        clear A1_12
        have Xw_13 := Xw_12.below X13
        clear Xw_12
        have Ow_13 := Ow_12.below X13
        clear Ow_12
        have Xg_13 := Xg_12.below X13
        clear Xg_12
        have Q_13 := Q_12.below X13
        clear Q_12
        have Xh_13 := Xh_12.below X13
        clear Xh_12
        have Oh_13 := Oh_12.below X13
        clear Oh_12
        clear X13
        go_wp2
        go_ret
        exact ⟨rfl, W13_⟩
end Go.Proofs.Ytbnokkdhanlhpaa
