/- FnExactRunPaint: the program's RunPaint returns what the reference's returns, for every argument. No condition. -/
import Derived.Test.YtkmfhadanbfadaaChecked
import Derived.Deep.RegionHeld3
import Derived.Deep.DeepCutAuto
import Derived.Test.YtkmfhadanbfadaaGrMark
import Derived.Test.YtkmfhadanbfadaaGrSz
import Derived.Test.YtkmfhadanbfadaaGrTo
import Derived.Test.YtkmfhadanbfadaaRunP
import Derived.Test.YtkmfhadanbfadaaRunPS
import Derived.Test.YtkmfhadanbfadaaRunPM
namespace Go.Proofs.Ytkmfhadanbfadaa
open Go.RowKit
set_option maxRecDepth 100000
set_option linter.unusedSimpArgs false
set_option linter.unusedVariables false
set_option maxHeartbeats 20000000 in
theorem walkExactRunPaint (L0 : Option Addr) (k0 : Nat) (p0 : List CmdM) (L1 : Option Addr) (k1 : Nat) (p1 : List Int) (w : World) (hv0 : RO w L0 p0) (hl0 : p0.length ≤ 9223372036854775807) (hv1 : RF fi w L1 p1) (hl1 : p1.length ≤ 9223372036854775807) :
    Calls Try.prog 6 #[.slice L0 p0.length k0, .slice L1 p1.length k1] w fun e w' => e = .returned (.bool true) ∧ Below w.heap.size w w' := by
  by_cases hI1 : 1048576 < (p1.length : Int)
  · go_enter Try.func6, Try.ntmps6
    go_wp2
    go_ret
    exact ⟨rfl, (by repeat (first | ((with_reducible refine Below.setc ?_ ?_ _); focus (first | omega | (simp; done) | (simp; omega))) | ((with_reducible refine Below.allocc ?_ ?_ _); focus (first | omega | (simp; done) | (simp; omega))) | (with_reducible refine Below.drew ?_) | (with_reducible refine Below.drewn ?_) | (with_reducible assumption) | (with_reducible exact Below.refl _ _) | ((with_reducible refine Below.stepp (by with_reducible assumption) ?_ ?_); focus (first | omega | (simp; done) | (simp; omega)))))⟩
  have hle0 : -1 ≤ szI p0.length (1048576) ∧ szI p0.length (1048576) ≤ 1048576 := by unfold szI; split <;> omega
  by_cases hneg0 : szI p0.length (1048576) < 0
  · go_enter Try.func6, Try.ntmps6
    go_wp2_with (go_at_call 35; refine (szCommandS_any _ _ _ _ _ hl0 (by omega) (by omega)).mono ?_; rintro e w_ ⟨rfl, rfl⟩)
    go_ret
    exact ⟨rfl, (by repeat (first | ((with_reducible refine Below.setc ?_ ?_ _); focus (first | omega | (simp; done) | (simp; omega))) | ((with_reducible refine Below.allocc ?_ ?_ _); focus (first | omega | (simp; done) | (simp; omega))) | (with_reducible refine Below.drew ?_) | (with_reducible refine Below.drewn ?_) | (with_reducible assumption) | (with_reducible exact Below.refl _ _) | ((with_reducible refine Below.stepp (by with_reducible assumption) ?_ ?_); focus (first | omega | (simp; done) | (simp; omega)))))⟩
  have s0 : p0.length ≤ 1048576 := by have h9 := hneg0; unfold szI at h9; split at h9 <;> omega
  have s1 : p1.length ≤ 1048576 := by omega
  have HSR := Lib.hid (small_RunPaint p0 p1)
  go_enter Try.func6, Try.ntmps6
  go_upto_region 7 with (go_at_call 35; refine (szCommandS_any _ _ _ _ _ hl0 (by omega) (by omega)).mono ?_; rintro e w_ ⟨rfl, rfl⟩)
  have W1 : Below w.heap.size w w := Below.refl _ _
  clear hneg0 hle0 hI1
  go_cut [6] (fun s_r wx => ∃ (bw : Nat) (Bw : Option Addr) (dw : Nat) (Cw : Option Addr) (ew : Nat) (lo_ hi_ : Nat), s_r = .pointer (some ⟨bw, 0, none⟩) ∧ OHB lo_ hi_ wx (.agg #[.slice Bw (runPaintM p0 p1).cells.length dw, .slice Cw (runPaintM p0 p1).roots.length ew]) (runPaintM p0 p1) ∧ Box wx bw [.slice Bw (runPaintM p0 p1).cells.length dw, .slice Cw (runPaintM p0 p1).roots.length ew] ∧ (bw < lo_ ∨ hi_ ≤ bw) ∧ w.heap.size ≤ lo_ ∧ hi_ ≤ wx.heap.size ∧ w.heap.size ≤ bw ∧ bw < wx.heap.size ∧ Below w.heap.size w wx)
  case first =>
    go_wp2_with (first | (go_at_call 37; (with_reducible refine (toCommandS_any _ p0 _ _ (hv0.below (W1.trans (Below.mono (show Below w.heap.size w _ from (by repeat (first | ((with_reducible refine Below.setc ?_ ?_ _); focus (first | omega | (simp; done) | (simp; omega))) | ((with_reducible refine Below.allocc ?_ ?_ _); focus (first | omega | (simp; done) | (simp; omega))) | (with_reducible refine Below.drew ?_) | (with_reducible refine Below.drewn ?_) | (with_reducible assumption) | (with_reducible exact Below.refl _ _) | ((with_reducible refine Below.stepp (by with_reducible assumption) ?_ ?_); focus (first | omega | (simp; done) | (simp; omega)))))) W1.size))) s0).mono ?_); rintro e y1 ⟨gL0, rfl, -, -, oL0, hY1⟩; (have z_hY1 := Below.size hY1); (try simp only [World.size_alloc, World.size_setCell, World.size_drew, World.heap_drewN] at z_hY1); obtain ⟨hbc1, hbf1, -⟩ := bcell hY1; (first | (have zl1 : w.heap.size < y1.heap.size := Nat.lt_of_lt_of_le (Nat.lt_succ_self _) z_hY1) | skip)) | (go_at_call 38; (with_reducible refine (toIntS_own _ p1 _ _ (hv1.below (W1.trans (Below.mono (show Below w.heap.size w _ from (by repeat (first | ((with_reducible refine Below.setc ?_ ?_ _); focus (first | omega | (simp; done) | (simp; omega))) | ((with_reducible refine Below.allocc ?_ ?_ _); focus (first | omega | (simp; done) | (simp; omega))) | (with_reducible refine Below.drew ?_) | (with_reducible refine Below.drewn ?_) | (with_reducible assumption) | (with_reducible exact Below.refl _ _) | ((with_reducible refine Below.stepp (by with_reducible assumption) ?_ ?_); focus (first | omega | (simp; done) | (simp; omega)))))) W1.size))) s1).mono ?_); rintro e y2 ⟨gL1, rfl, -, oL1, hY2⟩; (have z_hY2 := Below.size hY2); (try simp only [World.size_alloc, World.size_setCell, World.size_drew, World.heap_drewN] at z_hY2); obtain ⟨hbc2, hbf2, -⟩ := bcell hY2; (first | (have zl2 : y1.heap.size < y2.heap.size := Nat.lt_of_lt_of_le (Nat.lt_succ_self _) z_hY2) | skip); (first | (have zl1_2 := Nat.lt_of_lt_of_le zl1 z_hY2) | skip)) | (go_at_call 36; (with_reducible refine (specRunPaint_any _ p0 _ _ p1 _ _ ((oL0.below (by repeat (first | ((with_reducible refine Below.setc ?_ ?_ _); focus (first | omega | (simp; done) | (simp; omega))) | ((with_reducible refine Below.allocc ?_ ?_ _); focus (first | omega | (simp; done) | (simp; omega))) | (with_reducible refine Below.drew ?_) | (with_reducible refine Below.drewn ?_) | (with_reducible assumption) | (with_reducible exact Below.refl _ _) | ((with_reducible refine Below.stepp (by with_reducible assumption) ?_ ?_); focus (first | omega | (simp; done) | (simp; omega)))))).ro) (by omega) ((oL1.below (by repeat (first | ((with_reducible refine Below.setc ?_ ?_ _); focus (first | omega | (simp; done) | (simp; omega))) | ((with_reducible refine Below.allocc ?_ ?_ _); focus (first | omega | (simp; done) | (simp; omega))) | (with_reducible refine Below.drew ?_) | (with_reducible refine Below.drewn ?_) | (with_reducible assumption) | (with_reducible exact Below.refl _ _) | ((with_reducible refine Below.stepp (by with_reducible assumption) ?_ ?_); focus (first | omega | (simp; done) | (simp; omega)))))).rf) (by omega)).mono ?_); rintro e y3 ⟨zF, rfl, oF, hY3⟩; obtain ob_ := oF.toB; obtain ⟨Bw, dw, Cw, ew, osw, rfl, ownw⟩ := oF; (have z_hY3 := Below.size hY3); (try simp only [World.size_alloc, World.size_setCell, World.size_drew, World.heap_drewN] at z_hY3); obtain ⟨hbc3, hbf3, -⟩ := bcell hY3; (first | (have zl3 : y2.heap.size < y3.heap.size := Nat.lt_of_lt_of_le (Nat.lt_succ_self _) z_hY3) | skip); (first | (have zl1_3 := Nat.lt_of_lt_of_le zl1 z_hY3) | skip); (first | (have zl1_3 := Nat.lt_of_lt_of_le zl1_2 z_hY3) | skip); (first | (have zl2_3 := Nat.lt_of_lt_of_le zl2 z_hY3) | skip)))
    all_goals
      (try simp only [World.size_alloc, World.size_setCell, World.size_drew, World.heap_drewN, heap_drew_] at ownw)
      go_wp2_with fail
      go_meet
      refine ⟨_, Bw, dw, Cw, ew, _, _, rfl, ob_.keep (fun g h1 h2 hg => ?_), Box.of2 ?_ ?_, ?_, ?_, ?_, ?_, ?_, (by repeat (first | ((with_reducible refine Below.setc ?_ ?_ _); focus (first | omega | (simp; done) | (simp; omega))) | ((with_reducible refine Below.allocc ?_ ?_ _); focus (first | omega | (simp; done) | (simp; omega))) | (with_reducible refine Below.drew ?_) | (with_reducible refine Below.drewn ?_) | (with_reducible assumption) | (with_reducible exact Below.refl _ _) | ((with_reducible refine Below.stepp (by with_reducible assumption) ?_ ?_); focus (first | omega | (simp; done) | (simp; omega)))))⟩
      · (try simp only [World.size_alloc, World.size_setCell, World.size_drew, World.heap_drewN, heap_drew_] at h1)
        (repeat (first | rw [heap_drew_] | rw [heap_setCell_ne _ _ _ (by first | omega | (simp; done) | (simp; omega))] | rw [Below.heap_alloc _ _ _ (by first | omega | (simp; done) | (simp; omega))]))
      · first | (simp [go_sem]; done) | (simp (disch := (first | omega | (simp; done) | (simp; omega))) [go_sem, hbc1, hbc2, hbc3]; done)
      · first | (simp [go_sem]; done) | (simp (disch := (first | omega | (simp; done) | (simp; omega))) [go_sem, hbc1, hbc2, hbc3]; done)
      · (first | omega | (simp; done) | (simp; omega))
      · (first | omega | (simp; done) | (simp; omega))
      · (first | omega | (simp; done) | (simp; omega))
      · (first | omega | (simp; done) | (simp; omega))
      · (first | omega | (simp; done) | (simp; omega))
  case rest =>
    obtain ⟨bw, Bw, dw, Cw, ew, low, hiw, rfl, Ow_2, Xw_2, iww, ilw, ihw, ibw, icw, hCw⟩ := hcut
    obtain ⟨w2, hwc⟩ : ∃ x, x = wc := ⟨_, rfl⟩
    subst hwc
    have XC2 : Below w.heap.size w w2 := Below.trans (show Below w.heap.size w w from (by repeat (first | ((with_reducible refine Below.setc ?_ ?_ _); focus (first | omega | (simp; done) | (simp; omega))) | ((with_reducible refine Below.allocc ?_ ?_ _); focus (first | omega | (simp; done) | (simp; omega))) | (with_reducible refine Below.drew ?_) | (with_reducible refine Below.drewn ?_) | (with_reducible assumption) | (with_reducible exact Below.refl _ _) | ((with_reducible refine Below.stepp (by with_reducible assumption) ?_ ?_); focus (first | omega | (simp; done) | (simp; omega)))))) (hCw.mono (by first | exact Nat.le_refl _ | (simp; done) | (simp; omega)))
    have W2_ : Below w.heap.size w w2 := W1.trans (XC2.mono W1.size)
    have zs_2 := XC2.size
    clear XC2 hCw
    go_wp2_with fail
    refine (toCommandS_any _ p0 _ _ (hv0.below (W2_.trans (Below.mono (show Below w2.heap.size w2 _ from (by repeat (first | ((with_reducible refine Below.setc ?_ ?_ _); focus (first | omega | (simp; done) | (simp; omega))) | ((with_reducible refine Below.allocc ?_ ?_ _); focus (first | omega | (simp; done) | (simp; omega))) | (with_reducible refine Below.drew ?_) | (with_reducible refine Below.drewn ?_) | (with_reducible assumption) | (with_reducible exact Below.refl _ _) | ((with_reducible refine Below.stepp (by with_reducible assumption) ?_ ?_); focus (first | omega | (simp; done) | (simp; omega)))))) W2_.size))) s0).mono ?_
    rintro e w3 ⟨gX0, rfl, hlo0, -, oX0, hB3⟩
    have hhi0 : gX0 < w3.heap.size := oX0.lt gX0 (by simp [blk])
    have hlo0' : w2.heap.size ≤ gX0 := by first | omega | (simp at hlo0; omega) | (first | omega | (simp; done) | (simp; omega))
    have O0_3 : OOB gX0 w3 p0 := oX0
    clear oX0
    (have z_hB3 := Below.size hB3); (try simp only [World.size_alloc, World.size_setCell, World.size_drew, World.heap_drewN] at z_hB3)
    have X3 : Below w2.heap.size w2 w3 := (by repeat (first | ((with_reducible refine Below.setc ?_ ?_ _); focus (first | omega | (simp; done) | (simp; omega))) | ((with_reducible refine Below.allocc ?_ ?_ _); focus (first | omega | (simp; done) | (simp; omega))) | (with_reducible refine Below.drew ?_) | (with_reducible refine Below.drewn ?_) | (with_reducible assumption) | (with_reducible exact Below.refl _ _) | ((with_reducible refine Below.stepp (by with_reducible assumption) ?_ ?_); focus (first | omega | (simp; done) | (simp; omega)))))
    clear hB3
    have W3_ : Below w.heap.size w w3 := W2_.trans (X3.mono W2_.size)
    have zs_3 := X3.size
    have Xw_3 := Xw_2.below X3
    clear Xw_2
    have Ow_3 := Ow_2.below X3
    clear Ow_2
    clear X3
    go_wp2_with fail
    refine (toIntS_own _ p1 _ _ (hv1.below (W3_.trans (Below.mono (show Below w3.heap.size w3 _ from (by repeat (first | ((with_reducible refine Below.setc ?_ ?_ _); focus (first | omega | (simp; done) | (simp; omega))) | ((with_reducible refine Below.allocc ?_ ?_ _); focus (first | omega | (simp; done) | (simp; omega))) | (with_reducible refine Below.drew ?_) | (with_reducible refine Below.drewn ?_) | (with_reducible assumption) | (with_reducible exact Below.refl _ _) | ((with_reducible refine Below.stepp (by with_reducible assumption) ?_ ?_); focus (first | omega | (simp; done) | (simp; omega)))))) W3_.size))) s1).mono ?_
    rintro e w4 ⟨gX1, rfl, hlo1, oX1, hB4⟩
    have hhi1 : gX1 < w4.heap.size := oX1.lt gX1 (by simp [blk])
    have hlo1' : w3.heap.size ≤ gX1 := by first | omega | (simp at hlo1; omega) | (first | omega | (simp; done) | (simp; omega))
    have O1_4 : OIB gX1 w4 p1 := oX1
    clear oX1
    (have z_hB4 := Below.size hB4); (try simp only [World.size_alloc, World.size_setCell, World.size_drew, World.heap_drewN] at z_hB4)
    have X4 : Below w3.heap.size w3 w4 := (by repeat (first | ((with_reducible refine Below.setc ?_ ?_ _); focus (first | omega | (simp; done) | (simp; omega))) | ((with_reducible refine Below.allocc ?_ ?_ _); focus (first | omega | (simp; done) | (simp; omega))) | (with_reducible refine Below.drew ?_) | (with_reducible refine Below.drewn ?_) | (with_reducible assumption) | (with_reducible exact Below.refl _ _) | ((with_reducible refine Below.stepp (by with_reducible assumption) ?_ ?_); focus (first | omega | (simp; done) | (simp; omega)))))
    clear hB4
    have W4_ : Below w.heap.size w w4 := W3_.trans (X4.mono W3_.size)
    have zs_4 := X4.size
    have Xw_4 := Xw_3.below X4
    clear Xw_3
    have Ow_4 := Ow_3.below X4
    clear Ow_3
    have O0_4 := O0_3.below X4
    clear O0_3
    clear X4
    go_upto_region 10 with fail
    go_cut [9] (fun s_r wx => ∃ (bg : Nat) (Bg : Option Addr) (dg : Nat) (Cg : Option Addr) (eg : Nat) (lo_ hi_ : Nat), s_r = .pointer (some ⟨bg, 0, none⟩) ∧ OHB lo_ hi_ wx (.agg #[.slice Bg (runPaintM p0 p1).cells.length dg, .slice Cg (runPaintM p0 p1).roots.length eg]) (runPaintM p0 p1) ∧ Box wx bg [.slice Bg (runPaintM p0 p1).cells.length dg, .slice Cg (runPaintM p0 p1).roots.length eg] ∧ (bg < lo_ ∨ hi_ ≤ bg) ∧ w4.heap.size ≤ lo_ ∧ hi_ ≤ wx.heap.size ∧ w4.heap.size ≤ bg ∧ bg < wx.heap.size ∧ Below w4.heap.size w4 wx)
    case first =>
      go_wp2_with (first | (go_at_call 39; (with_reducible refine (implRunPaint_any _ p0 _ _ p1 _ _ ((O0_4.below (by repeat (first | ((with_reducible refine Below.setc ?_ ?_ _); focus (first | omega | (simp; done) | (simp; omega))) | ((with_reducible refine Below.allocc ?_ ?_ _); focus (first | omega | (simp; done) | (simp; omega))) | (with_reducible refine Below.drew ?_) | (with_reducible refine Below.drewn ?_) | (with_reducible assumption) | (with_reducible exact Below.refl _ _) | ((with_reducible refine Below.stepp (by with_reducible assumption) ?_ ?_); focus (first | omega | (simp; done) | (simp; omega)))))).ro) (by omega) ((O1_4.below (by repeat (first | ((with_reducible refine Below.setc ?_ ?_ _); focus (first | omega | (simp; done) | (simp; omega))) | ((with_reducible refine Below.allocc ?_ ?_ _); focus (first | omega | (simp; done) | (simp; omega))) | (with_reducible refine Below.drew ?_) | (with_reducible refine Below.drewn ?_) | (with_reducible assumption) | (with_reducible exact Below.refl _ _) | ((with_reducible refine Below.stepp (by with_reducible assumption) ?_ ?_); focus (first | omega | (simp; done) | (simp; omega)))))).rf) (by omega)).mono ?_); rintro e y1 ⟨zF, rfl, oF, hY1⟩; obtain ob_ := oF.toB; obtain ⟨Bg, dg, Cg, eg, osg, rfl, owng⟩ := oF; (have z_hY1 := Below.size hY1); (try simp only [World.size_alloc, World.size_setCell, World.size_drew, World.heap_drewN] at z_hY1); obtain ⟨hbc1, hbf1, -⟩ := bcell hY1; (first | (have zl1 : w4.heap.size < y1.heap.size := Nat.lt_of_lt_of_le (Nat.lt_succ_self _) z_hY1) | skip)))
      all_goals
        (try simp only [World.size_alloc, World.size_setCell, World.size_drew, World.heap_drewN, heap_drew_] at owng)
        go_wp2_with fail
        go_meet
        refine ⟨_, Bg, dg, Cg, eg, _, _, rfl, ob_.keep (fun g h1 h2 hg => ?_), Box.of2 ?_ ?_, ?_, ?_, ?_, ?_, ?_, (by repeat (first | ((with_reducible refine Below.setc ?_ ?_ _); focus (first | omega | (simp; done) | (simp; omega))) | ((with_reducible refine Below.allocc ?_ ?_ _); focus (first | omega | (simp; done) | (simp; omega))) | (with_reducible refine Below.drew ?_) | (with_reducible refine Below.drewn ?_) | (with_reducible assumption) | (with_reducible exact Below.refl _ _) | ((with_reducible refine Below.stepp (by with_reducible assumption) ?_ ?_); focus (first | omega | (simp; done) | (simp; omega)))))⟩
        · (try simp only [World.size_alloc, World.size_setCell, World.size_drew, World.heap_drewN, heap_drew_] at h1)
          (repeat (first | rw [heap_drew_] | rw [heap_setCell_ne _ _ _ (by first | omega | (simp; done) | (simp; omega))] | rw [Below.heap_alloc _ _ _ (by first | omega | (simp; done) | (simp; omega))]))
        · first | (simp [go_sem]; done) | (simp (disch := (first | omega | (simp; done) | (simp; omega))) [go_sem, hbc1]; done)
        · first | (simp [go_sem]; done) | (simp (disch := (first | omega | (simp; done) | (simp; omega))) [go_sem, hbc1]; done)
        · (first | omega | (simp; done) | (simp; omega))
        · (first | omega | (simp; done) | (simp; omega))
        · (first | omega | (simp; done) | (simp; omega))
        · (first | omega | (simp; done) | (simp; omega))
        · (first | omega | (simp; done) | (simp; omega))
    case rest =>
      obtain ⟨bg, Bg, dg, Cg, eg, log, hig, rfl, Og_5, Xg_5, iwg, ilg, ihg, ibg, icg, hCg⟩ := hcut
      obtain ⟨w5, hwc⟩ : ∃ x, x = wc := ⟨_, rfl⟩
      subst hwc
      have XC5 : Below w4.heap.size w4 w5 := Below.trans (show Below w4.heap.size w4 w4 from (by repeat (first | ((with_reducible refine Below.setc ?_ ?_ _); focus (first | omega | (simp; done) | (simp; omega))) | ((with_reducible refine Below.allocc ?_ ?_ _); focus (first | omega | (simp; done) | (simp; omega))) | (with_reducible refine Below.drew ?_) | (with_reducible refine Below.drewn ?_) | (with_reducible assumption) | (with_reducible exact Below.refl _ _) | ((with_reducible refine Below.stepp (by with_reducible assumption) ?_ ?_); focus (first | omega | (simp; done) | (simp; omega)))))) (hCg.mono (by first | exact Nat.le_refl _ | (simp; done) | (simp; omega)))
      have W5_ : Below w.heap.size w w5 := W4_.trans (XC5.mono W4_.size)
      have zs_5 := XC5.size
      have Xw_5 := Xw_4.below XC5
      clear Xw_4
      have Ow_5 := Ow_4.below XC5
      clear Ow_4
      have O0_5 := O0_4.below XC5
      clear O0_4
      have O1_5 := O1_4.below XC5
      clear O1_4
      clear XC5 hCg
      have Xg_c0 : w5.cell? ⟨bg, 0, none⟩ = some (.slice Bg (runPaintM p0 p1).cells.length dg) := Xg_5 0 _ rfl
      have Xg_c1 : w5.cell? ⟨bg, 1, none⟩ = some (.slice Cg (runPaintM p0 p1).roots.length eg) := Xg_5 1 _ rfl
      have Xw_c0 : w5.cell? ⟨bw, 0, none⟩ = some (.slice Bw (runPaintM p0 p1).cells.length dw) := Xw_5 0 _ rfl
      have Xw_c1 : w5.cell? ⟨bw, 1, none⟩ = some (.slice Cw (runPaintM p0 p1).roots.length ew) := Xw_5 1 _ rfl
      have heq : eqB (runPaintM p0 p1) (runPaintM p0 p1) = true := eqB_of rfl
      go_wp2_with fail
      refine (eqHeap_any _ _ (runPaintM p0 p1) (runPaintM p0 p1) _ ((Og_5.below (by repeat (first | ((with_reducible refine Below.setc ?_ ?_ _); focus (first | omega | (simp; done) | (simp; omega))) | ((with_reducible refine Below.allocc ?_ ?_ _); focus (first | omega | (simp; done) | (simp; omega))) | (with_reducible refine Below.drew ?_) | (with_reducible refine Below.drewn ?_) | (with_reducible assumption) | (with_reducible exact Below.refl _ _) | ((with_reducible refine Below.stepp (by with_reducible assumption) ?_ ?_); focus (first | omega | (simp; done) | (simp; omega)))))).rd) ((Ow_5.below (by repeat (first | ((with_reducible refine Below.setc ?_ ?_ _); focus (first | omega | (simp; done) | (simp; omega))) | ((with_reducible refine Below.allocc ?_ ?_ _); focus (first | omega | (simp; done) | (simp; omega))) | (with_reducible refine Below.drew ?_) | (with_reducible refine Below.drewn ?_) | (with_reducible assumption) | (with_reducible exact Below.refl _ _) | ((with_reducible refine Below.stepp (by with_reducible assumption) ?_ ?_); focus (first | omega | (simp; done) | (simp; omega)))))).rd)).mono ?_
      rw [heq]
      rintro e w6 ⟨rfl, hB6⟩
      clear Xg_c0 Xg_c1
      clear Xw_c0 Xw_c1
      clear heq
      (have z_hB6 := Below.size hB6); (try simp only [World.size_alloc, World.size_setCell, World.size_drew, World.heap_drewN] at z_hB6)
      have X6 : Below w5.heap.size w5 w6 := (by repeat (first | ((with_reducible refine Below.setc ?_ ?_ _); focus (first | omega | (simp; done) | (simp; omega))) | ((with_reducible refine Below.allocc ?_ ?_ _); focus (first | omega | (simp; done) | (simp; omega))) | (with_reducible refine Below.drew ?_) | (with_reducible refine Below.drewn ?_) | (with_reducible assumption) | (with_reducible exact Below.refl _ _) | ((with_reducible refine Below.stepp (by with_reducible assumption) ?_ ?_); focus (first | omega | (simp; done) | (simp; omega)))))
      clear hB6
      have W6_ : Below w.heap.size w w6 := W5_.trans (X6.mono W5_.size)
      have zs_6 := X6.size
      have Xw_6 := Xw_5.below X6
      clear Xw_5
      have Ow_6 := Ow_5.below X6
      clear Ow_5
      have O0_6 := O0_5.below X6
      clear O0_5
      have O1_6 := O1_5.below X6
      clear O1_5
      have Xg_6 := Xg_5.below X6
      clear Xg_5
      have Og_6 := Og_5.below X6
      clear Og_5
      clear X6
      go_wp2_with fail
      refine (toCommandS_any _ p0 _ _ (hv0.below (W6_.trans (Below.mono (show Below w6.heap.size w6 _ from (by repeat (first | ((with_reducible refine Below.setc ?_ ?_ _); focus (first | omega | (simp; done) | (simp; omega))) | ((with_reducible refine Below.allocc ?_ ?_ _); focus (first | omega | (simp; done) | (simp; omega))) | (with_reducible refine Below.drew ?_) | (with_reducible refine Below.drewn ?_) | (with_reducible assumption) | (with_reducible exact Below.refl _ _) | ((with_reducible refine Below.stepp (by with_reducible assumption) ?_ ?_); focus (first | omega | (simp; done) | (simp; omega)))))) W6_.size))) s0).mono ?_
      rintro e w7 ⟨gq, rfl, -, -, oq, hB7⟩
      (have z_hB7 := Below.size hB7); (try simp only [World.size_alloc, World.size_setCell, World.size_drew, World.heap_drewN] at z_hB7)
      have X7 : Below w6.heap.size w6 w7 := (by repeat (first | ((with_reducible refine Below.setc ?_ ?_ _); focus (first | omega | (simp; done) | (simp; omega))) | ((with_reducible refine Below.allocc ?_ ?_ _); focus (first | omega | (simp; done) | (simp; omega))) | (with_reducible refine Below.drew ?_) | (with_reducible refine Below.drewn ?_) | (with_reducible assumption) | (with_reducible exact Below.refl _ _) | ((with_reducible refine Below.stepp (by with_reducible assumption) ?_ ?_); focus (first | omega | (simp; done) | (simp; omega)))))
      clear hB7
      have W7_ : Below w.heap.size w w7 := W6_.trans (X7.mono W6_.size)
      have zs_7 := X7.size
      have Xw_7 := Xw_6.below X7
      clear Xw_6
      have Ow_7 := Ow_6.below X7
      clear Ow_6
      have O0_7 := O0_6.below X7
      clear O0_6
      have O1_7 := O1_6.below X7
      clear O1_6
      have Xg_7 := Xg_6.below X7
      clear Xg_6
      have Og_7 := Og_6.below X7
      clear Og_6
      clear X7
      have heq : eqB p0 p0 = true := eqB_of rfl
      go_wp2_with fail
      refine (eqCommandS_any _ _ p0 p0 _ _ _ ((O0_7.below (by repeat (first | ((with_reducible refine Below.setc ?_ ?_ _); focus (first | omega | (simp; done) | (simp; omega))) | ((with_reducible refine Below.allocc ?_ ?_ _); focus (first | omega | (simp; done) | (simp; omega))) | (with_reducible refine Below.drew ?_) | (with_reducible refine Below.drewn ?_) | (with_reducible assumption) | (with_reducible exact Below.refl _ _) | ((with_reducible refine Below.stepp (by with_reducible assumption) ?_ ?_); focus (first | omega | (simp; done) | (simp; omega)))))).ro) ((oq.below (by repeat (first | ((with_reducible refine Below.setc ?_ ?_ _); focus (first | omega | (simp; done) | (simp; omega))) | ((with_reducible refine Below.allocc ?_ ?_ _); focus (first | omega | (simp; done) | (simp; omega))) | (with_reducible refine Below.drew ?_) | (with_reducible refine Below.drewn ?_) | (with_reducible assumption) | (with_reducible exact Below.refl _ _) | ((with_reducible refine Below.stepp (by with_reducible assumption) ?_ ?_); focus (first | omega | (simp; done) | (simp; omega)))))).ro) (by omega) (by omega)).mono ?_
      rw [heq]
      rintro e w8 ⟨rfl, hB8⟩
      clear heq oq
      (have z_hB8 := Below.size hB8); (try simp only [World.size_alloc, World.size_setCell, World.size_drew, World.heap_drewN] at z_hB8)
      have X8 : Below w7.heap.size w7 w8 := (by repeat (first | ((with_reducible refine Below.setc ?_ ?_ _); focus (first | omega | (simp; done) | (simp; omega))) | ((with_reducible refine Below.allocc ?_ ?_ _); focus (first | omega | (simp; done) | (simp; omega))) | (with_reducible refine Below.drew ?_) | (with_reducible refine Below.drewn ?_) | (with_reducible assumption) | (with_reducible exact Below.refl _ _) | ((with_reducible refine Below.stepp (by with_reducible assumption) ?_ ?_); focus (first | omega | (simp; done) | (simp; omega)))))
      clear hB8
      have W8_ : Below w.heap.size w w8 := W7_.trans (X8.mono W7_.size)
      have zs_8 := X8.size
      have Xw_8 := Xw_7.below X8
      clear Xw_7
      have Ow_8 := Ow_7.below X8
      clear Ow_7
      have O0_8 := O0_7.below X8
      clear O0_7
      have O1_8 := O1_7.below X8
      clear O1_7
      have Xg_8 := Xg_7.below X8
      clear Xg_7
      have Og_8 := Og_7.below X8
      clear Og_7
      clear X8
      go_wp2_with fail
      refine (toIntS_own _ p1 _ _ (hv1.below (W8_.trans (Below.mono (show Below w8.heap.size w8 _ from (by repeat (first | ((with_reducible refine Below.setc ?_ ?_ _); focus (first | omega | (simp; done) | (simp; omega))) | ((with_reducible refine Below.allocc ?_ ?_ _); focus (first | omega | (simp; done) | (simp; omega))) | (with_reducible refine Below.drew ?_) | (with_reducible refine Below.drewn ?_) | (with_reducible assumption) | (with_reducible exact Below.refl _ _) | ((with_reducible refine Below.stepp (by with_reducible assumption) ?_ ?_); focus (first | omega | (simp; done) | (simp; omega)))))) W8_.size))) s1).mono ?_
      rintro e w9 ⟨gq, rfl, -, oq, hB9⟩
      (have z_hB9 := Below.size hB9); (try simp only [World.size_alloc, World.size_setCell, World.size_drew, World.heap_drewN] at z_hB9)
      have X9 : Below w8.heap.size w8 w9 := (by repeat (first | ((with_reducible refine Below.setc ?_ ?_ _); focus (first | omega | (simp; done) | (simp; omega))) | ((with_reducible refine Below.allocc ?_ ?_ _); focus (first | omega | (simp; done) | (simp; omega))) | (with_reducible refine Below.drew ?_) | (with_reducible refine Below.drewn ?_) | (with_reducible assumption) | (with_reducible exact Below.refl _ _) | ((with_reducible refine Below.stepp (by with_reducible assumption) ?_ ?_); focus (first | omega | (simp; done) | (simp; omega)))))
      clear hB9
      have W9_ : Below w.heap.size w w9 := W8_.trans (X9.mono W8_.size)
      have zs_9 := X9.size
      have Xw_9 := Xw_8.below X9
      clear Xw_8
      have Ow_9 := Ow_8.below X9
      clear Ow_8
      have O0_9 := O0_8.below X9
      clear O0_8
      have O1_9 := O1_8.below X9
      clear O1_8
      have Xg_9 := Xg_8.below X9
      clear Xg_8
      have Og_9 := Og_8.below X9
      clear Og_8
      clear X9
      have heq : eqB p1 p1 = true := eqB_of rfl
      go_wp2_with fail
      refine (eqIntS_any _ _ p1 p1 _ _ _ ((O1_9.below (by repeat (first | ((with_reducible refine Below.setc ?_ ?_ _); focus (first | omega | (simp; done) | (simp; omega))) | ((with_reducible refine Below.allocc ?_ ?_ _); focus (first | omega | (simp; done) | (simp; omega))) | (with_reducible refine Below.drew ?_) | (with_reducible refine Below.drewn ?_) | (with_reducible assumption) | (with_reducible exact Below.refl _ _) | ((with_reducible refine Below.stepp (by with_reducible assumption) ?_ ?_); focus (first | omega | (simp; done) | (simp; omega)))))).rf) ((oq.below (by repeat (first | ((with_reducible refine Below.setc ?_ ?_ _); focus (first | omega | (simp; done) | (simp; omega))) | ((with_reducible refine Below.allocc ?_ ?_ _); focus (first | omega | (simp; done) | (simp; omega))) | (with_reducible refine Below.drew ?_) | (with_reducible refine Below.drewn ?_) | (with_reducible assumption) | (with_reducible exact Below.refl _ _) | ((with_reducible refine Below.stepp (by with_reducible assumption) ?_ ?_); focus (first | omega | (simp; done) | (simp; omega)))))).rf) (by omega) (by omega)).mono ?_
      rw [heq]
      rintro e w10 ⟨rfl, nq, rfl⟩
      have hB10 : Below w9.heap.size w9 (w9.drewN nq) := (by repeat (first | ((with_reducible refine Below.setc ?_ ?_ _); focus (first | omega | (simp; done) | (simp; omega))) | ((with_reducible refine Below.allocc ?_ ?_ _); focus (first | omega | (simp; done) | (simp; omega))) | (with_reducible refine Below.drew ?_) | (with_reducible refine Below.drewn ?_) | (with_reducible assumption) | (with_reducible exact Below.refl _ _) | ((with_reducible refine Below.stepp (by with_reducible assumption) ?_ ?_); focus (first | omega | (simp; done) | (simp; omega)))))
      generalize w9.drewN nq = w10 at *
      clear heq oq
      (have z_hB10 := Below.size hB10); (try simp only [World.size_alloc, World.size_setCell, World.size_drew, World.heap_drewN] at z_hB10)
      have X10 : Below w9.heap.size w9 w10 := (by repeat (first | ((with_reducible refine Below.setc ?_ ?_ _); focus (first | omega | (simp; done) | (simp; omega))) | ((with_reducible refine Below.allocc ?_ ?_ _); focus (first | omega | (simp; done) | (simp; omega))) | (with_reducible refine Below.drew ?_) | (with_reducible refine Below.drewn ?_) | (with_reducible assumption) | (with_reducible exact Below.refl _ _) | ((with_reducible refine Below.stepp (by with_reducible assumption) ?_ ?_); focus (first | omega | (simp; done) | (simp; omega)))))
      clear hB10
      have W10_ : Below w.heap.size w w10 := W9_.trans (X10.mono W9_.size)
      have zs_10 := X10.size
      have Xw_10 := Xw_9.below X10
      clear Xw_9
      have Ow_10 := Ow_9.below X10
      clear Ow_9
      have O0_10 := O0_9.below X10
      clear O0_9
      have O1_10 := O1_9.below X10
      clear O1_9
      have Xg_10 := Xg_9.below X10
      clear Xg_9
      have Og_10 := Og_9.below X10
      clear Og_9
      clear X10
      have hk_ : (0 : Int) ≤ 1 := by omega
      go_wp2_with fail
      refine (markCommandS_law _ p0 _ _ (O0_10.below (by repeat (first | ((with_reducible refine Below.setc ?_ ?_ _); focus (first | omega | (simp; done) | (simp; omega))) | ((with_reducible refine Below.allocc ?_ ?_ _); focus (first | omega | (simp; done) | (simp; omega))) | (with_reducible refine Below.drew ?_) | (with_reducible refine Below.drewn ?_) | (with_reducible assumption) | (with_reducible exact Below.refl _ _) | ((with_reducible refine Below.stepp (by with_reducible assumption) ?_ ?_); focus (first | omega | (simp; done) | (simp; omega)))))) s0 (by omega) (by omega)).mono ?_
      rintro e w11 ⟨rfl, hS11⟩
      clear O0_10
      have zs_11 : w10.heap.size ≤ w11.heap.size := (by have := hS11.size; first | exact this | simpa using this)
      have W11_ : Below w.heap.size w w11 := W10_.trans (hS11.below (by first | omega | (simp; done) | (simp; omega)) W10_.size)
      have Xw_11 := Xw_10.span hS11 (by first | omega | (simp; done) | (simp; omega))
      clear Xw_10
      have Ow_11 := Ow_10.span hS11 (by first | omega | (simp; done) | (simp; omega))
      clear Ow_10
      have O1_11 := O1_10.span hS11 (by first | omega | (simp; done) | (simp; omega))
      clear O1_10
      have Xg_11 := Xg_10.span hS11 (by first | omega | (simp; done) | (simp; omega))
      clear Xg_10
      have Og_11 := Og_10.span hS11 (by first | omega | (simp; done) | (simp; omega))
      clear Og_10
      clear hS11
      have hk0 : (0 : Int) ≤ 1 + 4 * (p0.length : Int) := by omega
      go_wp2_with fail
      refine (markIntS_law _ p1 _ _ (O1_11.below (by repeat (first | ((with_reducible refine Below.setc ?_ ?_ _); focus (first | omega | (simp; done) | (simp; omega))) | ((with_reducible refine Below.allocc ?_ ?_ _); focus (first | omega | (simp; done) | (simp; omega))) | (with_reducible refine Below.drew ?_) | (with_reducible refine Below.drewn ?_) | (with_reducible assumption) | (with_reducible exact Below.refl _ _) | ((with_reducible refine Below.stepp (by with_reducible assumption) ?_ ?_); focus (first | omega | (simp; done) | (simp; omega)))))) (by omega) (by omega) (by omega)).mono ?_
      rintro e w12 ⟨rfl, hS12⟩
      clear O1_11
      have zs_12 : w11.heap.size ≤ w12.heap.size := (by have := hS12.size; first | exact this | simpa using this)
      have W12_ : Below w.heap.size w w12 := W11_.trans (hS12.below (by first | omega | (simp; done) | (simp; omega)) W11_.size)
      have Xw_12 := Xw_11.span hS12 (by first | omega | (simp; done) | (simp; omega))
      clear Xw_11
      have Ow_12 := Ow_11.span hS12 (by first | omega | (simp; done) | (simp; omega))
      clear Ow_11
      have Xg_12 := Xg_11.span hS12 (by first | omega | (simp; done) | (simp; omega))
      clear Xg_11
      have Og_12 := Og_11.span hS12 (by first | omega | (simp; done) | (simp; omega))
      clear Og_11
      clear hS12
      have hk1 : (0 : Int) ≤ 1 + 4 * (p0.length : Int) + (p1.length : Int) := by omega
      have Xg_c0 : w12.cell? ⟨bg, 0, none⟩ = some (.slice Bg (runPaintM p0 p1).cells.length dg) := Xg_12 0 _ rfl
      have Xg_c1 : w12.cell? ⟨bg, 1, none⟩ = some (.slice Cg (runPaintM p0 p1).roots.length eg) := Xg_12 1 _ rfl
      have Xw_c0 : w12.cell? ⟨bw, 0, none⟩ = some (.slice Bw (runPaintM p0 p1).cells.length dw) := Xw_12 0 _ rfl
      have Xw_c1 : w12.cell? ⟨bw, 1, none⟩ = some (.slice Cw (runPaintM p0 p1).roots.length ew) := Xw_12 1 _ rfl
      have heq : eqB (runPaintM p0 p1) (runPaintM p0 p1) = true := eqB_of rfl
      go_wp2_with fail
      refine (eqHeap_any _ _ (runPaintM p0 p1) (runPaintM p0 p1) _ ((Og_12.below (by repeat (first | ((with_reducible refine Below.setc ?_ ?_ _); focus (first | omega | (simp; done) | (simp; omega))) | ((with_reducible refine Below.allocc ?_ ?_ _); focus (first | omega | (simp; done) | (simp; omega))) | (with_reducible refine Below.drew ?_) | (with_reducible refine Below.drewn ?_) | (with_reducible assumption) | (with_reducible exact Below.refl _ _) | ((with_reducible refine Below.stepp (by with_reducible assumption) ?_ ?_); focus (first | omega | (simp; done) | (simp; omega)))))).rd) ((Ow_12.below (by repeat (first | ((with_reducible refine Below.setc ?_ ?_ _); focus (first | omega | (simp; done) | (simp; omega))) | ((with_reducible refine Below.allocc ?_ ?_ _); focus (first | omega | (simp; done) | (simp; omega))) | (with_reducible refine Below.drew ?_) | (with_reducible refine Below.drewn ?_) | (with_reducible assumption) | (with_reducible exact Below.refl _ _) | ((with_reducible refine Below.stepp (by with_reducible assumption) ?_ ?_); focus (first | omega | (simp; done) | (simp; omega)))))).rd)).mono ?_
      rw [heq]
      rintro e w13 ⟨rfl, hB13⟩
      clear Xg_c0 Xg_c1
      clear Xw_c0 Xw_c1
      clear heq
      (have z_hB13 := Below.size hB13); (try simp only [World.size_alloc, World.size_setCell, World.size_drew, World.heap_drewN] at z_hB13)
      have X13 : Below w12.heap.size w12 w13 := (by repeat (first | ((with_reducible refine Below.setc ?_ ?_ _); focus (first | omega | (simp; done) | (simp; omega))) | ((with_reducible refine Below.allocc ?_ ?_ _); focus (first | omega | (simp; done) | (simp; omega))) | (with_reducible refine Below.drew ?_) | (with_reducible refine Below.drewn ?_) | (with_reducible assumption) | (with_reducible exact Below.refl _ _) | ((with_reducible refine Below.stepp (by with_reducible assumption) ?_ ?_); focus (first | omega | (simp; done) | (simp; omega)))))
      clear hB13
      have W13_ : Below w.heap.size w w13 := W12_.trans (X13.mono W12_.size)
      have zs_13 := X13.size
      have Xw_13 := Xw_12.below X13
      clear Xw_12
      have Ow_13 := Ow_12.below X13
      clear Ow_12
      have Xg_13 := Xg_12.below X13
      clear Xg_12
      have Og_13 := Og_12.below X13
      clear Og_12
      clear X13
      have Xg_c0 : w13.cell? ⟨bg, 0, none⟩ = some (.slice Bg (runPaintM p0 p1).cells.length dg) := Xg_13 0 _ rfl
      have Xg_c1 : w13.cell? ⟨bg, 1, none⟩ = some (.slice Cg (runPaintM p0 p1).roots.length eg) := Xg_13 1 _ rfl
      go_wp2_with fail
      have hm := HSR.out
      refine (markHeap_law _ _ _ _ (runPaintM p0 p1) _ (Og_13.below (by repeat (first | ((with_reducible refine Below.setc ?_ ?_ _); focus (first | omega | (simp; done) | (simp; omega))) | ((with_reducible refine Below.allocc ?_ ?_ _); focus (first | omega | (simp; done) | (simp; omega))) | (with_reducible refine Below.drew ?_) | (with_reducible refine Below.drewn ?_) | (with_reducible assumption) | (with_reducible exact Below.refl _ _) | ((with_reducible refine Below.stepp (by with_reducible assumption) ?_ ?_); focus (first | omega | (simp; done) | (simp; omega)))))) hm (by omega) (by omega)).mono ?_
      rintro e w14 ⟨rfl, Q_, hS14⟩
      clear Xg_c0 Xg_c1
      clear Og_13
      have zs_14 : w13.heap.size ≤ w14.heap.size := (by have := hS14.size; first | exact this | simpa using this)
      have W14_ : Below w.heap.size w w14 := W13_.trans (hS14.below (by first | omega | (simp; done) | (simp; omega)) W13_.size)
      have Xw_14 := Xw_13.span hS14 (by first | omega | (simp; done) | (simp; omega))
      clear Xw_13
      have Ow_14 := Ow_13.span hS14 (by first | omega | (simp; done) | (simp; omega))
      clear Ow_13
      have Xg_14 := Xg_13.span hS14 (by first | omega | (simp; done) | (simp; omega))
      clear Xg_13
      clear hS14
      have Q_14 := Q_
      clear Q_
      have hkm : (0 : Int) ≤ 1 + (sizeH (runPaintM p0 p1) : Int) := by omega
      have Xg_c0 : w14.cell? ⟨bg, 0, none⟩ = some (.slice Bg (runPaintM p0 p1).cells.length dg) := Xg_14 0 _ rfl
      have Xg_c1 : w14.cell? ⟨bg, 1, none⟩ = some (.slice Cg (runPaintM p0 p1).roots.length eg) := Xg_14 1 _ rfl
      go_wp2_with fail
      refine (heldHeap_any _ (runPaintM p0 p1) _ _ (Q_14.below (by repeat (first | ((with_reducible refine Below.setc ?_ ?_ _); focus (first | omega | (simp; done) | (simp; omega))) | ((with_reducible refine Below.allocc ?_ ?_ _); focus (first | omega | (simp; done) | (simp; omega))) | (with_reducible refine Below.drew ?_) | (with_reducible refine Below.drewn ?_) | (with_reducible assumption) | (with_reducible exact Below.refl _ _) | ((with_reducible refine Below.stepp (by with_reducible assumption) ?_ ?_); focus (first | omega | (simp; done) | (simp; omega)))))) HSR.out (by omega) (by omega)).mono ?_
      rintro e w15 ⟨rfl, hB15⟩
      clear Xg_c0 Xg_c1
      (have z_hB15 := Below.size hB15); (try simp only [World.size_alloc, World.size_setCell, World.size_drew, World.heap_drewN] at z_hB15)
      have X15 : Below w14.heap.size w14 w15 := (by repeat (first | ((with_reducible refine Below.setc ?_ ?_ _); focus (first | omega | (simp; done) | (simp; omega))) | ((with_reducible refine Below.allocc ?_ ?_ _); focus (first | omega | (simp; done) | (simp; omega))) | (with_reducible refine Below.drew ?_) | (with_reducible refine Below.drewn ?_) | (with_reducible assumption) | (with_reducible exact Below.refl _ _) | ((with_reducible refine Below.stepp (by with_reducible assumption) ?_ ?_); focus (first | omega | (simp; done) | (simp; omega)))))
      clear hB15
      have W15_ : Below w.heap.size w w15 := W14_.trans (X15.mono W14_.size)
      have zs_15 := X15.size
      have Xw_15 := Xw_14.below X15
      clear Xw_14
      have Ow_15 := Ow_14.below X15
      clear Ow_14
      have Xg_15 := Xg_14.below X15
      clear Xg_14
      have Q_15 := Q_14.below X15
      clear Q_14
      clear X15
      go_upto_region 30 with fail
      go_cut [13] (fun s_r wx => ∃ (bh : Nat) (Bh : Option Addr) (dh : Nat) (Ch : Option Addr) (eh : Nat) (lo_ hi_ : Nat), s_r = .pointer (some ⟨bh, 0, none⟩) ∧ OHB lo_ hi_ wx (.agg #[.slice Bh (runPaintM p0 p1).cells.length dh, .slice Ch (runPaintM p0 p1).roots.length eh]) (runPaintM p0 p1) ∧ Box wx bh [.slice Bh (runPaintM p0 p1).cells.length dh, .slice Ch (runPaintM p0 p1).roots.length eh] ∧ (bh < lo_ ∨ hi_ ≤ bh) ∧ w15.heap.size ≤ lo_ ∧ hi_ ≤ wx.heap.size ∧ w15.heap.size ≤ bh ∧ bh < wx.heap.size ∧ Below w15.heap.size w15 wx)
      case first =>
        go_wp2_with (first | (go_at_call 37; (with_reducible refine (toCommandS_any _ p0 _ _ (hv0.below (W15_.trans (Below.mono (show Below w15.heap.size w15 _ from (by repeat (first | ((with_reducible refine Below.setc ?_ ?_ _); focus (first | omega | (simp; done) | (simp; omega))) | ((with_reducible refine Below.allocc ?_ ?_ _); focus (first | omega | (simp; done) | (simp; omega))) | (with_reducible refine Below.drew ?_) | (with_reducible refine Below.drewn ?_) | (with_reducible assumption) | (with_reducible exact Below.refl _ _) | ((with_reducible refine Below.stepp (by with_reducible assumption) ?_ ?_); focus (first | omega | (simp; done) | (simp; omega)))))) W15_.size))) s0).mono ?_); rintro e y1 ⟨gL0, rfl, -, -, oL0, hY1⟩; (have z_hY1 := Below.size hY1); (try simp only [World.size_alloc, World.size_setCell, World.size_drew, World.heap_drewN] at z_hY1); obtain ⟨hbc1, hbf1, -⟩ := bcell hY1; (first | (have zl1 : w15.heap.size < y1.heap.size := Nat.lt_of_lt_of_le (Nat.lt_succ_self _) z_hY1) | skip)) | (go_at_call 38; (with_reducible refine (toIntS_own _ p1 _ _ (hv1.below (W15_.trans (Below.mono (show Below w15.heap.size w15 _ from (by repeat (first | ((with_reducible refine Below.setc ?_ ?_ _); focus (first | omega | (simp; done) | (simp; omega))) | ((with_reducible refine Below.allocc ?_ ?_ _); focus (first | omega | (simp; done) | (simp; omega))) | (with_reducible refine Below.drew ?_) | (with_reducible refine Below.drewn ?_) | (with_reducible assumption) | (with_reducible exact Below.refl _ _) | ((with_reducible refine Below.stepp (by with_reducible assumption) ?_ ?_); focus (first | omega | (simp; done) | (simp; omega)))))) W15_.size))) s1).mono ?_); rintro e y2 ⟨gL1, rfl, -, oL1, hY2⟩; (have z_hY2 := Below.size hY2); (try simp only [World.size_alloc, World.size_setCell, World.size_drew, World.heap_drewN] at z_hY2); obtain ⟨hbc2, hbf2, -⟩ := bcell hY2; (first | (have zl2 : y1.heap.size < y2.heap.size := Nat.lt_of_lt_of_le (Nat.lt_succ_self _) z_hY2) | skip); (first | (have zl1_2 := Nat.lt_of_lt_of_le zl1 z_hY2) | skip)) | (go_at_call 39; (with_reducible refine (implRunPaint_any _ p0 _ _ p1 _ _ ((oL0.below (by repeat (first | ((with_reducible refine Below.setc ?_ ?_ _); focus (first | omega | (simp; done) | (simp; omega))) | ((with_reducible refine Below.allocc ?_ ?_ _); focus (first | omega | (simp; done) | (simp; omega))) | (with_reducible refine Below.drew ?_) | (with_reducible refine Below.drewn ?_) | (with_reducible assumption) | (with_reducible exact Below.refl _ _) | ((with_reducible refine Below.stepp (by with_reducible assumption) ?_ ?_); focus (first | omega | (simp; done) | (simp; omega)))))).ro) (by omega) ((oL1.below (by repeat (first | ((with_reducible refine Below.setc ?_ ?_ _); focus (first | omega | (simp; done) | (simp; omega))) | ((with_reducible refine Below.allocc ?_ ?_ _); focus (first | omega | (simp; done) | (simp; omega))) | (with_reducible refine Below.drew ?_) | (with_reducible refine Below.drewn ?_) | (with_reducible assumption) | (with_reducible exact Below.refl _ _) | ((with_reducible refine Below.stepp (by with_reducible assumption) ?_ ?_); focus (first | omega | (simp; done) | (simp; omega)))))).rf) (by omega)).mono ?_); rintro e y3 ⟨zF, rfl, oF, hY3⟩; obtain ob_ := oF.toB; obtain ⟨Bh, dh, Ch, eh, osh, rfl, ownh⟩ := oF; (have z_hY3 := Below.size hY3); (try simp only [World.size_alloc, World.size_setCell, World.size_drew, World.heap_drewN] at z_hY3); obtain ⟨hbc3, hbf3, -⟩ := bcell hY3; (first | (have zl3 : y2.heap.size < y3.heap.size := Nat.lt_of_lt_of_le (Nat.lt_succ_self _) z_hY3) | skip); (first | (have zl1_3 := Nat.lt_of_lt_of_le zl1 z_hY3) | skip); (first | (have zl1_3 := Nat.lt_of_lt_of_le zl1_2 z_hY3) | skip); (first | (have zl2_3 := Nat.lt_of_lt_of_le zl2 z_hY3) | skip)))
        all_goals
          (try simp only [World.size_alloc, World.size_setCell, World.size_drew, World.heap_drewN, heap_drew_] at ownh)
          go_wp2_with fail
          go_meet
          refine ⟨_, Bh, dh, Ch, eh, _, _, rfl, ob_.keep (fun g h1 h2 hg => ?_), Box.of2 ?_ ?_, ?_, ?_, ?_, ?_, ?_, (by repeat (first | ((with_reducible refine Below.setc ?_ ?_ _); focus (first | omega | (simp; done) | (simp; omega))) | ((with_reducible refine Below.allocc ?_ ?_ _); focus (first | omega | (simp; done) | (simp; omega))) | (with_reducible refine Below.drew ?_) | (with_reducible refine Below.drewn ?_) | (with_reducible assumption) | (with_reducible exact Below.refl _ _) | ((with_reducible refine Below.stepp (by with_reducible assumption) ?_ ?_); focus (first | omega | (simp; done) | (simp; omega)))))⟩
          · (try simp only [World.size_alloc, World.size_setCell, World.size_drew, World.heap_drewN, heap_drew_] at h1)
            (repeat (first | rw [heap_drew_] | rw [heap_setCell_ne _ _ _ (by first | omega | (simp; done) | (simp; omega))] | rw [Below.heap_alloc _ _ _ (by first | omega | (simp; done) | (simp; omega))]))
          · first | (simp [go_sem]; done) | (simp (disch := (first | omega | (simp; done) | (simp; omega))) [go_sem, hbc1, hbc2, hbc3]; done)
          · first | (simp [go_sem]; done) | (simp (disch := (first | omega | (simp; done) | (simp; omega))) [go_sem, hbc1, hbc2, hbc3]; done)
          · (first | omega | (simp; done) | (simp; omega))
          · (first | omega | (simp; done) | (simp; omega))
          · (first | omega | (simp; done) | (simp; omega))
          · (first | omega | (simp; done) | (simp; omega))
          · (first | omega | (simp; done) | (simp; omega))
      case rest =>
        obtain ⟨bh, Bh, dh, Ch, eh, loh, hih, rfl, Oh_16, Xh_16, iwh, ilh, ihh, ibh, ich, hCh⟩ := hcut
        obtain ⟨w16, hwc⟩ : ∃ x, x = wc := ⟨_, rfl⟩
        subst hwc
        have XC16 : Below w15.heap.size w15 w16 := Below.trans (show Below w15.heap.size w15 w15 from (by repeat (first | ((with_reducible refine Below.setc ?_ ?_ _); focus (first | omega | (simp; done) | (simp; omega))) | ((with_reducible refine Below.allocc ?_ ?_ _); focus (first | omega | (simp; done) | (simp; omega))) | (with_reducible refine Below.drew ?_) | (with_reducible refine Below.drewn ?_) | (with_reducible assumption) | (with_reducible exact Below.refl _ _) | ((with_reducible refine Below.stepp (by with_reducible assumption) ?_ ?_); focus (first | omega | (simp; done) | (simp; omega)))))) (hCh.mono (by first | exact Nat.le_refl _ | (simp; done) | (simp; omega)))
        have W16_ : Below w.heap.size w w16 := W15_.trans (XC16.mono W15_.size)
        have zs_16 := XC16.size
        have Xw_16 := Xw_15.below XC16
        clear Xw_15
        have Ow_16 := Ow_15.below XC16
        clear Ow_15
        have Xg_16 := Xg_15.below XC16
        clear Xg_15
        have Q_16 := Q_15.below XC16
        clear Q_15
        clear XC16 hCh
        have Xh_c0 : w16.cell? ⟨bh, 0, none⟩ = some (.slice Bh (runPaintM p0 p1).cells.length dh) := Xh_16 0 _ rfl
        have Xh_c1 : w16.cell? ⟨bh, 1, none⟩ = some (.slice Ch (runPaintM p0 p1).roots.length eh) := Xh_16 1 _ rfl
        have Xw_c0 : w16.cell? ⟨bw, 0, none⟩ = some (.slice Bw (runPaintM p0 p1).cells.length dw) := Xw_16 0 _ rfl
        have Xw_c1 : w16.cell? ⟨bw, 1, none⟩ = some (.slice Cw (runPaintM p0 p1).roots.length ew) := Xw_16 1 _ rfl
        have heq : eqB (runPaintM p0 p1) (runPaintM p0 p1) = true := eqB_of rfl
        go_wp2_with fail
        refine (eqHeap_any _ _ (runPaintM p0 p1) (runPaintM p0 p1) _ ((Oh_16.below (by repeat (first | ((with_reducible refine Below.setc ?_ ?_ _); focus (first | omega | (simp; done) | (simp; omega))) | ((with_reducible refine Below.allocc ?_ ?_ _); focus (first | omega | (simp; done) | (simp; omega))) | (with_reducible refine Below.drew ?_) | (with_reducible refine Below.drewn ?_) | (with_reducible assumption) | (with_reducible exact Below.refl _ _) | ((with_reducible refine Below.stepp (by with_reducible assumption) ?_ ?_); focus (first | omega | (simp; done) | (simp; omega)))))).rd) ((Ow_16.below (by repeat (first | ((with_reducible refine Below.setc ?_ ?_ _); focus (first | omega | (simp; done) | (simp; omega))) | ((with_reducible refine Below.allocc ?_ ?_ _); focus (first | omega | (simp; done) | (simp; omega))) | (with_reducible refine Below.drew ?_) | (with_reducible refine Below.drewn ?_) | (with_reducible assumption) | (with_reducible exact Below.refl _ _) | ((with_reducible refine Below.stepp (by with_reducible assumption) ?_ ?_); focus (first | omega | (simp; done) | (simp; omega)))))).rd)).mono ?_
        rw [heq]
        rintro e w17 ⟨rfl, hB17⟩
        clear Xh_c0 Xh_c1
        clear Xw_c0 Xw_c1
        clear heq
        (have z_hB17 := Below.size hB17); (try simp only [World.size_alloc, World.size_setCell, World.size_drew, World.heap_drewN] at z_hB17)
        have X17 : Below w16.heap.size w16 w17 := (by repeat (first | ((with_reducible refine Below.setc ?_ ?_ _); focus (first | omega | (simp; done) | (simp; omega))) | ((with_reducible refine Below.allocc ?_ ?_ _); focus (first | omega | (simp; done) | (simp; omega))) | (with_reducible refine Below.drew ?_) | (with_reducible refine Below.drewn ?_) | (with_reducible assumption) | (with_reducible exact Below.refl _ _) | ((with_reducible refine Below.stepp (by with_reducible assumption) ?_ ?_); focus (first | omega | (simp; done) | (simp; omega)))))
        clear hB17
        have W17_ : Below w.heap.size w w17 := W16_.trans (X17.mono W16_.size)
        have zs_17 := X17.size
        have Xw_17 := Xw_16.below X17
        clear Xw_16
        have Ow_17 := Ow_16.below X17
        clear Ow_16
        have Xg_17 := Xg_16.below X17
        clear Xg_16
        have Q_17 := Q_16.below X17
        clear Q_16
        have Xh_17 := Xh_16.below X17
        clear Xh_16
        have Oh_17 := Oh_16.below X17
        clear Oh_16
        clear X17
        have Xg_c0 : w17.cell? ⟨bg, 0, none⟩ = some (.slice Bg (runPaintM p0 p1).cells.length dg) := Xg_17 0 _ rfl
        have Xg_c1 : w17.cell? ⟨bg, 1, none⟩ = some (.slice Cg (runPaintM p0 p1).roots.length eg) := Xg_17 1 _ rfl
        go_wp2_with fail
        refine (heldHeap_any _ (runPaintM p0 p1) _ _ (Q_17.below (by repeat (first | ((with_reducible refine Below.setc ?_ ?_ _); focus (first | omega | (simp; done) | (simp; omega))) | ((with_reducible refine Below.allocc ?_ ?_ _); focus (first | omega | (simp; done) | (simp; omega))) | (with_reducible refine Below.drew ?_) | (with_reducible refine Below.drewn ?_) | (with_reducible assumption) | (with_reducible exact Below.refl _ _) | ((with_reducible refine Below.stepp (by with_reducible assumption) ?_ ?_); focus (first | omega | (simp; done) | (simp; omega)))))) HSR.out (by omega) (by omega)).mono ?_
        rintro e w18 ⟨rfl, hB18⟩
        clear Xg_c0 Xg_c1
        (have z_hB18 := Below.size hB18); (try simp only [World.size_alloc, World.size_setCell, World.size_drew, World.heap_drewN] at z_hB18)
        have X18 : Below w17.heap.size w17 w18 := (by repeat (first | ((with_reducible refine Below.setc ?_ ?_ _); focus (first | omega | (simp; done) | (simp; omega))) | ((with_reducible refine Below.allocc ?_ ?_ _); focus (first | omega | (simp; done) | (simp; omega))) | (with_reducible refine Below.drew ?_) | (with_reducible refine Below.drewn ?_) | (with_reducible assumption) | (with_reducible exact Below.refl _ _) | ((with_reducible refine Below.stepp (by with_reducible assumption) ?_ ?_); focus (first | omega | (simp; done) | (simp; omega)))))
        clear hB18
        have W18_ : Below w.heap.size w w18 := W17_.trans (X18.mono W17_.size)
        have zs_18 := X18.size
        have Xw_18 := Xw_17.below X18
        clear Xw_17
        have Ow_18 := Ow_17.below X18
        clear Ow_17
        have Xg_18 := Xg_17.below X18
        clear Xg_17
        have Q_18 := Q_17.below X18
        clear Q_17
        have Xh_18 := Xh_17.below X18
        clear Xh_17
        have Oh_18 := Oh_17.below X18
        clear Oh_17
        clear X18
        go_wp2
        go_ret
        exact ⟨rfl, W18_⟩
end Go.Proofs.Ytkmfhadanbfadaa
