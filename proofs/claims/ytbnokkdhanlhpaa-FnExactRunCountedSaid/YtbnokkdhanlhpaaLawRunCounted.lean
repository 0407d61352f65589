/- FnExactRunCounted: the program's RunCounted returns what the reference's returns, for every argument. No condition. -/
import Derived.Test.YtbnokkdhanlhpaaChecked
import Derived.Deep.RegionHeld3
import Derived.Deep.DeepCutAuto
import Derived.Test.YtbnokkdhanlhpaaGrMark
import Derived.Test.YtbnokkdhanlhpaaGrSz
import Derived.Test.YtbnokkdhanlhpaaGrTo
import Derived.Test.YtbnokkdhanlhpaaGrCntI
import Derived.Test.YtbnokkdhanlhpaaGrCntS
import Derived.Test.YtbnokkdhanlhpaaCntM
import Derived.Test.YtbnokkdhanlhpaaExC
namespace Go.Proofs.Ytbnokkdhanlhpaa
open Go.RowKit
set_option maxRecDepth 100000
set_option linter.unusedSimpArgs false
set_option linter.unusedVariables false
set_option maxHeartbeats 20000000 in
theorem walkExactRunCounted (L0 : Option Addr) (k0 : Nat) (p0 : List CmdM) (w : World) (hv0 : RO w L0 p0) (hl0 : p0.length ≤ 9223372036854775807) :
    Calls Try.prog 7 #[.slice L0 p0.length k0] w fun e w' => e = .returned (.bool true) ∧ Below w.heap.size w w' := by
  have hle0 : -1 ≤ szI p0.length (1048576) ∧ szI p0.length (1048576) ≤ 1048576 := by unfold szI; split <;> omega
  by_cases hneg0 : szI p0.length (1048576) < 0
  · go_enter Try.func7, Try.ntmps7
    go_wp2_with (go_at_call 30; refine (szCommandS_any _ _ _ _ _ hl0 (by omega) (by omega)).mono ?_; rintro e w_ ⟨rfl, rfl⟩)
    go_ret
    exact ⟨rfl, blw_⟩
  have s0 : p0.length ≤ 1048576 := by have h9 := hneg0; unfold szI at h9; split at h9 <;> omega
  have HSR := Lib.hid (small_RunCounted p0)
  go_enter Try.func7, Try.ntmps7
  go_upto_region 5 with (go_at_call 30; refine (szCommandS_any _ _ _ _ _ hl0 (by omega) (by omega)).mono ?_; rintro e w_ ⟨rfl, rfl⟩)
  have W1 : Below w.heap.size w w := Below.refl _ _
  clear hneg0 hle0
  go_cut [4] (fun s_r wx => ∃ (bw : Nat) (Bw : Option Addr) (dw : Nat) (Cw : Option Addr) (ew : Nat) (Ew : Option Addr) (gw : Nat) (lo_ hi_ : Nat), s_r = .pointer (some ⟨bw, 0, none⟩) ∧ OCB lo_ hi_ wx (.agg #[.slice Bw (runCountM p0).store.cells.length dw, .slice Cw (runCountM p0).store.roots.length ew, .slice Ew (runCountM p0).counts.length gw]) (runCountM p0) ∧ Box wx bw [.slice Bw (runCountM p0).store.cells.length dw, .slice Cw (runCountM p0).store.roots.length ew, .slice Ew (runCountM p0).counts.length gw] ∧ (bw < lo_ ∨ hi_ ≤ bw) ∧ w.heap.size ≤ lo_ ∧ hi_ ≤ wx.heap.size ∧ w.heap.size ≤ bw ∧ bw < wx.heap.size ∧ Below w.heap.size w wx)
  case first =>
    go_wp2_with (first | (go_at_call 31; (with_reducible refine (toCommandS_any _ p0 _ _ (hv0.below (W1.trans (Below.mono (show Below w.heap.size w _ from blw_) W1.size))) s0).mono ?_); rintro e y1 ⟨gL0, rfl, -, -, oL0, hY1⟩; (have z_hY1 := Below.size hY1); (try simp only [World.size_alloc, World.size_setCell, World.size_drew, World.heap_drewN] at z_hY1); obtain ⟨hbc1, hbf1, -⟩ := bcell hY1; (first | (have zl1 : w.heap.size < y1.heap.size := Nat.lt_of_lt_of_le (Nat.lt_succ_self _) z_hY1) | skip)) | (go_at_call 18; (with_reducible refine (specRunCounted_any _ p0 _ _ ((oL0.below blw_).ro) (by omega)).mono ?_); rintro e y2 ⟨zF, rfl, oF, hY2⟩; obtain ob_ := oF.toB; obtain ⟨Bw, dw, Cw, ew, osw, Ew, gw, rfl, ownw⟩ := oF; (have z_hY2 := Below.size hY2); (try simp only [World.size_alloc, World.size_setCell, World.size_drew, World.heap_drewN] at z_hY2); obtain ⟨hbc2, hbf2, -⟩ := bcell hY2; (first | (have zl2 : y1.heap.size < y2.heap.size := Nat.lt_of_lt_of_le (Nat.lt_succ_self _) z_hY2) | skip); (first | (have zl1_2 := Nat.lt_of_lt_of_le zl1 z_hY2) | skip)))
    all_goals
      (try simp only [World.size_alloc, World.size_setCell, World.size_drew, World.heap_drewN, heap_drew_] at ownw)
      go_wp2_with fail
      go_meet
      refine ⟨_, Bw, dw, Cw, ew, Ew, gw, _, _, rfl, ob_.keep (fun g h1 h2 hg => ?_), Box.of3 ?_ ?_ ?_, ?_, ?_, ?_, ?_, ?_, blw_⟩
      · (try simp only [World.size_alloc, World.size_setCell, World.size_drew, World.heap_drewN, heap_drew_] at h1)
        (repeat (first | rw [heap_drew_] | rw [heap_setCell_ne _ _ _ (by first | omega | (simp; done) | (simp; omega))] | rw [Below.heap_alloc _ _ _ (by first | omega | (simp; done) | (simp; omega))]))
      · first | (simp [go_sem]; done) | (simp (disch := (first | omega | (simp; done) | (simp; omega))) [go_sem, hbc1, hbc2]; done)
      · first | (simp [go_sem]; done) | (simp (disch := (first | omega | (simp; done) | (simp; omega))) [go_sem, hbc1, hbc2]; done)
      · first | (simp [go_sem]; done) | (simp (disch := (first | omega | (simp; done) | (simp; omega))) [go_sem, hbc1, hbc2]; done)
      · (first | omega | (simp; done) | (simp; omega))
      · (first | omega | (simp; done) | (simp; omega))
      · (first | omega | (simp; done) | (simp; omega))
      · (first | omega | (simp; done) | (simp; omega))
      · (first | omega | (simp; done) | (simp; omega))
  case rest =>
    obtain ⟨bw, Bw, dw, Cw, ew, Ew, gw, low, hiw, rfl, Ow_2, Xw_2, iww, ilw, ihw, ibw, icw, hCw⟩ := hcut
    obtain ⟨w2, hwc⟩ : ∃ x, x = wc := ⟨_, rfl⟩
    subst hwc
    have XC2 : Below w.heap.size w w2 := Below.trans (show Below w.heap.size w w from blw_) (hCw.mono (by first | exact Nat.le_refl _ | (simp; done) | (simp; omega)))
    have W2_ : Below w.heap.size w w2 := W1.trans (XC2.mono W1.size)
    have zs_2 := XC2.size
    clear XC2 hCw
    go_wp2_with fail
    refine (toCommandS_any _ p0 _ _ (hv0.below (W2_.trans (Below.mono (show Below w2.heap.size w2 _ from blw_) W2_.size))) s0).mono ?_
    rintro e w3 ⟨gX0, rfl, hlo0, -, oX0, hB3⟩
    have hhi0 : gX0 < w3.heap.size := oX0.lt gX0 (by simp [blk])
    have hlo0' : w2.heap.size ≤ gX0 := by first | omega | (simp at hlo0; omega) | (first | omega | (simp; done) | (simp; omega))
    have O0_3 : OOB gX0 w3 p0 := oX0
    clear oX0
    (have z_hB3 := Below.size hB3); (try simp only [World.size_alloc, World.size_setCell, World.size_drew, World.heap_drewN] at z_hB3)
    have X3 : Below w2.heap.size w2 w3 := blw_
    clear hB3
    have W3_ : Below w.heap.size w w3 := W2_.trans (X3.mono W2_.size)
    have zs_3 := X3.size
    have Xw_3 := Xw_2.below X3
    clear Xw_2
    have Ow_3 := Ow_2.below X3
    clear Ow_2
    clear X3
    go_upto_region 7 with fail
    go_cut [6] (fun s_r wx => ∃ (bg : Nat) (Bg : Option Addr) (dg : Nat) (Cg : Option Addr) (eg : Nat) (Eg : Option Addr) (gg : Nat) (lo_ hi_ : Nat), s_r = .pointer (some ⟨bg, 0, none⟩) ∧ OCB lo_ hi_ wx (.agg #[.slice Bg (runCountM p0).store.cells.length dg, .slice Cg (runCountM p0).store.roots.length eg, .slice Eg (runCountM p0).counts.length gg]) (runCountM p0) ∧ Box wx bg [.slice Bg (runCountM p0).store.cells.length dg, .slice Cg (runCountM p0).store.roots.length eg, .slice Eg (runCountM p0).counts.length gg] ∧ (bg < lo_ ∨ hi_ ≤ bg) ∧ w3.heap.size ≤ lo_ ∧ hi_ ≤ wx.heap.size ∧ w3.heap.size ≤ bg ∧ bg < wx.heap.size ∧ Below w3.heap.size w3 wx)
    case first =>
      go_wp2_with (first | (go_at_call 17; (with_reducible refine (implRunCounted_any _ p0 _ _ ((O0_3.below blw_).ro) (by omega)).mono ?_); rintro e y1 ⟨zF, rfl, oF, hY1⟩; obtain ob_ := oF.toB; obtain ⟨Bg, dg, Cg, eg, osg, Eg, gg, rfl, owng⟩ := oF; (have z_hY1 := Below.size hY1); (try simp only [World.size_alloc, World.size_setCell, World.size_drew, World.heap_drewN] at z_hY1); obtain ⟨hbc1, hbf1, -⟩ := bcell hY1; (first | (have zl1 : w3.heap.size < y1.heap.size := Nat.lt_of_lt_of_le (Nat.lt_succ_self _) z_hY1) | skip)))
      all_goals
        (try simp only [World.size_alloc, World.size_setCell, World.size_drew, World.heap_drewN, heap_drew_] at owng)
        go_wp2_with fail
        go_meet
        refine ⟨_, Bg, dg, Cg, eg, Eg, gg, _, _, rfl, ob_.keep (fun g h1 h2 hg => ?_), Box.of3 ?_ ?_ ?_, ?_, ?_, ?_, ?_, ?_, blw_⟩
        · (try simp only [World.size_alloc, World.size_setCell, World.size_drew, World.heap_drewN, heap_drew_] at h1)
          (repeat (first | rw [heap_drew_] | rw [heap_setCell_ne _ _ _ (by first | omega | (simp; done) | (simp; omega))] | rw [Below.heap_alloc _ _ _ (by first | omega | (simp; done) | (simp; omega))]))
        · first | (simp [go_sem]; done) | (simp (disch := (first | omega | (simp; done) | (simp; omega))) [go_sem, hbc1]; done)
        · first | (simp [go_sem]; done) | (simp (disch := (first | omega | (simp; done) | (simp; omega))) [go_sem, hbc1]; done)
        · first | (simp [go_sem]; done) | (simp (disch := (first | omega | (simp; done) | (simp; omega))) [go_sem, hbc1]; done)
        · (first | omega | (simp; done) | (simp; omega))
        · (first | omega | (simp; done) | (simp; omega))
        · (first | omega | (simp; done) | (simp; omega))
        · (first | omega | (simp; done) | (simp; omega))
        · (first | omega | (simp; done) | (simp; omega))
    case rest =>
      obtain ⟨bg, Bg, dg, Cg, eg, Eg, gg, log, hig, rfl, Og_4, Xg_4, iwg, ilg, ihg, ibg, icg, hCg⟩ := hcut
      obtain ⟨w4, hwc⟩ : ∃ x, x = wc := ⟨_, rfl⟩
      subst hwc
      have XC4 : Below w3.heap.size w3 w4 := Below.trans (show Below w3.heap.size w3 w3 from blw_) (hCg.mono (by first | exact Nat.le_refl _ | (simp; done) | (simp; omega)))
      have W4_ : Below w.heap.size w w4 := W3_.trans (XC4.mono W3_.size)
      have zs_4 := XC4.size
      have Xw_4 := Xw_3.below XC4
      clear Xw_3
      have Ow_4 := Ow_3.below XC4
      clear Ow_3
      have O0_4 := O0_3.below XC4
      clear O0_3
      clear XC4 hCg
      have Xg_c0 : w4.cell? ⟨bg, 0, none⟩ = some (.slice Bg (runCountM p0).store.cells.length dg) := Xg_4 0 _ rfl
      have Xg_c1 : w4.cell? ⟨bg, 1, none⟩ = some (.slice Cg (runCountM p0).store.roots.length eg) := Xg_4 1 _ rfl
      have Xg_c2 : w4.cell? ⟨bg, 2, none⟩ = some (.slice Eg (runCountM p0).counts.length gg) := Xg_4 2 _ rfl
      have Xw_c0 : w4.cell? ⟨bw, 0, none⟩ = some (.slice Bw (runCountM p0).store.cells.length dw) := Xw_4 0 _ rfl
      have Xw_c1 : w4.cell? ⟨bw, 1, none⟩ = some (.slice Cw (runCountM p0).store.roots.length ew) := Xw_4 1 _ rfl
      have Xw_c2 : w4.cell? ⟨bw, 2, none⟩ = some (.slice Ew (runCountM p0).counts.length gw) := Xw_4 2 _ rfl
      have heq : eqB (runCountM p0) (runCountM p0) = true := eqB_of rfl
      go_wp2_with fail
      refine (eqCounted_any _ _ (runCountM p0) (runCountM p0) _ ((Og_4.below blw_).rd) ((Ow_4.below blw_).rd)).mono ?_
      rw [heq]
      rintro e w5 ⟨rfl, hB5⟩
      clear Xg_c0 Xg_c1 Xg_c2
      clear Xw_c0 Xw_c1 Xw_c2
      clear heq
      (have z_hB5 := Below.size hB5); (try simp only [World.size_alloc, World.size_setCell, World.size_drew, World.heap_drewN] at z_hB5)
      have X5 : Below w4.heap.size w4 w5 := blw_
      clear hB5
      have W5_ : Below w.heap.size w w5 := W4_.trans (X5.mono W4_.size)
      have zs_5 := X5.size
      have Xw_5 := Xw_4.below X5
      clear Xw_4
      have Ow_5 := Ow_4.below X5
      clear Ow_4
      have O0_5 := O0_4.below X5
      clear O0_4
      have Xg_5 := Xg_4.below X5
      clear Xg_4
      have Og_5 := Og_4.below X5
      clear Og_4
      clear X5
      go_wp2_with fail
      refine (toCommandS_any _ p0 _ _ (hv0.below (W5_.trans (Below.mono (show Below w5.heap.size w5 _ from blw_) W5_.size))) s0).mono ?_
      rintro e w6 ⟨gq, rfl, -, -, oq, hB6⟩
      (have z_hB6 := Below.size hB6); (try simp only [World.size_alloc, World.size_setCell, World.size_drew, World.heap_drewN] at z_hB6)
      have X6 : Below w5.heap.size w5 w6 := blw_
      clear hB6
      have W6_ : Below w.heap.size w w6 := W5_.trans (X6.mono W5_.size)
      have zs_6 := X6.size
      have Xw_6 := Xw_5.below X6
      clear Xw_5
      have Ow_6 := Ow_5.below X6
      clear Ow_5
      have O0_6 := O0_5.below X6
      clear O0_5
      have Xg_6 := Xg_5.below X6
      clear Xg_5
      have Og_6 := Og_5.below X6
      clear Og_5
      clear X6
      have heq : eqB p0 p0 = true := eqB_of rfl
      go_wp2_with fail
      refine (eqCommandS_any _ _ p0 p0 _ _ _ ((O0_6.below blw_).ro) ((oq.below blw_).ro) (by omega) (by omega)).mono ?_
      rw [heq]
      rintro e w7 ⟨rfl, hB7⟩
      clear heq oq
      (have z_hB7 := Below.size hB7); (try simp only [World.size_alloc, World.size_setCell, World.size_drew, World.heap_drewN] at z_hB7)
      have X7 : Below w6.heap.size w6 w7 := blw_
      clear hB7
      have W7_ : Below w.heap.size w w7 := W6_.trans (X7.mono W6_.size)
      have zs_7 := X7.size
      have Xw_7 := Xw_6.below X7
      clear Xw_6
      have Ow_7 := Ow_6.below X7
      clear Ow_6
      have O0_7 := O0_6.below X7
      clear O0_6
      have Xg_7 := Xg_6.below X7
      clear Xg_6
      have Og_7 := Og_6.below X7
      clear Og_6
      clear X7
      have hk_ : (0 : Int) ≤ 1 := by omega
      go_wp2_with fail
      refine (markCommandS_law _ p0 _ _ (O0_7.below blw_) s0 (by omega) (by omega)).mono ?_
      rintro e w8 ⟨rfl, hS8⟩
      clear O0_7
      have zs_8 : w7.heap.size ≤ w8.heap.size := (by have := hS8.size; first | exact this | simpa using this)
      have W8_ : Below w.heap.size w w8 := W7_.trans (hS8.below (by first | omega | (simp; done) | (simp; omega)) W7_.size)
      have Xw_8 := Xw_7.span hS8 (by first | omega | (simp; done) | (simp; omega))
      clear Xw_7
      have Ow_8 := Ow_7.span hS8 (by first | omega | (simp; done) | (simp; omega))
      clear Ow_7
      have Xg_8 := Xg_7.span hS8 (by first | omega | (simp; done) | (simp; omega))
      clear Xg_7
      have Og_8 := Og_7.span hS8 (by first | omega | (simp; done) | (simp; omega))
      clear Og_7
      clear hS8
      have hk0 : (0 : Int) ≤ 1 + 4 * (p0.length : Int) := by omega
      have Xg_c0 : w8.cell? ⟨bg, 0, none⟩ = some (.slice Bg (runCountM p0).store.cells.length dg) := Xg_8 0 _ rfl
      have Xg_c1 : w8.cell? ⟨bg, 1, none⟩ = some (.slice Cg (runCountM p0).store.roots.length eg) := Xg_8 1 _ rfl
      have Xg_c2 : w8.cell? ⟨bg, 2, none⟩ = some (.slice Eg (runCountM p0).counts.length gg) := Xg_8 2 _ rfl
      have Xw_c0 : w8.cell? ⟨bw, 0, none⟩ = some (.slice Bw (runCountM p0).store.cells.length dw) := Xw_8 0 _ rfl
      have Xw_c1 : w8.cell? ⟨bw, 1, none⟩ = some (.slice Cw (runCountM p0).store.roots.length ew) := Xw_8 1 _ rfl
      have Xw_c2 : w8.cell? ⟨bw, 2, none⟩ = some (.slice Ew (runCountM p0).counts.length gw) := Xw_8 2 _ rfl
      have heq : eqB (runCountM p0) (runCountM p0) = true := eqB_of rfl
      go_wp2_with fail
      refine (eqCounted_any _ _ (runCountM p0) (runCountM p0) _ ((Og_8.below blw_).rd) ((Ow_8.below blw_).rd)).mono ?_
      rw [heq]
      rintro e w9 ⟨rfl, hB9⟩
      clear Xg_c0 Xg_c1 Xg_c2
      clear Xw_c0 Xw_c1 Xw_c2
      clear heq
      (have z_hB9 := Below.size hB9); (try simp only [World.size_alloc, World.size_setCell, World.size_drew, World.heap_drewN] at z_hB9)
      have X9 : Below w8.heap.size w8 w9 := blw_
      clear hB9
      have W9_ : Below w.heap.size w w9 := W8_.trans (X9.mono W8_.size)
      have zs_9 := X9.size
      have Xw_9 := Xw_8.below X9
      clear Xw_8
      have Ow_9 := Ow_8.below X9
      clear Ow_8
      have Xg_9 := Xg_8.below X9
      clear Xg_8
      have Og_9 := Og_8.below X9
      clear Og_8
      clear X9
      have Xg_c0 : w9.cell? ⟨bg, 0, none⟩ = some (.slice Bg (runCountM p0).store.cells.length dg) := Xg_9 0 _ rfl
      have Xg_c1 : w9.cell? ⟨bg, 1, none⟩ = some (.slice Cg (runCountM p0).store.roots.length eg) := Xg_9 1 _ rfl
      have Xg_c2 : w9.cell? ⟨bg, 2, none⟩ = some (.slice Eg (runCountM p0).counts.length gg) := Xg_9 2 _ rfl
      go_wp2_with fail
      have hm := HSR.out
      refine (markCounted_law _ _ _ _ (runCountM p0) _ (Og_9.below blw_) hm.1 hm.2 (by omega) (by omega)).mono ?_
      rintro e w10 ⟨rfl, Q_, hS10⟩
      clear Xg_c0 Xg_c1 Xg_c2
      clear Og_9
      have zs_10 : w9.heap.size ≤ w10.heap.size := (by have := hS10.size; first | exact this | simpa using this)
      have W10_ : Below w.heap.size w w10 := W9_.trans (hS10.below (by first | omega | (simp; done) | (simp; omega)) W9_.size)
      have Xw_10 := Xw_9.span hS10 (by first | omega | (simp; done) | (simp; omega))
      clear Xw_9
      have Ow_10 := Ow_9.span hS10 (by first | omega | (simp; done) | (simp; omega))
      clear Ow_9
      have Xg_10 := Xg_9.span hS10 (by first | omega | (simp; done) | (simp; omega))
      clear Xg_9
      clear hS10
      have Q_10 := Q_
      clear Q_
      have hkm : (0 : Int) ≤ 1 + (sizeN (runCountM p0) : Int) := by omega
      have Xg_c0 : w10.cell? ⟨bg, 0, none⟩ = some (.slice Bg (runCountM p0).store.cells.length dg) := Xg_10 0 _ rfl
      have Xg_c1 : w10.cell? ⟨bg, 1, none⟩ = some (.slice Cg (runCountM p0).store.roots.length eg) := Xg_10 1 _ rfl
      have Xg_c2 : w10.cell? ⟨bg, 2, none⟩ = some (.slice Eg (runCountM p0).counts.length gg) := Xg_10 2 _ rfl
      go_wp2_with fail
      refine (heldCounted_any _ (runCountM p0) _ _ (Q_10.below blw_) HSR.out.1 HSR.out.2 (by omega) (by omega)).mono ?_
      rintro e w11 ⟨rfl, hB11⟩
      clear Xg_c0 Xg_c1 Xg_c2
      (have z_hB11 := Below.size hB11); (try simp only [World.size_alloc, World.size_setCell, World.size_drew, World.heap_drewN] at z_hB11)
      have X11 : Below w10.heap.size w10 w11 := blw_
      clear hB11
      have W11_ : Below w.heap.size w w11 := W10_.trans (X11.mono W10_.size)
      have zs_11 := X11.size
      have Xw_11 := Xw_10.below X11
      clear Xw_10
      have Ow_11 := Ow_10.below X11
      clear Ow_10
      have Xg_11 := Xg_10.below X11
      clear Xg_10
      have Q_11 := Q_10.below X11
      clear Q_10
      clear X11
      go_upto_region 24 with fail
      go_cut [10] (fun s_r wx => ∃ (bh : Nat) (Bh : Option Addr) (dh : Nat) (Ch : Option Addr) (eh : Nat) (Eh : Option Addr) (gh : Nat) (lo_ hi_ : Nat), s_r = .pointer (some ⟨bh, 0, none⟩) ∧ OCB lo_ hi_ wx (.agg #[.slice Bh (runCountM p0).store.cells.length dh, .slice Ch (runCountM p0).store.roots.length eh, .slice Eh (runCountM p0).counts.length gh]) (runCountM p0) ∧ Box wx bh [.slice Bh (runCountM p0).store.cells.length dh, .slice Ch (runCountM p0).store.roots.length eh, .slice Eh (runCountM p0).counts.length gh] ∧ (bh < lo_ ∨ hi_ ≤ bh) ∧ w11.heap.size ≤ lo_ ∧ hi_ ≤ wx.heap.size ∧ w11.heap.size ≤ bh ∧ bh < wx.heap.size ∧ Below w11.heap.size w11 wx)
      case first =>
        go_wp2_with (first | (go_at_call 31; (with_reducible refine (toCommandS_any _ p0 _ _ (hv0.below (W11_.trans (Below.mono (show Below w11.heap.size w11 _ from blw_) W11_.size))) s0).mono ?_); rintro e y1 ⟨gL0, rfl, -, -, oL0, hY1⟩; (have z_hY1 := Below.size hY1); (try simp only [World.size_alloc, World.size_setCell, World.size_drew, World.heap_drewN] at z_hY1); obtain ⟨hbc1, hbf1, -⟩ := bcell hY1; (first | (have zl1 : w11.heap.size < y1.heap.size := Nat.lt_of_lt_of_le (Nat.lt_succ_self _) z_hY1) | skip)) | (go_at_call 17; (with_reducible refine (implRunCounted_any _ p0 _ _ ((oL0.below blw_).ro) (by omega)).mono ?_); rintro e y2 ⟨zF, rfl, oF, hY2⟩; obtain ob_ := oF.toB; obtain ⟨Bh, dh, Ch, eh, osh, Eh, gh, rfl, ownh⟩ := oF; (have z_hY2 := Below.size hY2); (try simp only [World.size_alloc, World.size_setCell, World.size_drew, World.heap_drewN] at z_hY2); obtain ⟨hbc2, hbf2, -⟩ := bcell hY2; (first | (have zl2 : y1.heap.size < y2.heap.size := Nat.lt_of_lt_of_le (Nat.lt_succ_self _) z_hY2) | skip); (first | (have zl1_2 := Nat.lt_of_lt_of_le zl1 z_hY2) | skip)))
        all_goals
          (try simp only [World.size_alloc, World.size_setCell, World.size_drew, World.heap_drewN, heap_drew_] at ownh)
          go_wp2_with fail
          go_meet
          refine ⟨_, Bh, dh, Ch, eh, Eh, gh, _, _, rfl, ob_.keep (fun g h1 h2 hg => ?_), Box.of3 ?_ ?_ ?_, ?_, ?_, ?_, ?_, ?_, blw_⟩
          · (try simp only [World.size_alloc, World.size_setCell, World.size_drew, World.heap_drewN, heap_drew_] at h1)
            (repeat (first | rw [heap_drew_] | rw [heap_setCell_ne _ _ _ (by first | omega | (simp; done) | (simp; omega))] | rw [Below.heap_alloc _ _ _ (by first | omega | (simp; done) | (simp; omega))]))
          · first | (simp [go_sem]; done) | (simp (disch := (first | omega | (simp; done) | (simp; omega))) [go_sem, hbc1, hbc2]; done)
          · first | (simp [go_sem]; done) | (simp (disch := (first | omega | (simp; done) | (simp; omega))) [go_sem, hbc1, hbc2]; done)
          · first | (simp [go_sem]; done) | (simp (disch := (first | omega | (simp; done) | (simp; omega))) [go_sem, hbc1, hbc2]; done)
          · (first | omega | (simp; done) | (simp; omega))
          · (first | omega | (simp; done) | (simp; omega))
          · (first | omega | (simp; done) | (simp; omega))
          · (first | omega | (simp; done) | (simp; omega))
          · (first | omega | (simp; done) | (simp; omega))
      case rest =>
        obtain ⟨bh, Bh, dh, Ch, eh, Eh, gh, loh, hih, rfl, Oh_12, Xh_12, iwh, ilh, ihh, ibh, ich, hCh⟩ := hcut
        obtain ⟨w12, hwc⟩ : ∃ x, x = wc := ⟨_, rfl⟩
        subst hwc
        have XC12 : Below w11.heap.size w11 w12 := Below.trans (show Below w11.heap.size w11 w11 from blw_) (hCh.mono (by first | exact Nat.le_refl _ | (simp; done) | (simp; omega)))
        have W12_ : Below w.heap.size w w12 := W11_.trans (XC12.mono W11_.size)
        have zs_12 := XC12.size
        have Xw_12 := Xw_11.below XC12
        clear Xw_11
        have Ow_12 := Ow_11.below XC12
        clear Ow_11
        have Xg_12 := Xg_11.below XC12
        clear Xg_11
        have Q_12 := Q_11.below XC12
        clear Q_11
        clear XC12 hCh
        have Xh_c0 : w12.cell? ⟨bh, 0, none⟩ = some (.slice Bh (runCountM p0).store.cells.length dh) := Xh_12 0 _ rfl
        have Xh_c1 : w12.cell? ⟨bh, 1, none⟩ = some (.slice Ch (runCountM p0).store.roots.length eh) := Xh_12 1 _ rfl
        have Xh_c2 : w12.cell? ⟨bh, 2, none⟩ = some (.slice Eh (runCountM p0).counts.length gh) := Xh_12 2 _ rfl
        have Xw_c0 : w12.cell? ⟨bw, 0, none⟩ = some (.slice Bw (runCountM p0).store.cells.length dw) := Xw_12 0 _ rfl
        have Xw_c1 : w12.cell? ⟨bw, 1, none⟩ = some (.slice Cw (runCountM p0).store.roots.length ew) := Xw_12 1 _ rfl
        have Xw_c2 : w12.cell? ⟨bw, 2, none⟩ = some (.slice Ew (runCountM p0).counts.length gw) := Xw_12 2 _ rfl
        have heq : eqB (runCountM p0) (runCountM p0) = true := eqB_of rfl
        go_wp2_with fail
        refine (eqCounted_any _ _ (runCountM p0) (runCountM p0) _ ((Oh_12.below blw_).rd) ((Ow_12.below blw_).rd)).mono ?_
        rw [heq]
        rintro e w13 ⟨rfl, hB13⟩
        clear Xh_c0 Xh_c1 Xh_c2
        clear Xw_c0 Xw_c1 Xw_c2
        clear heq
        (have z_hB13 := Below.size hB13); (try simp only [World.size_alloc, World.size_setCell, World.size_drew, World.heap_drewN] at z_hB13)
        have X13 : Below w12.heap.size w12 w13 := blw_
        clear hB13
        have W13_ : Below w.heap.size w w13 := W12_.trans (X13.mono W12_.size)
        have zs_13 := X13.size
        have Xw_13 := Xw_12.below X13
        clear Xw_12
        have Ow_13 := Ow_12.below X13
        clear Ow_12
        have Xg_13 := Xg_12.below X13
        clear Xg_12
        have Q_13 := Q_12.below X13
        clear Q_12
        have Xh_13 := Xh_12.below X13
        clear Xh_12
        have Oh_13 := Oh_12.below X13
        clear Oh_12
        clear X13
        have Xg_c0 : w13.cell? ⟨bg, 0, none⟩ = some (.slice Bg (runCountM p0).store.cells.length dg) := Xg_13 0 _ rfl
        have Xg_c1 : w13.cell? ⟨bg, 1, none⟩ = some (.slice Cg (runCountM p0).store.roots.length eg) := Xg_13 1 _ rfl
        have Xg_c2 : w13.cell? ⟨bg, 2, none⟩ = some (.slice Eg (runCountM p0).counts.length gg) := Xg_13 2 _ rfl
        go_wp2_with fail
        refine (heldCounted_any _ (runCountM p0) _ _ (Q_13.below blw_) HSR.out.1 HSR.out.2 (by omega) (by omega)).mono ?_
        rintro e w14 ⟨rfl, hB14⟩
        clear Xg_c0 Xg_c1 Xg_c2
        (have z_hB14 := Below.size hB14); (try simp only [World.size_alloc, World.size_setCell, World.size_drew, World.heap_drewN] at z_hB14)
        have X14 : Below w13.heap.size w13 w14 := blw_
        clear hB14
        have W14_ : Below w.heap.size w w14 := W13_.trans (X14.mono W13_.size)
        have zs_14 := X14.size
        have Xw_14 := Xw_13.below X14
        clear Xw_13
        have Ow_14 := Ow_13.below X14
        clear Ow_13
        have Xg_14 := Xg_13.below X14
        clear Xg_13
        have Q_14 := Q_13.below X14
        clear Q_13
        have Xh_14 := Xh_13.below X14
        clear Xh_13
        have Oh_14 := Oh_13.below X14
        clear Oh_13
        clear X14
        go_wp2
        go_ret
        exact ⟨rfl, W14_⟩
end Go.Proofs.Ytbnokkdhanlhpaa
