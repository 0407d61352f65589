/- FnExactRunSnap: the program's RunSnap returns what the reference's returns, for every argument. No condition. -/
import Derived.Test.YtdkhpmlimnfgpaaChecked
import Derived.Deep.RegionHeld3
import Derived.Deep.DeepCutAuto
import Derived.Test.YtdkhpmlimnfgpaaGrMark
import Derived.Test.YtdkhpmlimnfgpaaGrSz
import Derived.Test.YtdkhpmlimnfgpaaTo
import Derived.Test.YtdkhpmlimnfgpaaEq
import Derived.Test.YtdkhpmlimnfgpaaRunS
namespace Go.Proofs.Ytdkhpmlimnfgpaa
open Go.RowKit
set_option maxRecDepth 100000
set_option linter.unusedSimpArgs false
set_option linter.unusedVariables false
set_option maxHeartbeats 20000000 in
theorem walkExactRunSnap (v0 : Value) (p0 : HeapM) (L1 : Option Addr) (k1 : Nat) (p1 : List CmdM) (p2 : Int) (w : World) (hv0 : RH w v0 p0) (hv1 : RO w L1 p1) (hl1 : p1.length ≤ 9223372036854775807) :
    Calls Try.prog 7 #[v0, .slice L1 p1.length k1, .int .i64 p2] w fun e w' => e = .returned (.bool true) ∧ Below w.heap.size w w' := by
  obtain ⟨x0, hx0⟩ : ∃ x, x = v0 := ⟨_, rfl⟩
  have hw0 := hv0
  obtain ⟨BA0, dA0, CA0, eA0, hq0, -⟩ := hw0
  subst hq0
  clear hx0 x0
  have hle0 := szH_le p0 1048576
  by_cases hneg0 : szH p0 1048576 < 0
  · go_enter Try.func7, Try.ntmps7
    go_wp2_with (go_at_call 15; refine (szHeap_any _ p0 _ _ (hv0.below (by repeat (first | ((with_reducible refine Below.setc ?_ ?_ _); focus (first | omega | (simp; done) | (simp; omega))) | ((with_reducible refine Below.allocc ?_ ?_ _); focus (first | omega | (simp; done) | (simp; omega))) | (with_reducible refine Below.drew ?_) | (with_reducible refine Below.drewn ?_) | (with_reducible assumption) | (with_reducible exact Below.refl _ _) | ((with_reducible refine Below.stepp (by with_reducible assumption) ?_ ?_); focus (first | omega | (simp; done) | (simp; omega)))))) (by omega) (by omega)).mono ?_; rintro e w1 ⟨rfl, hB1⟩)
    go_ret
    exact ⟨rfl, (by repeat (first | ((with_reducible refine Below.setc ?_ ?_ _); focus (first | omega | (simp; done) | (simp; omega))) | ((with_reducible refine Below.allocc ?_ ?_ _); focus (first | omega | (simp; done) | (simp; omega))) | (with_reducible refine Below.drew ?_) | (with_reducible refine Below.drewn ?_) | (with_reducible assumption) | (with_reducible exact Below.refl _ _) | ((with_reducible refine Below.stepp (by with_reducible assumption) ?_ ?_); focus (first | omega | (simp; done) | (simp; omega)))))⟩
  have hle1 : -1 ≤ szI p1.length (szH p0 1048576) ∧ szI p1.length (szH p0 1048576) ≤ 1048576 := by unfold szI; split <;> omega
  by_cases hneg1 : szI p1.length (szH p0 1048576) < 0
  · go_enter Try.func7, Try.ntmps7
    go_wp2_with ((first | (go_at_call 15; refine (szHeap_any _ p0 _ _ (hv0.below (by repeat (first | ((with_reducible refine Below.setc ?_ ?_ _); focus (first | omega | (simp; done) | (simp; omega))) | ((with_reducible refine Below.allocc ?_ ?_ _); focus (first | omega | (simp; done) | (simp; omega))) | (with_reducible refine Below.drew ?_) | (with_reducible refine Below.drewn ?_) | (with_reducible assumption) | (with_reducible exact Below.refl _ _) | ((with_reducible refine Below.stepp (by with_reducible assumption) ?_ ?_); focus (first | omega | (simp; done) | (simp; omega)))))) (by omega) (by omega)).mono ?_; rintro e w1 ⟨rfl, hB1⟩) | (go_at_call 41; refine (szCommandS_any _ _ _ _ _ hl1 (by omega) (by omega)).mono ?_; rintro e w_ ⟨rfl, rfl⟩)))
    go_ret
    exact ⟨rfl, (by repeat (first | ((with_reducible refine Below.setc ?_ ?_ _); focus (first | omega | (simp; done) | (simp; omega))) | ((with_reducible refine Below.allocc ?_ ?_ _); focus (first | omega | (simp; done) | (simp; omega))) | (with_reducible refine Below.drew ?_) | (with_reducible refine Below.drewn ?_) | (with_reducible assumption) | (with_reducible exact Below.refl _ _) | ((with_reducible refine Below.stepp (by with_reducible assumption) ?_ ?_); focus (first | omega | (simp; done) | (simp; omega)))))⟩
  obtain s0 := szH_small hneg0
  have s1 : p1.length ≤ 1048576 := by have h9 := hneg1; unfold szI at h9; split at h9 <;> omega
  have HSR := Lib.hid (small_RunSnap p0 p1 p2)
  go_enter Try.func7, Try.ntmps7
  go_upto_region 8 with ((first | (go_at_call 15; refine (szHeap_any _ p0 _ _ (hv0.below (by repeat (first | ((with_reducible refine Below.setc ?_ ?_ _); focus (first | omega | (simp; done) | (simp; omega))) | ((with_reducible refine Below.allocc ?_ ?_ _); focus (first | omega | (simp; done) | (simp; omega))) | (with_reducible refine Below.drew ?_) | (with_reducible refine Below.drewn ?_) | (with_reducible assumption) | (with_reducible exact Below.refl _ _) | ((with_reducible refine Below.stepp (by with_reducible assumption) ?_ ?_); focus (first | omega | (simp; done) | (simp; omega)))))) (by omega) (by omega)).mono ?_; rintro e w1 ⟨rfl, hB1⟩) | (go_at_call 41; refine (szCommandS_any _ _ _ _ _ hl1 (by omega) (by omega)).mono ?_; rintro e w_ ⟨rfl, rfl⟩)))
  (have z_hB1 := Below.size hB1); (try simp only [World.size_alloc, World.size_setCell, World.size_drew, World.heap_drewN] at z_hB1)
  have A0_1 : Box w1 (w.heap.size) [.slice BA0 p0.cells.length dA0, .slice CA0 p0.roots.length eA0] := by
    exact (Box.new w [.slice BA0 p0.cells.length dA0, .slice CA0 p0.roots.length eA0] 25).below (by repeat (first | ((with_reducible refine Below.setc ?_ ?_ _); focus (first | omega | (simp; done) | (simp; omega))) | ((with_reducible refine Below.allocc ?_ ?_ _); focus (first | omega | (simp; done) | (simp; omega))) | (with_reducible refine Below.drew ?_) | (with_reducible refine Below.drewn ?_) | (with_reducible assumption) | (with_reducible exact Below.refl _ _) | ((with_reducible refine Below.stepp (by with_reducible assumption) ?_ ?_); focus (first | omega | (simp; done) | (simp; omega)))))
  have W1 : Below w.heap.size w w1 := (by repeat (first | ((with_reducible refine Below.setc ?_ ?_ _); focus (first | omega | (simp; done) | (simp; omega))) | ((with_reducible refine Below.allocc ?_ ?_ _); focus (first | omega | (simp; done) | (simp; omega))) | (with_reducible refine Below.drew ?_) | (with_reducible refine Below.drewn ?_) | (with_reducible assumption) | (with_reducible exact Below.refl _ _) | ((with_reducible refine Below.stepp (by with_reducible assumption) ?_ ?_); focus (first | omega | (simp; done) | (simp; omega)))))
  have zb_1 : w.heap.size + 1 ≤ w1.heap.size := by omega
  clear hB1
  clear hneg0 hle0 hneg1 hle1
  have HS : ∀ W, Below w1.heap.size w1 W → W.cell? ⟨w.heap.size, 0, none⟩ = some (.slice BA0 p0.cells.length dA0) ∧ W.cell? ⟨w.heap.size, 1, none⟩ = some (.slice CA0 p0.roots.length eA0) := fun W hW => ⟨cell_below (A0_1 0 _ rfl) (Below.trans (show Below w1.heap.size w1 w1 from (by repeat (first | ((with_reducible refine Below.setc ?_ ?_ _); focus (first | omega | (simp; done) | (simp; omega))) | ((with_reducible refine Below.allocc ?_ ?_ _); focus (first | omega | (simp; done) | (simp; omega))) | (with_reducible refine Below.drew ?_) | (with_reducible refine Below.drewn ?_) | (with_reducible assumption) | (with_reducible exact Below.refl _ _) | ((with_reducible refine Below.stepp (by with_reducible assumption) ?_ ?_); focus (first | omega | (simp; done) | (simp; omega)))))) (hW.mono (by first | exact Nat.le_refl _ | (simp; done) | (simp; omega)))), cell_below (A0_1 1 _ rfl) (Below.trans (show Below w1.heap.size w1 w1 from (by repeat (first | ((with_reducible refine Below.setc ?_ ?_ _); focus (first | omega | (simp; done) | (simp; omega))) | ((with_reducible refine Below.allocc ?_ ?_ _); focus (first | omega | (simp; done) | (simp; omega))) | (with_reducible refine Below.drew ?_) | (with_reducible refine Below.drewn ?_) | (with_reducible assumption) | (with_reducible exact Below.refl _ _) | ((with_reducible refine Below.stepp (by with_reducible assumption) ?_ ?_); focus (first | omega | (simp; done) | (simp; omega)))))) (hW.mono (by first | exact Nat.le_refl _ | (simp; done) | (simp; omega))))⟩
  go_cut [8] (fun s_r wx => ∃ (bw : Nat) (Bw : Option Addr) (dw : Nat) (Cw : Option Addr) (ew : Nat) (lo_ hi_ : Nat), s_r = .pointer (some ⟨bw, 0, none⟩) ∧ OHB lo_ hi_ wx (.agg #[.slice Bw (runSnapM p0 p1 p2).cells.length dw, .slice Cw (runSnapM p0 p1 p2).roots.length ew]) (runSnapM p0 p1 p2) ∧ Box wx bw [.slice Bw (runSnapM p0 p1 p2).cells.length dw, .slice Cw (runSnapM p0 p1 p2).roots.length ew] ∧ (bw < lo_ ∨ hi_ ≤ bw) ∧ w1.heap.size ≤ lo_ ∧ hi_ ≤ wx.heap.size ∧ w1.heap.size ≤ bw ∧ bw < wx.heap.size ∧ Below w1.heap.size w1 wx)
  case first =>
    have A0_c0 : w1.cell? ⟨w.heap.size, 0, none⟩ = some (.slice BA0 p0.cells.length dA0) := A0_1 0 _ rfl
    have A0_c1 : w1.cell? ⟨w.heap.size, 1, none⟩ = some (.slice CA0 p0.roots.length eA0) := A0_1 1 _ rfl
    go_wp2_with (first | (go_at_call 17; (with_reducible refine (toHeap_any _ p0 _ (hv0.below (W1.trans (Below.mono (show Below w1.heap.size w1 _ from (by repeat (first | ((with_reducible refine Below.setc ?_ ?_ _); focus (first | omega | (simp; done) | (simp; omega))) | ((with_reducible refine Below.allocc ?_ ?_ _); focus (first | omega | (simp; done) | (simp; omega))) | (with_reducible refine Below.drew ?_) | (with_reducible refine Below.drewn ?_) | (with_reducible assumption) | (with_reducible exact Below.refl _ _) | ((with_reducible refine Below.stepp (by with_reducible assumption) ?_ ?_); focus (first | omega | (simp; done) | (simp; omega)))))) W1.size))) s0.cells s0.refs s0.roots).mono ?_); rintro e y1 ⟨z0, rfl, o0, hY1⟩; obtain ⟨By0, dy0, Cy0, ey0, rfl, -⟩ := o0.rh; have ob0 := o0.toB; (have z_hY1 := Below.size hY1); (try simp only [World.size_alloc, World.size_setCell, World.size_drew, World.heap_drewN] at z_hY1); obtain ⟨hbc1, hbf1, -⟩ := bcell hY1; (first | (have zl1 : w1.heap.size < y1.heap.size := Nat.lt_of_lt_of_le (Nat.lt_succ_self _) z_hY1) | skip)) | (go_at_call 43; (with_reducible refine (toCommandS_any _ p1 _ _ (hv1.below (W1.trans (Below.mono (show Below w1.heap.size w1 _ from (by repeat (first | ((with_reducible refine Below.setc ?_ ?_ _); focus (first | omega | (simp; done) | (simp; omega))) | ((with_reducible refine Below.allocc ?_ ?_ _); focus (first | omega | (simp; done) | (simp; omega))) | (with_reducible refine Below.drew ?_) | (with_reducible refine Below.drewn ?_) | (with_reducible assumption) | (with_reducible exact Below.refl _ _) | ((with_reducible refine Below.stepp (by with_reducible assumption) ?_ ?_); focus (first | omega | (simp; done) | (simp; omega)))))) W1.size))) s1).mono ?_); rintro e y2 ⟨gL1, rfl, -, -, oL1, hY2⟩; (have z_hY2 := Below.size hY2); (try simp only [World.size_alloc, World.size_setCell, World.size_drew, World.heap_drewN] at z_hY2); obtain ⟨hbc2, hbf2, -⟩ := bcell hY2; (first | (have zl2 : y1.heap.size < y2.heap.size := Nat.lt_of_lt_of_le (Nat.lt_succ_self _) z_hY2) | skip); (first | (have zl1_2 := Nat.lt_of_lt_of_le zl1 z_hY2) | skip)) | (go_at_call 42; (with_reducible refine (specRunSnap_any _ p0 _ p1 _ p2 _ ((ob0.below (by repeat (first | ((with_reducible refine Below.setc ?_ ?_ _); focus (first | omega | (simp; done) | (simp; omega))) | ((with_reducible refine Below.allocc ?_ ?_ _); focus (first | omega | (simp; done) | (simp; omega))) | (with_reducible refine Below.drew ?_) | (with_reducible refine Below.drewn ?_) | (with_reducible assumption) | (with_reducible exact Below.refl _ _) | ((with_reducible refine Below.stepp (by with_reducible assumption) ?_ ?_); focus (first | omega | (simp; done) | (simp; omega)))))).rd) ((oL1.below (by repeat (first | ((with_reducible refine Below.setc ?_ ?_ _); focus (first | omega | (simp; done) | (simp; omega))) | ((with_reducible refine Below.allocc ?_ ?_ _); focus (first | omega | (simp; done) | (simp; omega))) | (with_reducible refine Below.drew ?_) | (with_reducible refine Below.drewn ?_) | (with_reducible assumption) | (with_reducible exact Below.refl _ _) | ((with_reducible refine Below.stepp (by with_reducible assumption) ?_ ?_); focus (first | omega | (simp; done) | (simp; omega)))))).ro) (by omega)).mono ?_); rintro e y3 ⟨zF, rfl, oF, hY3⟩; obtain ob_ := oF.toB; obtain ⟨Bw, dw, Cw, ew, osw, rfl, ownw⟩ := oF; (have z_hY3 := Below.size hY3); (try simp only [World.size_alloc, World.size_setCell, World.size_drew, World.heap_drewN] at z_hY3); obtain ⟨hbc3, hbf3, -⟩ := bcell hY3; (first | (have zl3 : y2.heap.size < y3.heap.size := Nat.lt_of_lt_of_le (Nat.lt_succ_self _) z_hY3) | skip); (first | (have zl1_3 := Nat.lt_of_lt_of_le zl1 z_hY3) | skip); (first | (have zl1_3 := Nat.lt_of_lt_of_le zl1_2 z_hY3) | skip); (first | (have zl2_3 := Nat.lt_of_lt_of_le zl2 z_hY3) | skip)))
    all_goals
      (try simp only [World.size_alloc, World.size_setCell, World.size_drew, World.heap_drewN, heap_drew_] at ownw)
      go_wp2_with fail
      go_meet
      refine ⟨_, Bw, dw, Cw, ew, _, _, rfl, ob_.keep (fun g h1 h2 hg => ?_), Box.of2 ?_ ?_, ?_, ?_, ?_, ?_, ?_, (by repeat (first | ((with_reducible refine Below.setc ?_ ?_ _); focus (first | omega | (simp; done) | (simp; omega))) | ((with_reducible refine Below.allocc ?_ ?_ _); focus (first | omega | (simp; done) | (simp; omega))) | (with_reducible refine Below.drew ?_) | (with_reducible refine Below.drewn ?_) | (with_reducible assumption) | (with_reducible exact Below.refl _ _) | ((with_reducible refine Below.stepp (by with_reducible assumption) ?_ ?_); focus (first | omega | (simp; done) | (simp; omega)))))⟩
      · (try simp only [World.size_alloc, World.size_setCell, World.size_drew, World.heap_drewN, heap_drew_] at h1)
        (repeat (first | rw [heap_drew_] | rw [heap_setCell_ne _ _ _ (by first | omega | (simp; done) | (simp; omega))] | rw [Below.heap_alloc _ _ _ (by first | omega | (simp; done) | (simp; omega))]))
      · first | (simp [go_sem]; done) | (simp (disch := (first | omega | (simp; done) | (simp; omega))) [go_sem, hbc1, hbc2, hbc3]; done)
      · first | (simp [go_sem]; done) | (simp (disch := (first | omega | (simp; done) | (simp; omega))) [go_sem, hbc1, hbc2, hbc3]; done)
      · (first | omega | (simp; done) | (simp; omega))
      · (first | omega | (simp; done) | (simp; omega))
      · (first | omega | (simp; done) | (simp; omega))
      · (first | omega | (simp; done) | (simp; omega))
      · (first | omega | (simp; done) | (simp; omega))
  case rest =>
    obtain ⟨bw, Bw, dw, Cw, ew, low, hiw, rfl, Ow_2, Xw_2, iww, ilw, ihw, ibw, icw, hCw⟩ := hcut
    clear HS
    obtain ⟨w2, hwc⟩ : ∃ x, x = wc := ⟨_, rfl⟩
    subst hwc
    have XC2 : Below w1.heap.size w1 w2 := Below.trans (show Below w1.heap.size w1 w1 from (by repeat (first | ((with_reducible refine Below.setc ?_ ?_ _); focus (first | omega | (simp; done) | (simp; omega))) | ((with_reducible refine Below.allocc ?_ ?_ _); focus (first | omega | (simp; done) | (simp; omega))) | (with_reducible refine Below.drew ?_) | (with_reducible refine Below.drewn ?_) | (with_reducible assumption) | (with_reducible exact Below.refl _ _) | ((with_reducible refine Below.stepp (by with_reducible assumption) ?_ ?_); focus (first | omega | (simp; done) | (simp; omega)))))) (hCw.mono (by first | exact Nat.le_refl _ | (simp; done) | (simp; omega)))
    have W2_ : Below w.heap.size w w2 := W1.trans (XC2.mono W1.size)
    have zs_2 := XC2.size
    have A0_2 := A0_1.below XC2
    clear A0_1
    clear XC2 hCw
    have A0_c0 : w2.cell? ⟨w.heap.size, 0, none⟩ = some (.slice BA0 p0.cells.length dA0) := A0_2 0 _ rfl
    have A0_c1 : w2.cell? ⟨w.heap.size, 1, none⟩ = some (.slice CA0 p0.roots.length eA0) := A0_2 1 _ rfl
    go_wp2_with fail
    refine (toHeap_any _ p0 _ (hv0.below (W2_.trans (Below.mono (show Below w2.heap.size w2 _ from (by repeat (first | ((with_reducible refine Below.setc ?_ ?_ _); focus (first | omega | (simp; done) | (simp; omega))) | ((with_reducible refine Below.allocc ?_ ?_ _); focus (first | omega | (simp; done) | (simp; omega))) | (with_reducible refine Below.drew ?_) | (with_reducible refine Below.drewn ?_) | (with_reducible assumption) | (with_reducible exact Below.refl _ _) | ((with_reducible refine Below.stepp (by with_reducible assumption) ?_ ?_); focus (first | omega | (simp; done) | (simp; omega)))))) W2_.size))) s0.cells s0.refs s0.roots).mono ?_
    rintro e w3 ⟨z0, rfl, o0, hB3⟩
    obtain ⟨BX0, dX0, CX0, eX0, rfl, -⟩ := o0.rh
    clear A0_c0 A0_c1
    have hlo0 : ∃ lo0, lo0 = _ ∧ w2.heap.size ≤ lo0 ∧ OHB lo0 w3.heap.size w3 _ p0 := ⟨_, rfl, by (first | omega | (simp; done) | (simp; omega)), o0.toB⟩
    obtain ⟨lo0, -, hlo0, O0_3⟩ := hlo0
    clear o0
    (have z_hB3 := Below.size hB3); (try simp only [World.size_alloc, World.size_setCell, World.size_drew, World.heap_drewN] at z_hB3)
    have X3 : Below w2.heap.size w2 w3 := (by repeat (first | ((with_reducible refine Below.setc ?_ ?_ _); focus (first | omega | (simp; done) | (simp; omega))) | ((with_reducible refine Below.allocc ?_ ?_ _); focus (first | omega | (simp; done) | (simp; omega))) | (with_reducible refine Below.drew ?_) | (with_reducible refine Below.drewn ?_) | (with_reducible assumption) | (with_reducible exact Below.refl _ _) | ((with_reducible refine Below.stepp (by with_reducible assumption) ?_ ?_); focus (first | omega | (simp; done) | (simp; omega)))))
    clear hB3
    have W3_ : Below w.heap.size w w3 := W2_.trans (X3.mono W2_.size)
    have zs_3 := X3.size
    have A0_3 := A0_2.below X3
    clear A0_2
    have Xw_3 := Xw_2.below X3
    clear Xw_2
    have Ow_3 := Ow_2.below X3
    clear Ow_2
    clear X3
    go_wp2_with fail
    refine (toCommandS_any _ p1 _ _ (hv1.below (W3_.trans (Below.mono (show Below w3.heap.size w3 _ from (by repeat (first | ((with_reducible refine Below.setc ?_ ?_ _); focus (first | omega | (simp; done) | (simp; omega))) | ((with_reducible refine Below.allocc ?_ ?_ _); focus (first | omega | (simp; done) | (simp; omega))) | (with_reducible refine Below.drew ?_) | (with_reducible refine Below.drewn ?_) | (with_reducible assumption) | (with_reducible exact Below.refl _ _) | ((with_reducible refine Below.stepp (by with_reducible assumption) ?_ ?_); focus (first | omega | (simp; done) | (simp; omega)))))) W3_.size))) s1).mono ?_
    rintro e w4 ⟨gX1, rfl, hlo1, -, oX1, hB4⟩
    have hhi1 : gX1 < w4.heap.size := oX1.lt gX1 (by simp [blk])
    have hlo1' : w3.heap.size ≤ gX1 := by first | omega | (simp at hlo1; omega) | (first | omega | (simp; done) | (simp; omega))
    have O1_4 : OOB gX1 w4 p1 := oX1
    clear oX1
    (have z_hB4 := Below.size hB4); (try simp only [World.size_alloc, World.size_setCell, World.size_drew, World.heap_drewN] at z_hB4)
    have X0_4 : Box w4 w3.heap.size [.slice BX0 p0.cells.length dX0, .slice CX0 p0.roots.length eX0] := (Box.new w3 [.slice BX0 p0.cells.length dX0, .slice CX0 p0.roots.length eX0] 29).below (w' := w4) (by repeat (first | ((with_reducible refine Below.setc ?_ ?_ _); focus (first | omega | (simp; done) | (simp; omega))) | ((with_reducible refine Below.allocc ?_ ?_ _); focus (first | omega | (simp; done) | (simp; omega))) | (with_reducible refine Below.drew ?_) | (with_reducible refine Below.drewn ?_) | (with_reducible assumption) | (with_reducible exact Below.refl _ _) | ((with_reducible refine Below.stepp (by with_reducible assumption) ?_ ?_); focus (first | omega | (simp; done) | (simp; omega)))))
    have X4 : Below w3.heap.size w3 w4 := (by repeat (first | ((with_reducible refine Below.setc ?_ ?_ _); focus (first | omega | (simp; done) | (simp; omega))) | ((with_reducible refine Below.allocc ?_ ?_ _); focus (first | omega | (simp; done) | (simp; omega))) | (with_reducible refine Below.drew ?_) | (with_reducible refine Below.drewn ?_) | (with_reducible assumption) | (with_reducible exact Below.refl _ _) | ((with_reducible refine Below.stepp (by with_reducible assumption) ?_ ?_); focus (first | omega | (simp; done) | (simp; omega)))))
    clear hB4
    have W4_ : Below w.heap.size w w4 := W3_.trans (X4.mono W3_.size)
    have zs_4 := X4.size
    have zp_4 : w3.heap.size < w4.heap.size := World.block_lt_of_cell? w4 _ (X0_4 0 _ rfl)
    have A0_4 := A0_3.below X4
    clear A0_3
    have Xw_4 := Xw_3.below X4
    clear Xw_3
    have Ow_4 := Ow_3.below X4
    clear Ow_3
    have O0_4 := O0_3.below X4
    clear O0_3
    clear X4
    go_upto_region 11 with fail
    have HS : ∀ W, Below w4.heap.size w4 W → W.cell? ⟨w3.heap.size, 0, none⟩ = some (.slice BX0 p0.cells.length dX0) ∧ W.cell? ⟨w3.heap.size, 1, none⟩ = some (.slice CX0 p0.roots.length eX0) := fun W hW => ⟨cell_below (X0_4 0 _ rfl) (Below.trans (show Below w4.heap.size w4 w4 from (by repeat (first | ((with_reducible refine Below.setc ?_ ?_ _); focus (first | omega | (simp; done) | (simp; omega))) | ((with_reducible refine Below.allocc ?_ ?_ _); focus (first | omega | (simp; done) | (simp; omega))) | (with_reducible refine Below.drew ?_) | (with_reducible refine Below.drewn ?_) | (with_reducible assumption) | (with_reducible exact Below.refl _ _) | ((with_reducible refine Below.stepp (by with_reducible assumption) ?_ ?_); focus (first | omega | (simp; done) | (simp; omega)))))) (hW.mono (by first | exact Nat.le_refl _ | (simp; done) | (simp; omega)))), cell_below (X0_4 1 _ rfl) (Below.trans (show Below w4.heap.size w4 w4 from (by repeat (first | ((with_reducible refine Below.setc ?_ ?_ _); focus (first | omega | (simp; done) | (simp; omega))) | ((with_reducible refine Below.allocc ?_ ?_ _); focus (first | omega | (simp; done) | (simp; omega))) | (with_reducible refine Below.drew ?_) | (with_reducible refine Below.drewn ?_) | (with_reducible assumption) | (with_reducible exact Below.refl _ _) | ((with_reducible refine Below.stepp (by with_reducible assumption) ?_ ?_); focus (first | omega | (simp; done) | (simp; omega)))))) (hW.mono (by first | exact Nat.le_refl _ | (simp; done) | (simp; omega))))⟩
    go_cut [11] (fun s_r wx => ∃ (bg : Nat) (Bg : Option Addr) (dg : Nat) (Cg : Option Addr) (eg : Nat) (lo_ hi_ : Nat), s_r = .pointer (some ⟨bg, 0, none⟩) ∧ OHB lo_ hi_ wx (.agg #[.slice Bg (runSnapM p0 p1 p2).cells.length dg, .slice Cg (runSnapM p0 p1 p2).roots.length eg]) (runSnapM p0 p1 p2) ∧ Box wx bg [.slice Bg (runSnapM p0 p1 p2).cells.length dg, .slice Cg (runSnapM p0 p1 p2).roots.length eg] ∧ (bg < lo_ ∨ hi_ ≤ bg) ∧ w4.heap.size ≤ lo_ ∧ hi_ ≤ wx.heap.size ∧ w4.heap.size ≤ bg ∧ bg < wx.heap.size ∧ Below w4.heap.size w4 wx)
    case first =>
      have X0_c0 : w4.cell? ⟨w3.heap.size, 0, none⟩ = some (.slice BX0 p0.cells.length dX0) := X0_4 0 _ rfl
      have X0_c1 : w4.cell? ⟨w3.heap.size, 1, none⟩ = some (.slice CX0 p0.roots.length eX0) := X0_4 1 _ rfl
      go_wp2_with (first | (go_at_call 44; (with_reducible refine (implRunSnap_any _ p0 _ p1 _ p2 _ ((O0_4.below (by repeat (first | ((with_reducible refine Below.setc ?_ ?_ _); focus (first | omega | (simp; done) | (simp; omega))) | ((with_reducible refine Below.allocc ?_ ?_ _); focus (first | omega | (simp; done) | (simp; omega))) | (with_reducible refine Below.drew ?_) | (with_reducible refine Below.drewn ?_) | (with_reducible assumption) | (with_reducible exact Below.refl _ _) | ((with_reducible refine Below.stepp (by with_reducible assumption) ?_ ?_); focus (first | omega | (simp; done) | (simp; omega)))))).rd) ((O1_4.below (by repeat (first | ((with_reducible refine Below.setc ?_ ?_ _); focus (first | omega | (simp; done) | (simp; omega))) | ((with_reducible refine Below.allocc ?_ ?_ _); focus (first | omega | (simp; done) | (simp; omega))) | (with_reducible refine Below.drew ?_) | (with_reducible refine Below.drewn ?_) | (with_reducible assumption) | (with_reducible exact Below.refl _ _) | ((with_reducible refine Below.stepp (by with_reducible assumption) ?_ ?_); focus (first | omega | (simp; done) | (simp; omega)))))).ro) (by omega)).mono ?_); rintro e y1 ⟨zF, rfl, oF, hY1⟩; obtain ob_ := oF.toB; obtain ⟨Bg, dg, Cg, eg, osg, rfl, owng⟩ := oF; (have z_hY1 := Below.size hY1); (try simp only [World.size_alloc, World.size_setCell, World.size_drew, World.heap_drewN] at z_hY1); obtain ⟨hbc1, hbf1, -⟩ := bcell hY1; (first | (have zl1 : w4.heap.size < y1.heap.size := Nat.lt_of_lt_of_le (Nat.lt_succ_self _) z_hY1) | skip)))
      all_goals
        (try simp only [World.size_alloc, World.size_setCell, World.size_drew, World.heap_drewN, heap_drew_] at owng)
        go_wp2_with fail
        go_meet
        refine ⟨_, Bg, dg, Cg, eg, _, _, rfl, ob_.keep (fun g h1 h2 hg => ?_), Box.of2 ?_ ?_, ?_, ?_, ?_, ?_, ?_, (by repeat (first | ((with_reducible refine Below.setc ?_ ?_ _); focus (first | omega | (simp; done) | (simp; omega))) | ((with_reducible refine Below.allocc ?_ ?_ _); focus (first | omega | (simp; done) | (simp; omega))) | (with_reducible refine Below.drew ?_) | (with_reducible refine Below.drewn ?_) | (with_reducible assumption) | (with_reducible exact Below.refl _ _) | ((with_reducible refine Below.stepp (by with_reducible assumption) ?_ ?_); focus (first | omega | (simp; done) | (simp; omega)))))⟩
        · (try simp only [World.size_alloc, World.size_setCell, World.size_drew, World.heap_drewN, heap_drew_] at h1)
          (repeat (first | rw [heap_drew_] | rw [heap_setCell_ne _ _ _ (by first | omega | (simp; done) | (simp; omega))] | rw [Below.heap_alloc _ _ _ (by first | omega | (simp; done) | (simp; omega))]))
        · first | (simp [go_sem]; done) | (simp (disch := (first | omega | (simp; done) | (simp; omega))) [go_sem, hbc1]; done)
        · first | (simp [go_sem]; done) | (simp (disch := (first | omega | (simp; done) | (simp; omega))) [go_sem, hbc1]; done)
        · (first | omega | (simp; done) | (simp; omega))
        · (first | omega | (simp; done) | (simp; omega))
        · (first | omega | (simp; done) | (simp; omega))
        · (first | omega | (simp; done) | (simp; omega))
        · (first | omega | (simp; done) | (simp; omega))
    case rest =>
      obtain ⟨bg, Bg, dg, Cg, eg, log, hig, rfl, Og_5, Xg_5, iwg, ilg, ihg, ibg, icg, hCg⟩ := hcut
      clear HS
      obtain ⟨w5, hwc⟩ : ∃ x, x = wc := ⟨_, rfl⟩
      subst hwc
      have XC5 : Below w4.heap.size w4 w5 := Below.trans (show Below w4.heap.size w4 w4 from (by repeat (first | ((with_reducible refine Below.setc ?_ ?_ _); focus (first | omega | (simp; done) | (simp; omega))) | ((with_reducible refine Below.allocc ?_ ?_ _); focus (first | omega | (simp; done) | (simp; omega))) | (with_reducible refine Below.drew ?_) | (with_reducible refine Below.drewn ?_) | (with_reducible assumption) | (with_reducible exact Below.refl _ _) | ((with_reducible refine Below.stepp (by with_reducible assumption) ?_ ?_); focus (first | omega | (simp; done) | (simp; omega)))))) (hCg.mono (by first | exact Nat.le_refl _ | (simp; done) | (simp; omega)))
      have W5_ : Below w.heap.size w w5 := W4_.trans (XC5.mono W4_.size)
      have zs_5 := XC5.size
      have A0_5 := A0_4.below XC5
      clear A0_4
      have Xw_5 := Xw_4.below XC5
      clear Xw_4
      have Ow_5 := Ow_4.below XC5
      clear Ow_4
      have O0_5 := O0_4.below XC5
      clear O0_4
      have X0_5 := X0_4.below XC5
      clear X0_4
      have O1_5 := O1_4.below XC5
      clear O1_4
      clear XC5 hCg
      have Xg_c0 : w5.cell? ⟨bg, 0, none⟩ = some (.slice Bg (runSnapM p0 p1 p2).cells.length dg) := Xg_5 0 _ rfl
      have Xg_c1 : w5.cell? ⟨bg, 1, none⟩ = some (.slice Cg (runSnapM p0 p1 p2).roots.length eg) := Xg_5 1 _ rfl
      have Xw_c0 : w5.cell? ⟨bw, 0, none⟩ = some (.slice Bw (runSnapM p0 p1 p2).cells.length dw) := Xw_5 0 _ rfl
      have Xw_c1 : w5.cell? ⟨bw, 1, none⟩ = some (.slice Cw (runSnapM p0 p1 p2).roots.length ew) := Xw_5 1 _ rfl
      have heq : eqB (runSnapM p0 p1 p2) (runSnapM p0 p1 p2) = true := eqB_of rfl
      go_wp2_with fail
      refine (eqHeap_any _ _ (runSnapM p0 p1 p2) (runSnapM p0 p1 p2) _ ((Og_5.below (by repeat (first | ((with_reducible refine Below.setc ?_ ?_ _); focus (first | omega | (simp; done) | (simp; omega))) | ((with_reducible refine Below.allocc ?_ ?_ _); focus (first | omega | (simp; done) | (simp; omega))) | (with_reducible refine Below.drew ?_) | (with_reducible refine Below.drewn ?_) | (with_reducible assumption) | (with_reducible exact Below.refl _ _) | ((with_reducible refine Below.stepp (by with_reducible assumption) ?_ ?_); focus (first | omega | (simp; done) | (simp; omega)))))).rd) ((Ow_5.below (by repeat (first | ((with_reducible refine Below.setc ?_ ?_ _); focus (first | omega | (simp; done) | (simp; omega))) | ((with_reducible refine Below.allocc ?_ ?_ _); focus (first | omega | (simp; done) | (simp; omega))) | (with_reducible refine Below.drew ?_) | (with_reducible refine Below.drewn ?_) | (with_reducible assumption) | (with_reducible exact Below.refl _ _) | ((with_reducible refine Below.stepp (by with_reducible assumption) ?_ ?_); focus (first | omega | (simp; done) | (simp; omega)))))).rd)).mono ?_
      rw [heq]
      rintro e w6 ⟨rfl, hB6⟩
      clear Xg_c0 Xg_c1
      clear Xw_c0 Xw_c1
      clear heq
      (have z_hB6 := Below.size hB6); (try simp only [World.size_alloc, World.size_setCell, World.size_drew, World.heap_drewN] at z_hB6)
      have X6 : Below w5.heap.size w5 w6 := (by repeat (first | ((with_reducible refine Below.setc ?_ ?_ _); focus (first | omega | (simp; done) | (simp; omega))) | ((with_reducible refine Below.allocc ?_ ?_ _); focus (first | omega | (simp; done) | (simp; omega))) | (with_reducible refine Below.drew ?_) | (with_reducible refine Below.drewn ?_) | (with_reducible assumption) | (with_reducible exact Below.refl _ _) | ((with_reducible refine Below.stepp (by with_reducible assumption) ?_ ?_); focus (first | omega | (simp; done) | (simp; omega)))))
      clear hB6
      have W6_ : Below w.heap.size w w6 := W5_.trans (X6.mono W5_.size)
      have zs_6 := X6.size
      have A0_6 := A0_5.below X6
      clear A0_5
      have Xw_6 := Xw_5.below X6
      clear Xw_5
      have Ow_6 := Ow_5.below X6
      clear Ow_5
      have O0_6 := O0_5.below X6
      clear O0_5
      have X0_6 := X0_5.below X6
      clear X0_5
      have O1_6 := O1_5.below X6
      clear O1_5
      have Xg_6 := Xg_5.below X6
      clear Xg_5
      have Og_6 := Og_5.below X6
      clear Og_5
      clear X6
      have heq : eqB p0 p0 = true := eqB_of rfl
      have HS : ∀ W, Below w6.heap.size w6 W → W.cell? ⟨w3.heap.size, 0, none⟩ = some (.slice BX0 p0.cells.length dX0) ∧ W.cell? ⟨w3.heap.size, 1, none⟩ = some (.slice CX0 p0.roots.length eX0) ∧ W.cell? ⟨w.heap.size, 0, none⟩ = some (.slice BA0 p0.cells.length dA0) ∧ W.cell? ⟨w.heap.size, 1, none⟩ = some (.slice CA0 p0.roots.length eA0) := fun W hW => ⟨cell_below (X0_6 0 _ rfl) hW, cell_below (X0_6 1 _ rfl) hW, cell_below (A0_6 0 _ rfl) hW, cell_below (A0_6 1 _ rfl) hW⟩
      go_upto_region 14 with fail
      go_region_held3 (fun w' => w'.cell? ⟨w3.heap.size, 0, none⟩ = some (.slice BX0 p0.cells.length dX0) ∧ w'.cell? ⟨w3.heap.size, 1, none⟩ = some (.slice CX0 p0.roots.length eX0) ∧ w'.cell? ⟨w.heap.size, 0, none⟩ = some (.slice BA0 p0.cells.length dA0) ∧ w'.cell? ⟨w.heap.size, 1, none⟩ = some (.slice CA0 p0.roots.length eA0))
        (first | exact HS _ (by repeat (first | ((with_reducible refine Below.setc ?_ ?_ _); focus (first | omega | (simp; done) | (simp; omega))) | ((with_reducible refine Below.allocc ?_ ?_ _); focus (first | omega | (simp; done) | (simp; omega))) | (with_reducible refine Below.drew ?_) | (with_reducible refine Below.drewn ?_) | (with_reducible assumption) | (with_reducible exact Below.refl _ _) | ((with_reducible refine Below.stepp (by with_reducible assumption) ?_ ?_); focus (first | omega | (simp; done) | (simp; omega))))))
        (first | (go_at_call 17; (with_reducible refine (toHeap_any _ p0 _ (hv0.below (W6_.trans (Below.mono (show Below w6.heap.size w6 _ from (by repeat (first | ((with_reducible refine Below.setc ?_ ?_ _); focus (first | omega | (simp; done) | (simp; omega))) | ((with_reducible refine Below.allocc ?_ ?_ _); focus (first | omega | (simp; done) | (simp; omega))) | (with_reducible refine Below.drew ?_) | (with_reducible refine Below.drewn ?_) | (with_reducible assumption) | (with_reducible exact Below.refl _ _) | ((with_reducible refine Below.stepp (by with_reducible assumption) ?_ ?_); focus (first | omega | (simp; done) | (simp; omega)))))) W6_.size))) s0.cells s0.refs s0.roots).mono ?_); rintro e y1 ⟨z0, rfl, o0, hY1⟩; (have z_hY1 := Below.size hY1); (try simp only [World.size_alloc, World.size_setCell, World.size_drew, World.heap_drewN] at z_hY1); have XY1 : Below w6.heap.size w6 y1 := (by repeat (first | ((with_reducible refine Below.setc ?_ ?_ _); focus (first | omega | (simp; done) | (simp; omega))) | ((with_reducible refine Below.allocc ?_ ?_ _); focus (first | omega | (simp; done) | (simp; omega))) | (with_reducible refine Below.drew ?_) | (with_reducible refine Below.drewn ?_) | (with_reducible assumption) | (with_reducible exact Below.refl _ _) | ((with_reducible refine Below.stepp (by with_reducible assumption) ?_ ?_); focus (first | omega | (simp; done) | (simp; omega)))))) | (go_at_call 20; (with_reducible refine (eqHeap_any _ _ p0 p0 _ ((O0_6.below (by repeat (first | ((with_reducible refine Below.setc ?_ ?_ _); focus (first | omega | (simp; done) | (simp; omega))) | ((with_reducible refine Below.allocc ?_ ?_ _); focus (first | omega | (simp; done) | (simp; omega))) | (with_reducible refine Below.drew ?_) | (with_reducible refine Below.drewn ?_) | (with_reducible assumption) | (with_reducible exact Below.refl _ _) | ((with_reducible refine Below.stepp (by with_reducible assumption) ?_ ?_); focus (first | omega | (simp; done) | (simp; omega)))))).rd) (o0.rh.below (by repeat (first | ((with_reducible refine Below.setc ?_ ?_ _); focus (first | omega | (simp; done) | (simp; omega))) | ((with_reducible refine Below.allocc ?_ ?_ _); focus (first | omega | (simp; done) | (simp; omega))) | (with_reducible refine Below.drew ?_) | (with_reducible refine Below.drewn ?_) | (with_reducible assumption) | (with_reducible exact Below.refl _ _) | ((with_reducible refine Below.stepp (by with_reducible assumption) ?_ ?_); focus (first | omega | (simp; done) | (simp; omega))))))).mono ?_); rw [heq]; rintro e w7 ⟨rfl, hB7⟩))
      clear HS heq
      (have z_hB7 := Below.size hB7); (try simp only [World.size_alloc, World.size_setCell, World.size_drew, World.heap_drewN] at z_hB7)
      have X7 : Below w6.heap.size w6 w7 := (by repeat (first | ((with_reducible refine Below.setc ?_ ?_ _); focus (first | omega | (simp; done) | (simp; omega))) | ((with_reducible refine Below.allocc ?_ ?_ _); focus (first | omega | (simp; done) | (simp; omega))) | (with_reducible refine Below.drew ?_) | (with_reducible refine Below.drewn ?_) | (with_reducible assumption) | (with_reducible exact Below.refl _ _) | ((with_reducible refine Below.stepp (by with_reducible assumption) ?_ ?_); focus (first | omega | (simp; done) | (simp; omega)))))
      clear hB7
      have W7_ : Below w.heap.size w w7 := W6_.trans (X7.mono W6_.size)
      have zs_7 := X7.size
      have A0_7 := A0_6.below X7
      clear A0_6
      have Xw_7 := Xw_6.below X7
      clear Xw_6
      have Ow_7 := Ow_6.below X7
      clear Ow_6
      have O0_7 := O0_6.below X7
      clear O0_6
      have X0_7 := X0_6.below X7
      clear X0_6
      have O1_7 := O1_6.below X7
      clear O1_6
      have Xg_7 := Xg_6.below X7
      clear Xg_6
      have Og_7 := Og_6.below X7
      clear Og_6
      clear X7
      go_wp2_with fail
      refine (toCommandS_any _ p1 _ _ (hv1.below (W7_.trans (Below.mono (show Below w7.heap.size w7 _ from (by repeat (first | ((with_reducible refine Below.setc ?_ ?_ _); focus (first | omega | (simp; done) | (simp; omega))) | ((with_reducible refine Below.allocc ?_ ?_ _); focus (first | omega | (simp; done) | (simp; omega))) | (with_reducible refine Below.drew ?_) | (with_reducible refine Below.drewn ?_) | (with_reducible assumption) | (with_reducible exact Below.refl _ _) | ((with_reducible refine Below.stepp (by with_reducible assumption) ?_ ?_); focus (first | omega | (simp; done) | (simp; omega)))))) W7_.size))) s1).mono ?_
      rintro e w8 ⟨gq, rfl, -, -, oq, hB8⟩
      (have z_hB8 := Below.size hB8); (try simp only [World.size_alloc, World.size_setCell, World.size_drew, World.heap_drewN] at z_hB8)
      have X8 : Below w7.heap.size w7 w8 := (by repeat (first | ((with_reducible refine Below.setc ?_ ?_ _); focus (first | omega | (simp; done) | (simp; omega))) | ((with_reducible refine Below.allocc ?_ ?_ _); focus (first | omega | (simp; done) | (simp; omega))) | (with_reducible refine Below.drew ?_) | (with_reducible refine Below.drewn ?_) | (with_reducible assumption) | (with_reducible exact Below.refl _ _) | ((with_reducible refine Below.stepp (by with_reducible assumption) ?_ ?_); focus (first | omega | (simp; done) | (simp; omega)))))
      clear hB8
      have W8_ : Below w.heap.size w w8 := W7_.trans (X8.mono W7_.size)
      have zs_8 := X8.size
      have A0_8 := A0_7.below X8
      clear A0_7
      have Xw_8 := Xw_7.below X8
      clear Xw_7
      have Ow_8 := Ow_7.below X8
      clear Ow_7
      have O0_8 := O0_7.below X8
      clear O0_7
      have X0_8 := X0_7.below X8
      clear X0_7
      have O1_8 := O1_7.below X8
      clear O1_7
      have Xg_8 := Xg_7.below X8
      clear Xg_7
      have Og_8 := Og_7.below X8
      clear Og_7
      clear X8
      have heq : eqB p1 p1 = true := eqB_of rfl
      go_wp2_with fail
      refine (eqCommandS_any _ _ p1 p1 _ _ _ ((O1_8.below (by repeat (first | ((with_reducible refine Below.setc ?_ ?_ _); focus (first | omega | (simp; done) | (simp; omega))) | ((with_reducible refine Below.allocc ?_ ?_ _); focus (first | omega | (simp; done) | (simp; omega))) | (with_reducible refine Below.drew ?_) | (with_reducible refine Below.drewn ?_) | (with_reducible assumption) | (with_reducible exact Below.refl _ _) | ((with_reducible refine Below.stepp (by with_reducible assumption) ?_ ?_); focus (first | omega | (simp; done) | (simp; omega)))))).ro) ((oq.below (by repeat (first | ((with_reducible refine Below.setc ?_ ?_ _); focus (first | omega | (simp; done) | (simp; omega))) | ((with_reducible refine Below.allocc ?_ ?_ _); focus (first | omega | (simp; done) | (simp; omega))) | (with_reducible refine Below.drew ?_) | (with_reducible refine Below.drewn ?_) | (with_reducible assumption) | (with_reducible exact Below.refl _ _) | ((with_reducible refine Below.stepp (by with_reducible assumption) ?_ ?_); focus (first | omega | (simp; done) | (simp; omega)))))).ro) (by omega) (by omega)).mono ?_
      rw [heq]
      rintro e w9 ⟨rfl, hB9⟩
      clear heq oq
      (have z_hB9 := Below.size hB9); (try simp only [World.size_alloc, World.size_setCell, World.size_drew, World.heap_drewN] at z_hB9)
      have X9 : Below w8.heap.size w8 w9 := (by repeat (first | ((with_reducible refine Below.setc ?_ ?_ _); focus (first | omega | (simp; done) | (simp; omega))) | ((with_reducible refine Below.allocc ?_ ?_ _); focus (first | omega | (simp; done) | (simp; omega))) | (with_reducible refine Below.drew ?_) | (with_reducible refine Below.drewn ?_) | (with_reducible assumption) | (with_reducible exact Below.refl _ _) | ((with_reducible refine Below.stepp (by with_reducible assumption) ?_ ?_); focus (first | omega | (simp; done) | (simp; omega)))))
      clear hB9
      have W9_ : Below w.heap.size w w9 := W8_.trans (X9.mono W8_.size)
      have zs_9 := X9.size
      have A0_9 := A0_8.below X9
      clear A0_8
      have Xw_9 := Xw_8.below X9
      clear Xw_8
      have Ow_9 := Ow_8.below X9
      clear Ow_8
      have O0_9 := O0_8.below X9
      clear O0_8
      have X0_9 := X0_8.below X9
      clear X0_8
      have O1_9 := O1_8.below X9
      clear O1_8
      have Xg_9 := Xg_8.below X9
      clear Xg_8
      have Og_9 := Og_8.below X9
      clear Og_8
      clear X9
      have hk_ : (0 : Int) ≤ 1 := by omega
      have X0_c0 : w9.cell? ⟨w3.heap.size, 0, none⟩ = some (.slice BX0 p0.cells.length dX0) := X0_9 0 _ rfl
      have X0_c1 : w9.cell? ⟨w3.heap.size, 1, none⟩ = some (.slice CX0 p0.roots.length eX0) := X0_9 1 _ rfl
      go_wp2_with fail
      refine (markHeap_law _ _ _ _ p0 _ (O0_9.below (by repeat (first | ((with_reducible refine Below.setc ?_ ?_ _); focus (first | omega | (simp; done) | (simp; omega))) | ((with_reducible refine Below.allocc ?_ ?_ _); focus (first | omega | (simp; done) | (simp; omega))) | (with_reducible refine Below.drew ?_) | (with_reducible refine Below.drewn ?_) | (with_reducible assumption) | (with_reducible exact Below.refl _ _) | ((with_reducible refine Below.stepp (by with_reducible assumption) ?_ ?_); focus (first | omega | (simp; done) | (simp; omega)))))) s0 (by omega) (by omega)).mono ?_
      rintro e w10 ⟨rfl, -, hS10⟩
      clear X0_c0 X0_c1
      clear X0_9
      clear O0_9
      have zs_10 : w9.heap.size ≤ w10.heap.size := (by have := hS10.size; first | exact this | simpa using this)
      have W10_ : Below w.heap.size w w10 := W9_.trans (hS10.below (by first | omega | (simp; done) | (simp; omega)) W9_.size)
      have A0_10 := A0_9.span hS10 (by first | omega | (simp; done) | (simp; omega))
      clear A0_9
      have Xw_10 := Xw_9.span hS10 (by first | omega | (simp; done) | (simp; omega))
      clear Xw_9
      have Ow_10 := Ow_9.span hS10 (by first | omega | (simp; done) | (simp; omega))
      clear Ow_9
      have O1_10 := O1_9.span hS10 (by first | omega | (simp; done) | (simp; omega))
      clear O1_9
      have Xg_10 := Xg_9.span hS10 (by first | omega | (simp; done) | (simp; omega))
      clear Xg_9
      have Og_10 := Og_9.span hS10 (by first | omega | (simp; done) | (simp; omega))
      clear Og_9
      clear hS10
      have hm0 := sizeH_bound s0
      have hk0 : (0 : Int) ≤ 1 + (sizeH p0 : Int) := by omega
      go_wp2_with fail
      refine (markCommandS_law _ p1 _ _ (O1_10.below (by repeat (first | ((with_reducible refine Below.setc ?_ ?_ _); focus (first | omega | (simp; done) | (simp; omega))) | ((with_reducible refine Below.allocc ?_ ?_ _); focus (first | omega | (simp; done) | (simp; omega))) | (with_reducible refine Below.drew ?_) | (with_reducible refine Below.drewn ?_) | (with_reducible assumption) | (with_reducible exact Below.refl _ _) | ((with_reducible refine Below.stepp (by with_reducible assumption) ?_ ?_); focus (first | omega | (simp; done) | (simp; omega)))))) s1 (by omega) (by omega)).mono ?_
      rintro e w11 ⟨rfl, hS11⟩
      clear O1_10
      have zs_11 : w10.heap.size ≤ w11.heap.size := (by have := hS11.size; first | exact this | simpa using this)
      have W11_ : Below w.heap.size w w11 := W10_.trans (hS11.below (by first | omega | (simp; done) | (simp; omega)) W10_.size)
      have A0_11 := A0_10.span hS11 (by first | omega | (simp; done) | (simp; omega))
      clear A0_10
      have Xw_11 := Xw_10.span hS11 (by first | omega | (simp; done) | (simp; omega))
      clear Xw_10
      have Ow_11 := Ow_10.span hS11 (by first | omega | (simp; done) | (simp; omega))
      clear Ow_10
      have Xg_11 := Xg_10.span hS11 (by first | omega | (simp; done) | (simp; omega))
      clear Xg_10
      have Og_11 := Og_10.span hS11 (by first | omega | (simp; done) | (simp; omega))
      clear Og_10
      clear hS11
      have hk1 : (0 : Int) ≤ 1 + (sizeH p0 : Int) + 4 * (p1.length : Int) := by omega
      have Xg_c0 : w11.cell? ⟨bg, 0, none⟩ = some (.slice Bg (runSnapM p0 p1 p2).cells.length dg) := Xg_11 0 _ rfl
      have Xg_c1 : w11.cell? ⟨bg, 1, none⟩ = some (.slice Cg (runSnapM p0 p1 p2).roots.length eg) := Xg_11 1 _ rfl
      have Xw_c0 : w11.cell? ⟨bw, 0, none⟩ = some (.slice Bw (runSnapM p0 p1 p2).cells.length dw) := Xw_11 0 _ rfl
      have Xw_c1 : w11.cell? ⟨bw, 1, none⟩ = some (.slice Cw (runSnapM p0 p1 p2).roots.length ew) := Xw_11 1 _ rfl
      have heq : eqB (runSnapM p0 p1 p2) (runSnapM p0 p1 p2) = true := eqB_of rfl
      go_wp2_with fail
      refine (eqHeap_any _ _ (runSnapM p0 p1 p2) (runSnapM p0 p1 p2) _ ((Og_11.below (by repeat (first | ((with_reducible refine Below.setc ?_ ?_ _); focus (first | omega | (simp; done) | (simp; omega))) | ((with_reducible refine Below.allocc ?_ ?_ _); focus (first | omega | (simp; done) | (simp; omega))) | (with_reducible refine Below.drew ?_) | (with_reducible refine Below.drewn ?_) | (with_reducible assumption) | (with_reducible exact Below.refl _ _) | ((with_reducible refine Below.stepp (by with_reducible assumption) ?_ ?_); focus (first | omega | (simp; done) | (simp; omega)))))).rd) ((Ow_11.below (by repeat (first | ((with_reducible refine Below.setc ?_ ?_ _); focus (first | omega | (simp; done) | (simp; omega))) | ((with_reducible refine Below.allocc ?_ ?_ _); focus (first | omega | (simp; done) | (simp; omega))) | (with_reducible refine Below.drew ?_) | (with_reducible refine Below.drewn ?_) | (with_reducible assumption) | (with_reducible exact Below.refl _ _) | ((with_reducible refine Below.stepp (by with_reducible assumption) ?_ ?_); focus (first | omega | (simp; done) | (simp; omega)))))).rd)).mono ?_
      rw [heq]
      rintro e w12 ⟨rfl, hB12⟩
      clear Xg_c0 Xg_c1
      clear Xw_c0 Xw_c1
      clear heq
      (have z_hB12 := Below.size hB12); (try simp only [World.size_alloc, World.size_setCell, World.size_drew, World.heap_drewN] at z_hB12)
      have X12 : Below w11.heap.size w11 w12 := (by repeat (first | ((with_reducible refine Below.setc ?_ ?_ _); focus (first | omega | (simp; done) | (simp; omega))) | ((with_reducible refine Below.allocc ?_ ?_ _); focus (first | omega | (simp; done) | (simp; omega))) | (with_reducible refine Below.drew ?_) | (with_reducible refine Below.drewn ?_) | (with_reducible assumption) | (with_reducible exact Below.refl _ _) | ((with_reducible refine Below.stepp (by with_reducible assumption) ?_ ?_); focus (first | omega | (simp; done) | (simp; omega)))))
      clear hB12
      have W12_ : Below w.heap.size w w12 := W11_.trans (X12.mono W11_.size)
      have zs_12 := X12.size
      have A0_12 := A0_11.below X12
      clear A0_11
      have Xw_12 := Xw_11.below X12
      clear Xw_11
      have Ow_12 := Ow_11.below X12
      clear Ow_11
      have Xg_12 := Xg_11.below X12
      clear Xg_11
      have Og_12 := Og_11.below X12
      clear Og_11
      clear X12
      have Xg_c0 : w12.cell? ⟨bg, 0, none⟩ = some (.slice Bg (runSnapM p0 p1 p2).cells.length dg) := Xg_12 0 _ rfl
      have Xg_c1 : w12.cell? ⟨bg, 1, none⟩ = some (.slice Cg (runSnapM p0 p1 p2).roots.length eg) := Xg_12 1 _ rfl
      go_wp2_with fail
      have hm := HSR.out
      refine (markHeap_law _ _ _ _ (runSnapM p0 p1 p2) _ (Og_12.below (by repeat (first | ((with_reducible refine Below.setc ?_ ?_ _); focus (first | omega | (simp; done) | (simp; omega))) | ((with_reducible refine Below.allocc ?_ ?_ _); focus (first | omega | (simp; done) | (simp; omega))) | (with_reducible refine Below.drew ?_) | (with_reducible refine Below.drewn ?_) | (with_reducible assumption) | (with_reducible exact Below.refl _ _) | ((with_reducible refine Below.stepp (by with_reducible assumption) ?_ ?_); focus (first | omega | (simp; done) | (simp; omega)))))) hm (by omega) (by omega)).mono ?_
      rintro e w13 ⟨rfl, Q_, hS13⟩
      clear Xg_c0 Xg_c1
      clear Og_12
      have zs_13 : w12.heap.size ≤ w13.heap.size := (by have := hS13.size; first | exact this | simpa using this)
      have W13_ : Below w.heap.size w w13 := W12_.trans (hS13.below (by first | omega | (simp; done) | (simp; omega)) W12_.size)
      have A0_13 := A0_12.span hS13 (by first | omega | (simp; done) | (simp; omega))
      clear A0_12
      have Xw_13 := Xw_12.span hS13 (by first | omega | (simp; done) | (simp; omega))
      clear Xw_12
      have Ow_13 := Ow_12.span hS13 (by first | omega | (simp; done) | (simp; omega))
      clear Ow_12
      have Xg_13 := Xg_12.span hS13 (by first | omega | (simp; done) | (simp; omega))
      clear Xg_12
      clear hS13
      have Q_13 := Q_
      clear Q_
      have hkm : (0 : Int) ≤ 1 + (sizeH (runSnapM p0 p1 p2) : Int) := by omega
      have Xg_c0 : w13.cell? ⟨bg, 0, none⟩ = some (.slice Bg (runSnapM p0 p1 p2).cells.length dg) := Xg_13 0 _ rfl
      have Xg_c1 : w13.cell? ⟨bg, 1, none⟩ = some (.slice Cg (runSnapM p0 p1 p2).roots.length eg) := Xg_13 1 _ rfl
      go_wp2_with fail
      refine (heldHeap_any _ (runSnapM p0 p1 p2) _ _ (Q_13.below (by repeat (first | ((with_reducible refine Below.setc ?_ ?_ _); focus (first | omega | (simp; done) | (simp; omega))) | ((with_reducible refine Below.allocc ?_ ?_ _); focus (first | omega | (simp; done) | (simp; omega))) | (with_reducible refine Below.drew ?_) | (with_reducible refine Below.drewn ?_) | (with_reducible assumption) | (with_reducible exact Below.refl _ _) | ((with_reducible refine Below.stepp (by with_reducible assumption) ?_ ?_); focus (first | omega | (simp; done) | (simp; omega)))))) HSR.out (by omega) (by omega)).mono ?_
      rintro e w14 ⟨rfl, hB14⟩
      clear Xg_c0 Xg_c1
      (have z_hB14 := Below.size hB14); (try simp only [World.size_alloc, World.size_setCell, World.size_drew, World.heap_drewN] at z_hB14)
      have X14 : Below w13.heap.size w13 w14 := (by repeat (first | ((with_reducible refine Below.setc ?_ ?_ _); focus (first | omega | (simp; done) | (simp; omega))) | ((with_reducible refine Below.allocc ?_ ?_ _); focus (first | omega | (simp; done) | (simp; omega))) | (with_reducible refine Below.drew ?_) | (with_reducible refine Below.drewn ?_) | (with_reducible assumption) | (with_reducible exact Below.refl _ _) | ((with_reducible refine Below.stepp (by with_reducible assumption) ?_ ?_); focus (first | omega | (simp; done) | (simp; omega)))))
      clear hB14
      have W14_ : Below w.heap.size w w14 := W13_.trans (X14.mono W13_.size)
      have zs_14 := X14.size
      have A0_14 := A0_13.below X14
      clear A0_13
      have Xw_14 := Xw_13.below X14
      clear Xw_13
      have Ow_14 := Ow_13.below X14
      clear Ow_13
      have Xg_14 := Xg_13.below X14
      clear Xg_13
      have Q_14 := Q_13.below X14
      clear Q_13
      clear X14
      go_upto_region 31 with fail
      have HS : ∀ W, Below w14.heap.size w14 W → W.cell? ⟨w.heap.size, 0, none⟩ = some (.slice BA0 p0.cells.length dA0) ∧ W.cell? ⟨w.heap.size, 1, none⟩ = some (.slice CA0 p0.roots.length eA0) := fun W hW => ⟨cell_below (A0_14 0 _ rfl) (Below.trans (show Below w14.heap.size w14 w14 from (by repeat (first | ((with_reducible refine Below.setc ?_ ?_ _); focus (first | omega | (simp; done) | (simp; omega))) | ((with_reducible refine Below.allocc ?_ ?_ _); focus (first | omega | (simp; done) | (simp; omega))) | (with_reducible refine Below.drew ?_) | (with_reducible refine Below.drewn ?_) | (with_reducible assumption) | (with_reducible exact Below.refl _ _) | ((with_reducible refine Below.stepp (by with_reducible assumption) ?_ ?_); focus (first | omega | (simp; done) | (simp; omega)))))) (hW.mono (by first | exact Nat.le_refl _ | (simp; done) | (simp; omega)))), cell_below (A0_14 1 _ rfl) (Below.trans (show Below w14.heap.size w14 w14 from (by repeat (first | ((with_reducible refine Below.setc ?_ ?_ _); focus (first | omega | (simp; done) | (simp; omega))) | ((with_reducible refine Below.allocc ?_ ?_ _); focus (first | omega | (simp; done) | (simp; omega))) | (with_reducible refine Below.drew ?_) | (with_reducible refine Below.drewn ?_) | (with_reducible assumption) | (with_reducible exact Below.refl _ _) | ((with_reducible refine Below.stepp (by with_reducible assumption) ?_ ?_); focus (first | omega | (simp; done) | (simp; omega)))))) (hW.mono (by first | exact Nat.le_refl _ | (simp; done) | (simp; omega))))⟩
      go_cut [15] (fun s_r wx => ∃ (bh : Nat) (Bh : Option Addr) (dh : Nat) (Ch : Option Addr) (eh : Nat) (lo_ hi_ : Nat), s_r = .pointer (some ⟨bh, 0, none⟩) ∧ OHB lo_ hi_ wx (.agg #[.slice Bh (runSnapM p0 p1 p2).cells.length dh, .slice Ch (runSnapM p0 p1 p2).roots.length eh]) (runSnapM p0 p1 p2) ∧ Box wx bh [.slice Bh (runSnapM p0 p1 p2).cells.length dh, .slice Ch (runSnapM p0 p1 p2).roots.length eh] ∧ (bh < lo_ ∨ hi_ ≤ bh) ∧ w14.heap.size ≤ lo_ ∧ hi_ ≤ wx.heap.size ∧ w14.heap.size ≤ bh ∧ bh < wx.heap.size ∧ Below w14.heap.size w14 wx)
      case first =>
        have A0_c0 : w14.cell? ⟨w.heap.size, 0, none⟩ = some (.slice BA0 p0.cells.length dA0) := A0_14 0 _ rfl
        have A0_c1 : w14.cell? ⟨w.heap.size, 1, none⟩ = some (.slice CA0 p0.roots.length eA0) := A0_14 1 _ rfl
        go_wp2_with (first | (go_at_call 17; (with_reducible refine (toHeap_any _ p0 _ (hv0.below (W14_.trans (Below.mono (show Below w14.heap.size w14 _ from (by repeat (first | ((with_reducible refine Below.setc ?_ ?_ _); focus (first | omega | (simp; done) | (simp; omega))) | ((with_reducible refine Below.allocc ?_ ?_ _); focus (first | omega | (simp; done) | (simp; omega))) | (with_reducible refine Below.drew ?_) | (with_reducible refine Below.drewn ?_) | (with_reducible assumption) | (with_reducible exact Below.refl _ _) | ((with_reducible refine Below.stepp (by with_reducible assumption) ?_ ?_); focus (first | omega | (simp; done) | (simp; omega)))))) W14_.size))) s0.cells s0.refs s0.roots).mono ?_); rintro e y1 ⟨z0, rfl, o0, hY1⟩; obtain ⟨By0, dy0, Cy0, ey0, rfl, -⟩ := o0.rh; have ob0 := o0.toB; (have z_hY1 := Below.size hY1); (try simp only [World.size_alloc, World.size_setCell, World.size_drew, World.heap_drewN] at z_hY1); obtain ⟨hbc1, hbf1, -⟩ := bcell hY1; (first | (have zl1 : w14.heap.size < y1.heap.size := Nat.lt_of_lt_of_le (Nat.lt_succ_self _) z_hY1) | skip)) | (go_at_call 43; (with_reducible refine (toCommandS_any _ p1 _ _ (hv1.below (W14_.trans (Below.mono (show Below w14.heap.size w14 _ from (by repeat (first | ((with_reducible refine Below.setc ?_ ?_ _); focus (first | omega | (simp; done) | (simp; omega))) | ((with_reducible refine Below.allocc ?_ ?_ _); focus (first | omega | (simp; done) | (simp; omega))) | (with_reducible refine Below.drew ?_) | (with_reducible refine Below.drewn ?_) | (with_reducible assumption) | (with_reducible exact Below.refl _ _) | ((with_reducible refine Below.stepp (by with_reducible assumption) ?_ ?_); focus (first | omega | (simp; done) | (simp; omega)))))) W14_.size))) s1).mono ?_); rintro e y2 ⟨gL1, rfl, -, -, oL1, hY2⟩; (have z_hY2 := Below.size hY2); (try simp only [World.size_alloc, World.size_setCell, World.size_drew, World.heap_drewN] at z_hY2); obtain ⟨hbc2, hbf2, -⟩ := bcell hY2; (first | (have zl2 : y1.heap.size < y2.heap.size := Nat.lt_of_lt_of_le (Nat.lt_succ_self _) z_hY2) | skip); (first | (have zl1_2 := Nat.lt_of_lt_of_le zl1 z_hY2) | skip)) | (go_at_call 44; (with_reducible refine (implRunSnap_any _ p0 _ p1 _ p2 _ ((ob0.below (by repeat (first | ((with_reducible refine Below.setc ?_ ?_ _); focus (first | omega | (simp; done) | (simp; omega))) | ((with_reducible refine Below.allocc ?_ ?_ _); focus (first | omega | (simp; done) | (simp; omega))) | (with_reducible refine Below.drew ?_) | (with_reducible refine Below.drewn ?_) | (with_reducible assumption) | (with_reducible exact Below.refl _ _) | ((with_reducible refine Below.stepp (by with_reducible assumption) ?_ ?_); focus (first | omega | (simp; done) | (simp; omega)))))).rd) ((oL1.below (by repeat (first | ((with_reducible refine Below.setc ?_ ?_ _); focus (first | omega | (simp; done) | (simp; omega))) | ((with_reducible refine Below.allocc ?_ ?_ _); focus (first | omega | (simp; done) | (simp; omega))) | (with_reducible refine Below.drew ?_) | (with_reducible refine Below.drewn ?_) | (with_reducible assumption) | (with_reducible exact Below.refl _ _) | ((with_reducible refine Below.stepp (by with_reducible assumption) ?_ ?_); focus (first | omega | (simp; done) | (simp; omega)))))).ro) (by omega)).mono ?_); rintro e y3 ⟨zF, rfl, oF, hY3⟩; obtain ob_ := oF.toB; obtain ⟨Bh, dh, Ch, eh, osh, rfl, ownh⟩ := oF; (have z_hY3 := Below.size hY3); (try simp only [World.size_alloc, World.size_setCell, World.size_drew, World.heap_drewN] at z_hY3); obtain ⟨hbc3, hbf3, -⟩ := bcell hY3; (first | (have zl3 : y2.heap.size < y3.heap.size := Nat.lt_of_lt_of_le (Nat.lt_succ_self _) z_hY3) | skip); (first | (have zl1_3 := Nat.lt_of_lt_of_le zl1 z_hY3) | skip); (first | (have zl1_3 := Nat.lt_of_lt_of_le zl1_2 z_hY3) | skip); (first | (have zl2_3 := Nat.lt_of_lt_of_le zl2 z_hY3) | skip)))
        all_goals
          (try simp only [World.size_alloc, World.size_setCell, World.size_drew, World.heap_drewN, heap_drew_] at ownh)
          go_wp2_with fail
          go_meet
          refine ⟨_, Bh, dh, Ch, eh, _, _, rfl, ob_.keep (fun g h1 h2 hg => ?_), Box.of2 ?_ ?_, ?_, ?_, ?_, ?_, ?_, (by repeat (first | ((with_reducible refine Below.setc ?_ ?_ _); focus (first | omega | (simp; done) | (simp; omega))) | ((with_reducible refine Below.allocc ?_ ?_ _); focus (first | omega | (simp; done) | (simp; omega))) | (with_reducible refine Below.drew ?_) | (with_reducible refine Below.drewn ?_) | (with_reducible assumption) | (with_reducible exact Below.refl _ _) | ((with_reducible refine Below.stepp (by with_reducible assumption) ?_ ?_); focus (first | omega | (simp; done) | (simp; omega)))))⟩
          · (try simp only [World.size_alloc, World.size_setCell, World.size_drew, World.heap_drewN, heap_drew_] at h1)
            (repeat (first | rw [heap_drew_] | rw [heap_setCell_ne _ _ _ (by first | omega | (simp; done) | (simp; omega))] | rw [Below.heap_alloc _ _ _ (by first | omega | (simp; done) | (simp; omega))]))
          · first | (simp [go_sem]; done) | (simp (disch := (first | omega | (simp; done) | (simp; omega))) [go_sem, hbc1, hbc2, hbc3]; done)
          · first | (simp [go_sem]; done) | (simp (disch := (first | omega | (simp; done) | (simp; omega))) [go_sem, hbc1, hbc2, hbc3]; done)
          · (first | omega | (simp; done) | (simp; omega))
          · (first | omega | (simp; done) | (simp; omega))
          · (first | omega | (simp; done) | (simp; omega))
          · (first | omega | (simp; done) | (simp; omega))
          · (first | omega | (simp; done) | (simp; omega))
      case rest =>
        obtain ⟨bh, Bh, dh, Ch, eh, loh, hih, rfl, Oh_15, Xh_15, iwh, ilh, ihh, ibh, ich, hCh⟩ := hcut
        clear HS
        obtain ⟨w15, hwc⟩ : ∃ x, x = wc := ⟨_, rfl⟩
        subst hwc
        have XC15 : Below w14.heap.size w14 w15 := Below.trans (show Below w14.heap.size w14 w14 from (by repeat (first | ((with_reducible refine Below.setc ?_ ?_ _); focus (first | omega | (simp; done) | (simp; omega))) | ((with_reducible refine Below.allocc ?_ ?_ _); focus (first | omega | (simp; done) | (simp; omega))) | (with_reducible refine Below.drew ?_) | (with_reducible refine Below.drewn ?_) | (with_reducible assumption) | (with_reducible exact Below.refl _ _) | ((with_reducible refine Below.stepp (by with_reducible assumption) ?_ ?_); focus (first | omega | (simp; done) | (simp; omega)))))) (hCh.mono (by first | exact Nat.le_refl _ | (simp; done) | (simp; omega)))
        have W15_ : Below w.heap.size w w15 := W14_.trans (XC15.mono W14_.size)
        have zs_15 := XC15.size
        have A0_15 := A0_14.below XC15
        clear A0_14
        have Xw_15 := Xw_14.below XC15
        clear Xw_14
        have Ow_15 := Ow_14.below XC15
        clear Ow_14
        have Xg_15 := Xg_14.below XC15
        clear Xg_14
        have Q_15 := Q_14.below XC15
        clear Q_14
        clear XC15 hCh
        have Xh_c0 : w15.cell? ⟨bh, 0, none⟩ = some (.slice Bh (runSnapM p0 p1 p2).cells.length dh) := Xh_15 0 _ rfl
        have Xh_c1 : w15.cell? ⟨bh, 1, none⟩ = some (.slice Ch (runSnapM p0 p1 p2).roots.length eh) := Xh_15 1 _ rfl
        have Xw_c0 : w15.cell? ⟨bw, 0, none⟩ = some (.slice Bw (runSnapM p0 p1 p2).cells.length dw) := Xw_15 0 _ rfl
        have Xw_c1 : w15.cell? ⟨bw, 1, none⟩ = some (.slice Cw (runSnapM p0 p1 p2).roots.length ew) := Xw_15 1 _ rfl
        have heq : eqB (runSnapM p0 p1 p2) (runSnapM p0 p1 p2) = true := eqB_of rfl
        go_wp2_with fail
        refine (eqHeap_any _ _ (runSnapM p0 p1 p2) (runSnapM p0 p1 p2) _ ((Oh_15.below (by repeat (first | ((with_reducible refine Below.setc ?_ ?_ _); focus (first | omega | (simp; done) | (simp; omega))) | ((with_reducible refine Below.allocc ?_ ?_ _); focus (first | omega | (simp; done) | (simp; omega))) | (with_reducible refine Below.drew ?_) | (with_reducible refine Below.drewn ?_) | (with_reducible assumption) | (with_reducible exact Below.refl _ _) | ((with_reducible refine Below.stepp (by with_reducible assumption) ?_ ?_); focus (first | omega | (simp; done) | (simp; omega)))))).rd) ((Ow_15.below (by repeat (first | ((with_reducible refine Below.setc ?_ ?_ _); focus (first | omega | (simp; done) | (simp; omega))) | ((with_reducible refine Below.allocc ?_ ?_ _); focus (first | omega | (simp; done) | (simp; omega))) | (with_reducible refine Below.drew ?_) | (with_reducible refine Below.drewn ?_) | (with_reducible assumption) | (with_reducible exact Below.refl _ _) | ((with_reducible refine Below.stepp (by with_reducible assumption) ?_ ?_); focus (first | omega | (simp; done) | (simp; omega)))))).rd)).mono ?_
        rw [heq]
        rintro e w16 ⟨rfl, hB16⟩
        clear Xh_c0 Xh_c1
        clear Xw_c0 Xw_c1
        clear heq
        (have z_hB16 := Below.size hB16); (try simp only [World.size_alloc, World.size_setCell, World.size_drew, World.heap_drewN] at z_hB16)
        have X16 : Below w15.heap.size w15 w16 := (by repeat (first | ((with_reducible refine Below.setc ?_ ?_ _); focus (first | omega | (simp; done) | (simp; omega))) | ((with_reducible refine Below.allocc ?_ ?_ _); focus (first | omega | (simp; done) | (simp; omega))) | (with_reducible refine Below.drew ?_) | (with_reducible refine Below.drewn ?_) | (with_reducible assumption) | (with_reducible exact Below.refl _ _) | ((with_reducible refine Below.stepp (by with_reducible assumption) ?_ ?_); focus (first | omega | (simp; done) | (simp; omega)))))
        clear hB16
        have W16_ : Below w.heap.size w w16 := W15_.trans (X16.mono W15_.size)
        have zs_16 := X16.size
        have A0_16 := A0_15.below X16
        clear A0_15
        have Xw_16 := Xw_15.below X16
        clear Xw_15
        have Ow_16 := Ow_15.below X16
        clear Ow_15
        have Xg_16 := Xg_15.below X16
        clear Xg_15
        have Q_16 := Q_15.below X16
        clear Q_15
        have Xh_16 := Xh_15.below X16
        clear Xh_15
        have Oh_16 := Oh_15.below X16
        clear Oh_15
        clear X16
        have Xg_c0 : w16.cell? ⟨bg, 0, none⟩ = some (.slice Bg (runSnapM p0 p1 p2).cells.length dg) := Xg_16 0 _ rfl
        have Xg_c1 : w16.cell? ⟨bg, 1, none⟩ = some (.slice Cg (runSnapM p0 p1 p2).roots.length eg) := Xg_16 1 _ rfl
        go_wp2_with fail
        refine (heldHeap_any _ (runSnapM p0 p1 p2) _ _ (Q_16.below (by repeat (first | ((with_reducible refine Below.setc ?_ ?_ _); focus (first | omega | (simp; done) | (simp; omega))) | ((with_reducible refine Below.allocc ?_ ?_ _); focus (first | omega | (simp; done) | (simp; omega))) | (with_reducible refine Below.drew ?_) | (with_reducible refine Below.drewn ?_) | (with_reducible assumption) | (with_reducible exact Below.refl _ _) | ((with_reducible refine Below.stepp (by with_reducible assumption) ?_ ?_); focus (first | omega | (simp; done) | (simp; omega)))))) HSR.out (by omega) (by omega)).mono ?_
        rintro e w17 ⟨rfl, hB17⟩
        clear Xg_c0 Xg_c1
        (have z_hB17 := Below.size hB17); (try simp only [World.size_alloc, World.size_setCell, World.size_drew, World.heap_drewN] at z_hB17)
        have X17 : Below w16.heap.size w16 w17 := (by repeat (first | ((with_reducible refine Below.setc ?_ ?_ _); focus (first | omega | (simp; done) | (simp; omega))) | ((with_reducible refine Below.allocc ?_ ?_ _); focus (first | omega | (simp; done) | (simp; omega))) | (with_reducible refine Below.drew ?_) | (with_reducible refine Below.drewn ?_) | (with_reducible assumption) | (with_reducible exact Below.refl _ _) | ((with_reducible refine Below.stepp (by with_reducible assumption) ?_ ?_); focus (first | omega | (simp; done) | (simp; omega)))))
        clear hB17
        have W17_ : Below w.heap.size w w17 := W16_.trans (X17.mono W16_.size)
        have zs_17 := X17.size
        have A0_17 := A0_16.below X17
        clear A0_16
        have Xw_17 := Xw_16.below X17
        clear Xw_16
        have Ow_17 := Ow_16.below X17
        clear Ow_16
        have Xg_17 := Xg_16.below X17
        clear Xg_16
        have Q_17 := Q_16.below X17
        clear Q_16
        have Xh_17 := Xh_16.below X17
        clear Xh_16
        have Oh_17 := Oh_16.below X17
        clear Oh_16
        clear X17
        go_wp2
        go_ret
        exact ⟨rfl, W17_⟩
end Go.Proofs.Ytdkhpmlimnfgpaa
