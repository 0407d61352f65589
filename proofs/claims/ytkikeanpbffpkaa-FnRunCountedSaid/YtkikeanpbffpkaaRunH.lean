/- RunHeap of the program and of the reference. -/
import Derived.Test.YtkikeanpbffpkaaChecked
import Derived.Deep.DeepCutAuto
import Derived.Deep.RegionHeld3
import Derived.Test.YtkikeanpbffpkaaCmdsV
namespace Go.Proofs.Ytkikeanpbffpkaa
open Go.RowKit
set_option maxRecDepth 100000
set_option linter.unusedSimpArgs false
set_option linter.unusedVariables false
set_option maxHeartbeats 4000000 in
theorem implRunHeap_any (A : Option Addr) (l : List CmdM) (c : Nat) (w : World) (hv : RO w A l) (hl : l.length ≤ 9223372036854775807) :
    Calls Try.prog 19 #[.slice A l.length c] w fun e w' => ∃ v', e = .returned v' ∧ OH w.heap.size w' v' (runM l) ∧ Below w.heap.size w w' := by
  have n0 : ((w.alloc (.cells #[.slice none 0 0, .slice none 0 0] 26))).cell? ⟨w.heap.size, 0, none⟩ = some (.slice none 0 0) := by simp [go_sem]
  have n1 : ((w.alloc (.cells #[.slice none 0 0, .slice none 0 0] 26))).cell? ⟨w.heap.size, 1, none⟩ = some (.slice none 0 0) := by simp [go_sem]
  have nf : ∀ o, ((w.alloc (.cells #[.slice none 0 0, .slice none 0 0] 26))).frozen? ⟨w.heap.size, o, none⟩ = false := fun o => by simp [go_sem]
  have z1 : w.heap.size < ((w.alloc (.cells #[.slice none 0 0, .slice none 0 0] 26))).heap.size := by simp
  have HW : Hid (Below w.heap.size w ((w.alloc (.cells #[.slice none 0 0, .slice none 0 0] 26)))) := by unfold Hid; exact blw_
  cases hok : cmdsOk l
  · have HO := Lib.hid hok
    have HE : Hid (runM l = zeroH) := by unfold Hid runM; rw [hok]; rfl
    clear hok
    go_enter Try.func19, Try.ntmps19
    go_wp2_with fail
    refine (implCommandsValid_any A l c _ (hv.below blw_) hl).mono ?_
    rw [HO.out]
    rintro e w1 ⟨rfl, hB1⟩
    have Y1 : Below ((w.alloc (.cells #[.slice none 0 0, .slice none 0 0] 26))).heap.size ((w.alloc (.cells #[.slice none 0 0, .slice none 0 0] 26))) w1 := blw_
    have X1 : Below w.heap.size w w1 := HW.out.trans (Y1.mono HW.out.size)
    have r0 := cell_below n0 Y1
    have r1 := cell_below n1 Y1
    have rf0 := ((bcell Y1).2.1 _ _ z1).trans (nf 0)
    have rf1 := ((bcell Y1).2.1 _ _ z1).trans (nf 1)
    go_wp2_with fail
    refine bodyPost_ret (v := .agg #[.slice none 0 0, .slice none 0 0]) (by simp [results, Try.results19, go_sem, r0, r1]) rfl ⟨_, rfl, ?_, (X1.setCell (by simp) _).setCell (by simp) _⟩
    rw [HE.out]
    exact OH.zero
  · have HO := Lib.hid hok
    have HE : Hid (runM l = runFrom emptyM l) := by unfold Hid runM; rw [hok]; rfl
    clear hok
    go_enter Try.func19, Try.ntmps19
    go_wp2_with fail
    refine (implCommandsValid_any A l c _ (hv.below blw_) hl).mono ?_
    rw [HO.out]
    rintro e w1 ⟨rfl, hB1⟩
    have Y1 : Below ((w.alloc (.cells #[.slice none 0 0, .slice none 0 0] 26))).heap.size ((w.alloc (.cells #[.slice none 0 0, .slice none 0 0] 26))) w1 := blw_
    have X1 : Below w.heap.size w w1 := HW.out.trans (Y1.mono HW.out.size)
    have r0 := cell_below n0 Y1
    have r1 := cell_below n1 Y1
    have rf : ∀ o, w1.frozen? ⟨w.heap.size, o, none⟩ = false := fun o => ((bcell Y1).2.1 _ _ z1).trans (nf o)
    have zw1 : w.heap.size < w1.heap.size := World.block_lt_of_cell? w1 _ r0
    clear n0 n1 nf z1 hB1 Y1
    go_wp2_with fail
    refine (implEmptyHeap_any _).mono ?_
    rintro e w2 ⟨v2, rfl, ⟨B, d, B', d', os, rfl, hm, hO, hlo⟩, hB2⟩
    have Y2 : Below w1.heap.size w1 w2 := blw_
    have s0 := cell_below r0 Y2
    have s1 := cell_below r1 Y2
    have sf : ∀ o, w2.frozen? ⟨w.heap.size, o, none⟩ = false := fun o => ((bcell Y2).2.1 _ _ zw1).trans (rf o)
    have X2 : Below w.heap.size w w2 := X1.trans (Y2.mono X1.size)
    have zw2 : w.heap.size < w2.heap.size := World.block_lt_of_cell? w2 _ s0
    have hbl : ∀ b ∈ hblks B os B', w.heap.size < b ∧ b ≠ w2.heap.size := fun b hb => ⟨by have h7 := hlo b hb; (try simp only [World.size_alloc, World.size_setCell, World.size_drew, World.heap_drewN] at h7); omega, by have := hO.lt b hb; omega⟩
    clear r0 r1 rf hB2 Y2 X1 hlo
    go_wp2
    go_loopw [13] (fun i wr => ∃ (k : Nat) (hm : HeapM) (B B' : Option Addr) (d d' : Nat) (os : List OCell), k ≤ l.length ∧ i = .int .i64 k ∧ Hid (hm = runFrom emptyM (l.take k)) ∧ wr.cell? ⟨w2.heap.size, 0, none⟩ = some (.slice B hm.cells.length d) ∧ wr.cell? ⟨w2.heap.size, 1, none⟩ = some (.slice B' hm.roots.length d') ∧ (∀ o, wr.frozen? ⟨w2.heap.size, o, none⟩ = false) ∧ os.map (·.c) = hm.cells ∧ OHs wr B d B' d' os hm.roots ∧ (∀ b ∈ hblks B os B', w.heap.size < b ∧ b ≠ w2.heap.size) ∧ Below w2.heap.size w2 wr) (fun i _ => l.length - (intOf i).toNat)
    case atStart => exact ⟨0, emptyM, B, B', d, d', os, by omega, rfl, rfl, by simp [go_sem], by simp [go_sem], fun o => by simp [go_sem], hm, hO.below blw_, hbl, blw_⟩
    case round =>
      clear hm hO hbl
      obtain ⟨k, hm, B, B', d, d', os, hk, rfl, HR, q0, q1, qf, hmm, hO, hbl, hB⟩ := hrel
      have hzr := hB.size
      have zq : w2.heap.size < wr.heap.size := World.block_lt_of_cell? wr _ q0
      have Xr : Below w.heap.size w wr := X2.trans (hB.mono X2.size)
      have hrh := hO.rhs hmm
      have qf0 := qf 0
      have qf1 := qf 1
      by_cases hlt : k < l.length
      · obtain ⟨b, o, x, rfl, gx, c1, c2, c3, c4, hb⟩ := (hv.below Xr).at_ hlt
        have HN : Hid ((stepM hm x).1 = runFrom emptyM (l.take (k + 1))) := by unfold Hid; rw [runFrom_snoc gx, HR.out]
        clear gx HR
        have hlt' : (k : Int) < (l.length : Int) := by omega
        go_wp2_with fail
        refine (implStepHeap_any _ hm x _ ((hrh.below blw_).rh _ _)).mono ?_
        rintro e w4 ⟨v4, rfl, ⟨B4, d4, B4', d4', os4, rfl, hm4, hO4, hlo4⟩, hB4⟩
        (have z_hB4 := Below.size hB4); (try simp only [World.size_alloc, World.size_setCell, World.size_drew, World.heap_drewN] at z_hB4)
        have Y4 : Below wr.heap.size wr w4 := blw_
        all_goals
          have t0 := cell_below q0 Y4
          have t1 := cell_below q1 Y4
          have tf : ∀ o, w4.frozen? ⟨w2.heap.size, o, none⟩ = false := fun o => ((bcell Y4).2.1 _ _ zq).trans (qf o)
          have tf0 := tf 0
          have tf1 := tf 1
          have hlt4 := hO4.lt
          try simp only [World.size_alloc, World.size_setCell, World.size_drew, World.heap_drewN, heap_drew_] at hlo4
          have hz4 := Y4.size
          have hzz : w2.heap.size < w4.heap.size := by omega
          have hwn : wr.heap.size ≠ w2.heap.size := by omega
          have hwn' : w2.heap.size ≠ wr.heap.size := by omega
          have hwm : w4.heap.size ≠ w2.heap.size := by omega
          have hwm' : w2.heap.size ≠ w4.heap.size := by omega
          have YB : Hid (Below w2.heap.size w2 w4) := hB.trans (Y4.mono hzr)
          have T0 := Lib.hid t0
          have T1 := Lib.hid t1
          have TF := Lib.hid tf
          clear q0 q1 qf qf0 qf1 hB4 hB Xr hrh hO hmm c1 c2 c3 c4
          go_wp2
          go_roundw
          case rel =>
            refine ⟨k + 1, _, B4, B4', d4, d4', os4, by omega, by go_num, HN, by simp [go_sem, T0.out, hzz], by simp [go_sem, T1.out, hzz], fun o => by simp [go_sem, TF.out o, hzz], hm4, hO4.keep (fun b' hb' => by have h8 := hlo4 b' hb'; have h9 := hlt4 b' hb'; (repeat (first | rw [heap_setCell_ne _ _ _ (by first | omega | (simp; done) | (simp; omega))] | rw [Below.heap_alloc _ _ _ (by first | omega | (simp; done) | (simp; omega))]))), fun b' hb' => by have h8 := hlo4 b' hb'; constructor <;> omega, ?_⟩
            have YB' := YB.out
            exact blw_
          case measure => simp [intOf]; omega
      · have hke : k = l.length := by omega
        have hge : ¬ (k : Int) < (l.length : Int) := by omega
        have HM : Hid (hm = runM l) := by unfold Hid; rw [HE.out, HR.out, hke, List.take_length]
        clear HR
        have t0 := (hB.cell (p := ⟨w.heap.size, 0, none⟩) zw2).trans s0
        have t1 := (hB.cell (p := ⟨w.heap.size, 1, none⟩) zw2).trans s1
        have tf : ∀ o, wr.frozen? ⟨w.heap.size, o, none⟩ = false := fun o => (hB.frozen (p := ⟨w.heap.size, o, none⟩) zw2).trans (sf o)
        have tf0 := tf 0
        have tf1 := tf 1
        go_wp2
        refine bodyPost_ret (v := .agg #[.slice B hm.cells.length d, .slice B' hm.roots.length d']) (by simp [results, Try.results19, go_sem, t0, t1]) rfl ⟨_, rfl, ?_, (Xr.setCell (by simp) _).setCell (by simp) _⟩
        rw [← HM.out]
        exact ((OH.setlt (lo := w.heap.size + 1) ⟨B, d, B', d', os, rfl, hmm, hO, fun b hb => (hbl b hb).1⟩ (by simp) _).setlt (by simp) _).lo_ (by omega)
set_option maxHeartbeats 4000000 in
theorem specRunHeap_any (A : Option Addr) (l : List CmdM) (c : Nat) (w : World) (hv : RO w A l) (hl : l.length ≤ 9223372036854775807) :
    Calls Try.prog 80 #[.slice A l.length c] w fun e w' => ∃ v', e = .returned v' ∧ OH w.heap.size w' v' (runM l) ∧ Below w.heap.size w w' := by
  have n0 : ((w.alloc (.cells #[.slice none 0 0, .slice none 0 0] 26))).cell? ⟨w.heap.size, 0, none⟩ = some (.slice none 0 0) := by simp [go_sem]
  have n1 : ((w.alloc (.cells #[.slice none 0 0, .slice none 0 0] 26))).cell? ⟨w.heap.size, 1, none⟩ = some (.slice none 0 0) := by simp [go_sem]
  have nf : ∀ o, ((w.alloc (.cells #[.slice none 0 0, .slice none 0 0] 26))).frozen? ⟨w.heap.size, o, none⟩ = false := fun o => by simp [go_sem]
  have z1 : w.heap.size < ((w.alloc (.cells #[.slice none 0 0, .slice none 0 0] 26))).heap.size := by simp
  have HW : Hid (Below w.heap.size w ((w.alloc (.cells #[.slice none 0 0, .slice none 0 0] 26)))) := by unfold Hid; exact blw_
  cases hok : cmdsOk l
  · have HO := Lib.hid hok
    have HE : Hid (runM l = zeroH) := by unfold Hid runM; rw [hok]; rfl
    clear hok
    go_enter Try.func80, Try.ntmps80
    go_wp2_with fail
    refine (specCommandsValid_any A l c _ (hv.below blw_) hl).mono ?_
    rw [HO.out]
    rintro e w1 ⟨rfl, hB1⟩
    have Y1 : Below ((w.alloc (.cells #[.slice none 0 0, .slice none 0 0] 26))).heap.size ((w.alloc (.cells #[.slice none 0 0, .slice none 0 0] 26))) w1 := blw_
    have X1 : Below w.heap.size w w1 := HW.out.trans (Y1.mono HW.out.size)
    have r0 := cell_below n0 Y1
    have r1 := cell_below n1 Y1
    have rf0 := ((bcell Y1).2.1 _ _ z1).trans (nf 0)
    have rf1 := ((bcell Y1).2.1 _ _ z1).trans (nf 1)
    go_wp2_with fail
    refine bodyPost_ret (v := .agg #[.slice none 0 0, .slice none 0 0]) (by simp [results, Try.results80, go_sem, r0, r1]) rfl ⟨_, rfl, ?_, (X1.setCell (by simp) _).setCell (by simp) _⟩
    rw [HE.out]
    exact OH.zero
  · have HO := Lib.hid hok
    have HE : Hid (runM l = runFrom emptyM l) := by unfold Hid runM; rw [hok]; rfl
    clear hok
    go_enter Try.func80, Try.ntmps80
    go_wp2_with fail
    refine (specCommandsValid_any A l c _ (hv.below blw_) hl).mono ?_
    rw [HO.out]
    rintro e w1 ⟨rfl, hB1⟩
    have Y1 : Below ((w.alloc (.cells #[.slice none 0 0, .slice none 0 0] 26))).heap.size ((w.alloc (.cells #[.slice none 0 0, .slice none 0 0] 26))) w1 := blw_
    have X1 : Below w.heap.size w w1 := HW.out.trans (Y1.mono HW.out.size)
    have r0 := cell_below n0 Y1
    have r1 := cell_below n1 Y1
    have rf : ∀ o, w1.frozen? ⟨w.heap.size, o, none⟩ = false := fun o => ((bcell Y1).2.1 _ _ z1).trans (nf o)
    have zw1 : w.heap.size < w1.heap.size := World.block_lt_of_cell? w1 _ r0
    clear n0 n1 nf z1 hB1 Y1
    go_wp2_with fail
    refine (specEmptyHeap_any _).mono ?_
    rintro e w2 ⟨v2, rfl, ⟨B, d, B', d', os, rfl, hm, hO, hlo⟩, hB2⟩
    have Y2 : Below w1.heap.size w1 w2 := blw_
    have s0 := cell_below r0 Y2
    have s1 := cell_below r1 Y2
    have sf : ∀ o, w2.frozen? ⟨w.heap.size, o, none⟩ = false := fun o => ((bcell Y2).2.1 _ _ zw1).trans (rf o)
    have X2 : Below w.heap.size w w2 := X1.trans (Y2.mono X1.size)
    have zw2 : w.heap.size < w2.heap.size := World.block_lt_of_cell? w2 _ s0
    have hbl : ∀ b ∈ hblks B os B', w.heap.size < b ∧ b ≠ w2.heap.size := fun b hb => ⟨by have h7 := hlo b hb; (try simp only [World.size_alloc, World.size_setCell, World.size_drew, World.heap_drewN] at h7); omega, by have := hO.lt b hb; omega⟩
    clear r0 r1 rf hB2 Y2 X1 hlo
    go_wp2
    go_loopw [4] (fun i wr => ∃ (k : Nat) (hm : HeapM) (B B' : Option Addr) (d d' : Nat) (os : List OCell), k ≤ l.length ∧ i = .int .i64 k ∧ Hid (hm = runFrom emptyM (l.take k)) ∧ wr.cell? ⟨w2.heap.size, 0, none⟩ = some (.slice B hm.cells.length d) ∧ wr.cell? ⟨w2.heap.size, 1, none⟩ = some (.slice B' hm.roots.length d') ∧ (∀ o, wr.frozen? ⟨w2.heap.size, o, none⟩ = false) ∧ os.map (·.c) = hm.cells ∧ OHs wr B d B' d' os hm.roots ∧ (∀ b ∈ hblks B os B', w.heap.size < b ∧ b ≠ w2.heap.size) ∧ Below w2.heap.size w2 wr) (fun i _ => l.length - (intOf i).toNat)
    case atStart => exact ⟨0, emptyM, B, B', d, d', os, by omega, rfl, rfl, by simp [go_sem], by simp [go_sem], fun o => by simp [go_sem], hm, hO.below blw_, hbl, blw_⟩
    case round =>
      clear hm hO hbl
      obtain ⟨k, hm, B, B', d, d', os, hk, rfl, HR, q0, q1, qf, hmm, hO, hbl, hB⟩ := hrel
      have hzr := hB.size
      have zq : w2.heap.size < wr.heap.size := World.block_lt_of_cell? wr _ q0
      have Xr : Below w.heap.size w wr := X2.trans (hB.mono X2.size)
      have hrh := hO.rhs hmm
      have qf0 := qf 0
      have qf1 := qf 1
      by_cases hlt : k < l.length
      · obtain ⟨b, o, x, rfl, gx, c1, c2, c3, c4, hb⟩ := (hv.below Xr).at_ hlt
        have HN : Hid ((stepM hm x).1 = runFrom emptyM (l.take (k + 1))) := by unfold Hid; rw [runFrom_snoc gx, HR.out]
        clear gx HR
        have hlt' : (k : Int) < (l.length : Int) := by omega
        go_wp2_with fail
        have hS : ∀ W, Below wr.heap.size wr W → W.cell? ⟨w2.heap.size, 0, none⟩ = some (.slice B hm.cells.length d) ∧ W.cell? ⟨w2.heap.size, 1, none⟩ = some (.slice B' hm.roots.length d') ∧ W.cell? ⟨b, o + k * 4, none⟩ = some (.int .i64 x.op) ∧ W.cell? ⟨b, o + k * 4 + 1, none⟩ = some (.int .i64 x.a) ∧ W.cell? ⟨b, o + k * 4 + 2, none⟩ = some (.int .i64 x.b) ∧ W.cell? ⟨b, o + k * 4 + 3, none⟩ = some (.int .i64 x.c) := fun W hW => ⟨cell_below q0 hW, cell_below q1 hW, cell_below c1 hW, cell_below c2 hW, cell_below c3 hW, cell_below c4 hW⟩
        go_region_held3 (fun w' => w'.cell? ⟨w2.heap.size, 0, none⟩ = some (.slice B hm.cells.length d) ∧ w'.cell? ⟨w2.heap.size, 1, none⟩ = some (.slice B' hm.roots.length d') ∧ w'.cell? ⟨b, o + k * 4, none⟩ = some (.int .i64 x.op) ∧ w'.cell? ⟨b, o + k * 4 + 1, none⟩ = some (.int .i64 x.a) ∧ w'.cell? ⟨b, o + k * 4 + 2, none⟩ = some (.int .i64 x.b) ∧ w'.cell? ⟨b, o + k * 4 + 3, none⟩ = some (.int .i64 x.c))
          (first | exact hS _ blw_)
          (first
            | (go_at_call 96; (with_reducible refine (specStepHeap_any _ hm x _ ((hrh.below blw_).rh _ _)).mono ?_); rintro e w4 ⟨v4, rfl, ⟨B4, d4, B4', d4', os4, rfl, hm4, hO4, hlo4⟩, hB4⟩; (have z_hB4 := Below.size hB4); (try simp only [World.size_alloc, World.size_setCell, World.size_drew, World.heap_drewN] at z_hB4); obtain ⟨hbc, hbf, -⟩ := bcell hB4; have Y4 : Below wr.heap.size wr w4 := blw_))
        all_goals
          have t0 := cell_below q0 Y4
          have t1 := cell_below q1 Y4
          have tf : ∀ o, w4.frozen? ⟨w2.heap.size, o, none⟩ = false := fun o => ((bcell Y4).2.1 _ _ zq).trans (qf o)
          have tf0 := tf 0
          have tf1 := tf 1
          have hlt4 := hO4.lt
          try simp only [World.size_alloc, World.size_setCell, World.size_drew, World.heap_drewN, heap_drew_] at hlo4
          have hz4 := Y4.size
          have hzz : w2.heap.size < w4.heap.size := by omega
          have hwn : wr.heap.size ≠ w2.heap.size := by omega
          have hwn' : w2.heap.size ≠ wr.heap.size := by omega
          have hwm : w4.heap.size ≠ w2.heap.size := by omega
          have hwm' : w2.heap.size ≠ w4.heap.size := by omega
          have YB : Hid (Below w2.heap.size w2 w4) := hB.trans (Y4.mono hzr)
          have T0 := Lib.hid t0
          have T1 := Lib.hid t1
          have TF := Lib.hid tf
          have u0 : (w4.alloc (.cells #[.slice B4 (stepM hm x).1.cells.length d4, .slice B4' (stepM hm x).1.roots.length d4'] 26)).frozen? ⟨w2.heap.size, 0, none⟩ = false := by simp [go_sem, hzz, tf0]
          have u1 : (w4.alloc (.cells #[.slice B4 (stepM hm x).1.cells.length d4, .slice B4' (stepM hm x).1.roots.length d4'] 26)).frozen? ⟨w2.heap.size, 1, none⟩ = false := by simp [go_sem, hzz, tf1]
          clear t0 t1 tf hB4 hB Xr hrh hO hmm c1 c2 c3 c4
          go_wp2
          go_roundw
          case rel =>
            refine ⟨k + 1, _, B4, B4', d4, d4', os4, by omega, by go_num, HN, by simp [go_sem, T0.out, hzz], by simp [go_sem, T1.out, hzz], fun o => by simp [go_sem, TF.out o, hzz], hm4, hO4.keep (fun b' hb' => by have h8 := hlo4 b' hb'; have h9 := hlt4 b' hb'; (repeat (first | rw [heap_setCell_ne _ _ _ (by first | omega | (simp; done) | (simp; omega))] | rw [Below.heap_alloc _ _ _ (by first | omega | (simp; done) | (simp; omega))]))), fun b' hb' => by have h8 := hlo4 b' hb'; constructor <;> omega, ?_⟩
            have YB' := YB.out
            exact blw_
          case measure => simp [intOf]; omega
      · have hke : k = l.length := by omega
        have hge : ¬ (k : Int) < (l.length : Int) := by omega
        have HM : Hid (hm = runM l) := by unfold Hid; rw [HE.out, HR.out, hke, List.take_length]
        clear HR
        have t0 := (hB.cell (p := ⟨w.heap.size, 0, none⟩) zw2).trans s0
        have t1 := (hB.cell (p := ⟨w.heap.size, 1, none⟩) zw2).trans s1
        have tf : ∀ o, wr.frozen? ⟨w.heap.size, o, none⟩ = false := fun o => (hB.frozen (p := ⟨w.heap.size, o, none⟩) zw2).trans (sf o)
        have tf0 := tf 0
        have tf1 := tf 1
        go_wp2
        refine bodyPost_ret (v := .agg #[.slice B hm.cells.length d, .slice B' hm.roots.length d']) (by simp [results, Try.results80, go_sem, t0, t1]) rfl ⟨_, rfl, ?_, (Xr.setCell (by simp) _).setCell (by simp) _⟩
        rw [← HM.out]
        exact ((OH.setlt (lo := w.heap.size + 1) ⟨B, d, B', d', os, rfl, hmm, hO, fun b hb => (hbl b hb).1⟩ (by simp) _).setlt (by simp) _).lo_ (by omega)
end Go.Proofs.Ytkikeanpbffpkaa
