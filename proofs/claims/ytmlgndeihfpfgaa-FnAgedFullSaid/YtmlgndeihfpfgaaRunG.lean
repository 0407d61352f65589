/- RunAged of the program returns runAgedM, in new memory. -/
import Derived.Test.YtmlgndeihfpfgaaChecked
import Derived.Deep.DeepCutAuto
import Derived.Deep.RegionHeld3
import Derived.Test.YtmlgndeihfpfgaaCmdsV
import Derived.Test.YtmlgndeihfpfgaaOver
import Derived.Test.YtmlgndeihfpfgaaGrCmd
import Derived.Test.YtmlgndeihfpfgaaStepG
import Derived.Test.YtmlgndeihfpfgaaCollY
namespace Go.Proofs.Ytmlgndeihfpfgaa
open Go.RowKit
set_option maxRecDepth 100000
set_option linter.unusedSimpArgs false
set_option linter.unusedVariables false
theorem runAged_bad {l : List CmdM} {every : Int} (h : (cmdsOk l && inB 1 every 40) = false) : runAgedM l every = zeroT := by unfold runAgedM; rw [h]; rfl
theorem runAged_ok {l : List CmdM} {every : Int} (h1 : cmdsOk l = true) (h2 : inB 1 every 40 = true) : runAgedM l every = runAgedN every l l.length := by unfold runAgedM; rw [h1, h2]; rfl
theorem tick_yes {every : Int} {k : Nat} {p : TwoM} (h : ((k : Int) + 1) % every = 0) : agedTick every k p = (collectYoungM p).1 := by unfold agedTick; rw [if_pos h]
theorem tick_no {every : Int} {k : Nat} {p : TwoM} (h : ¬ ((k : Int) + 1) % every = 0) : agedTick every k p = p := by unfold agedTick; rw [if_neg h]
set_option maxHeartbeats 8000000 in
theorem implRunAged_any (A : Option Addr) (l : List CmdM) (c : Nat) (every : Int) (w : World) (hv0 : RO w A l) (hl : l.length ≤ 9223372036854775807) :
    Calls Try.prog 19 #[.slice A l.length c, .int .i64 every] w fun e w' => ∃ v', e = .returned v' ∧ OTw w.heap.size w' v' (runAgedM l every) ∧ Below w.heap.size w w' := by
  have HG0 : Hid (∀ W, Below ((w.alloc (.cells #[.slice none 0 0, .slice none 0 0, .slice none 0 0, .slice none 0 0] 45))).heap.size ((w.alloc (.cells #[.slice none 0 0, .slice none 0 0, .slice none 0 0, .slice none 0 0] 45))) W → (W.cell? ⟨w.heap.size, 0, none⟩ = some (.slice none 0 0) ∧ W.cell? ⟨w.heap.size, 1, none⟩ = some (.slice none 0 0) ∧ W.cell? ⟨w.heap.size, 2, none⟩ = some (.slice none 0 0) ∧ W.cell? ⟨w.heap.size, 3, none⟩ = some (.slice none 0 0) ∧ ∀ o, W.frozen? ⟨w.heap.size, o, none⟩ = false)) := fun W hW => ⟨cell_below (by simp [go_sem]) hW, cell_below (by simp [go_sem]) hW, cell_below (by simp [go_sem]) hW, cell_below (by simp [go_sem]) hW, fun o => ((bcell hW).2.1 _ _ (by simp)).trans (by simp [go_sem])⟩
  have hz0 : ((w.alloc (.cells #[.slice none 0 0, .slice none 0 0, .slice none 0 0, .slice none 0 0] 45))).heap.size = w.heap.size + 1 := by simp
  have hW0 : Below w.heap.size w ((w.alloc (.cells #[.slice none 0 0, .slice none 0 0, .slice none 0 0, .slice none 0 0] 45))) := blw_
  have hv := hv0.below hW0
  clear hv0
  cases hok : cmdsOk l
  · have HO := Lib.hid hok
    have HE := Lib.hid (runAged_bad (l := l) (every := every) (by rw [hok]; rfl))
    clear hok
    go_enter Try.func19, Try.ntmps19; go_wp2_with fail; generalize ((w.alloc (.cells #[.slice none 0 0, .slice none 0 0, .slice none 0 0, .slice none 0 0] 45))) = W0 at *; (with_reducible refine (implCommandsValid_any A l c _ (hv.below blw_) hl).mono ?_); rw [HO.out]; rintro e w1 ⟨rfl, hB⟩; (have z_hB := Below.size hB); (try simp only [World.size_alloc, World.size_setCell, World.size_drew, World.heap_drewN] at z_hB); have Y : Below W0.heap.size W0 w1 := blw_; clear hB; have sY := Y.size
    obtain ⟨r0, r1, r2, r3, rf⟩ := HG0.out _ Y; have rf0 := rf 0; have rf1 := rf 1; have rf2 := rf 2; have rf3 := rf 3; clear rf
    go_wp2_with fail
    have X := hW0.trans (Y.mono hW0.size); refine bodyPost_ret (v := .agg #[.slice none 0 0, .slice none 0 0, .slice none 0 0, .slice none 0 0]) (by simp [results, Try.results19, go_sem, r0, r1, r2, r3]) rfl ⟨_, rfl, ?_, blw_⟩; rw [HE.out]; exact OTw.zero
  have HO := Lib.hid hok
  cases hli : inB 1 every 40
  · have HE := Lib.hid (runAged_bad (l := l) (every := every) (by rw [hok, hli]; rfl))
    have hb := inB_false.1 hli
    clear hok hli
    rcases (by omega : every < 1 ∨ 40 < every) with hs | hs
    all_goals
      have hs1 : ¬ (1 ≤ every ∧ every ≤ 40) := by omega
      go_enter Try.func19, Try.ntmps19; go_wp2_with fail; generalize ((w.alloc (.cells #[.slice none 0 0, .slice none 0 0, .slice none 0 0, .slice none 0 0] 45))) = W0 at *; (with_reducible refine (implCommandsValid_any A l c _ (hv.below blw_) hl).mono ?_); rw [HO.out]; rintro e w1 ⟨rfl, hB⟩; (have z_hB := Below.size hB); (try simp only [World.size_alloc, World.size_setCell, World.size_drew, World.heap_drewN] at z_hB); have Y : Below W0.heap.size W0 w1 := blw_; clear hB; have sY := Y.size
      obtain ⟨r0, r1, r2, r3, rf⟩ := HG0.out _ Y; have rf0 := rf 0; have rf1 := rf 1; have rf2 := rf 2; have rf3 := rf 3; clear rf
      go_wp2_with fail
      have X := hW0.trans (Y.mono hW0.size); refine bodyPost_ret (v := .agg #[.slice none 0 0, .slice none 0 0, .slice none 0 0, .slice none 0 0]) (by simp [results, Try.results19, go_sem, r0, r1, r2, r3]) rfl ⟨_, rfl, ?_, blw_⟩; rw [HE.out]; exact OTw.zero
  have HE := Lib.hid (runAged_ok hok hli)
  obtain ⟨he1, he2⟩ := inB_iff.1 hli
  have hl40 : l.length ≤ 40 := by unfold cmdsOk at hok; simp only [Bool.and_eq_true, decide_eq_true_eq] at hok; exact hok.1
  clear hok hli
  go_enter Try.func19, Try.ntmps19; go_wp2_with fail; generalize ((w.alloc (.cells #[.slice none 0 0, .slice none 0 0, .slice none 0 0, .slice none 0 0] 45))) = W0 at *; (with_reducible refine (implCommandsValid_any A l c _ (hv.below blw_) hl).mono ?_); rw [HO.out]; rintro e w1 ⟨rfl, hB⟩; (have z_hB := Below.size hB); (try simp only [World.size_alloc, World.size_setCell, World.size_drew, World.heap_drewN] at z_hB); have Y : Below W0.heap.size W0 w1 := blw_; clear hB; have sY := Y.size
  go_wp2_with fail
  (with_reducible refine (implEmptyHeap_any _).mono ?_)
  rintro e w2 ⟨v2, rfl, ⟨B, d, B', d', os, rfl, hm, hO, hlo⟩, hB2⟩
  have Y2 : Below W0.heap.size W0 w2 := blw_
  have sY2 := Y2.size
  have hlo2 : ∀ b ∈ hblks B os B', W0.heap.size ≤ b := fun b hb => by have h7 := hlo b hb; (try simp only [World.size_alloc, World.size_setCell, World.size_drew, World.heap_drewN] at h7); omega
  have hP := PTx.mk_ (p := emptyT) (lo := W0.heap.size) (w := w2) (c := d) (c' := d') hm hO OF.nil OF.nil (by have h9 := hO.nodup; simp [blk]; exact h9) (fun b hb => hlo2 b (by simpa [blk] using hb)) (by simp [emptyT]) (by simp [emptyT]) sY2 45
  have HP := Lib.hid hP
  have HY2 := Lib.hid (Y2.alloc sY2 (.cells #[.slice B emptyM.cells.length d, .slice B' emptyM.roots.length d', .slice none 0 0, .slice none 0 0] 45))
  clear hP hm hO hlo hlo2 hB2 Y
  go_wp2
  go_loopw [24] (fun i wr => ∃ (k : Nat) (q : TwoM) (D : Option Addr) (e : Nat) (D' : Option Addr) (e' : Nat) (os2 : List OCell) (D2 : Option Addr) (e2 : Nat) (D3 : Option Addr) (e3 : Nat), k ≤ l.length ∧ i = .int .i64 k ∧ Hid (q = runAgedN every l k) ∧ PTx W0.heap.size wr w2.heap.size q D e D' e' os2 D2 e2 D3 e3 ∧ Below W0.heap.size W0 wr) (fun i _ => l.length - (intOf i).toNat)
  case atStart => exact ⟨0, emptyT, B, d, B', d', os, none, 0, none, 0, by omega, rfl, rfl, HP.out, HY2.out⟩
  case round =>
    clear HP HY2 Y2
    obtain ⟨k, q, D, e, D', e', os2, D2, e2, D3, e3, hk, rfl, HR, hQ, Y⟩ := hrel
    have sY := Y.size
    have q0 := hQ.q0
    have q1 := hQ.q1
    have q2 := hQ.q2
    have q3 := hQ.q3
    have hqz := hQ.lt
    have qf := hQ.qf
    have hrt := hQ.opt.rt
    have HQ := Lib.hid hQ
    clear hQ
    by_cases hlt : k < l.length
    · obtain ⟨b, o, x, rfl, gx, c1, c2, c3, c4, hb⟩ := (hv.below Y).at_ hlt
      have HN := Lib.hid (runAgedN_succ (every := every) gx)
      have hlt' : (k : Int) < (l.length : Int) := by omega
      have hzc : wr.heap.size ≠ w2.heap.size := by omega
      have hzc2 : w2.heap.size ≠ wr.heap.size := by omega
      clear gx
      rcases Classical.em (((k : Int) + 1) % every = 0) with ht | ht
      · have HT := Lib.hid (tick_yes (p := (agedCmdM q x).1) ht)
        go_wp2_with fail
        (with_reducible refine (implStepAged_any _ q x _ (hrt.below blw_)).mono ?_)
        rintro e5 w5 ⟨v5, rfl, ⟨E, f, E', f', os5, E2, f2, E3, f3, rfl, hm5, hO5, hX5, hY5, hnd5, hlo5, hxl5, hyl5⟩, hB5⟩
        have Y5 : Below wr.heap.size wr w5 := blw_
        (try simp only [World.size_alloc, World.size_setCell, World.size_drew, World.heap_drewN] at hlo5)
        have x0 := cell_below q0 Y5
        have x1 := cell_below q1 Y5
        have x2 := cell_below q2 Y5
        have x3 := cell_below q3 Y5
        have xf : ∀ o, w5.frozen? ⟨w2.heap.size, o, none⟩ = false := fun o => ((bcell Y5).2.1 _ _ hqz).trans (qf o)
        have xf0 := xf 0
        have xf1 := xf 1
        have xf2 := xf 2
        have xf3 := xf 3
        have hw5 : Below W0.heap.size W0 w5 := Y.trans (Y5.mono sY)
        have sw5 := hw5.size
        have hg5 : w2.heap.size < w5.heap.size := World.block_lt_of_cell? w5 _ x0
        have HQ5 := Lib.hid ((HQ.out.below Y5).over1 hm5 hO5 hX5 hY5 hnd5 hlo5 hxl5 hyl5 (by omega) (by omega))
        have hB6 := (((hw5.setCell (p := ⟨w2.heap.size, 0, none⟩) sY2 (.slice E (agedCmdM q x).1.store.cells.length f)).setCell (p := ⟨w2.heap.size, 1, none⟩) sY2 (.slice E' (agedCmdM q x).1.store.roots.length f')).setCell (p := ⟨w2.heap.size, 2, none⟩) sY2 (.slice E2 (agedCmdM q x).1.x.length f2)).setCell (p := ⟨w2.heap.size, 3, none⟩) sY2 (.slice E3 (agedCmdM q x).1.y.length f3)
        have HB6 := Lib.hid hB6
        clear hm5 hO5 hX5 hY5 hnd5 hlo5 hB5 xf hB6 Y5 hrt
        go_upto_region 8 with fail
        generalize ((((w5.setCell ⟨w2.heap.size, 0, none⟩ (.slice E (agedCmdM q x).1.store.cells.length f)).setCell ⟨w2.heap.size, 1, none⟩ (.slice E' (agedCmdM q x).1.store.roots.length f')).setCell ⟨w2.heap.size, 2, none⟩ (.slice E2 (agedCmdM q x).1.x.length f2)).setCell ⟨w2.heap.size, 3, none⟩ (.slice E3 (agedCmdM q x).1.y.length f3)) = WS at *
        clear x0 x1 x2 x3 xf0 xf1 xf2 xf3 q0 q1 q2 q3 Y
        have Y := HB6.out
        have x0 := HQ5.out.q0
        have x1 := HQ5.out.q1
        have x2 := HQ5.out.q2
        have x3 := HQ5.out.q3
        have hqf := HQ5.out.qf
        have hq5 := HQ5.out.lt
        have hrt5 := HQ5.out.opt.rt
        go_wp2_with fail
        (with_reducible refine (implCollectYoung_any _ (agedCmdM q x).1 _ hrt5).mono ?_)
        rintro e7 w7 ⟨v7, rfl, ⟨F, g, F', g', os7, F2, g2, F3, g3, rfl, hm7, hO7, hX7, hY7, hnd7, hlo7, hxl7, hyl7⟩, hB7⟩
        have y0 := cell_below x0 hB7
        have y1 := cell_below x1 hB7
        have y2 := cell_below x2 hB7
        have y3 := cell_below x3 hB7
        have yf : ∀ o, w7.frozen? ⟨w2.heap.size, o, none⟩ = false := fun o => ((bcell hB7).2.1 _ _ hq5).trans (hqf o)
        have yf0 := yf 0
        have yf1 := yf 1
        have yf2 := yf 2
        have yf3 := yf 3
        have hw7 : Below W0.heap.size W0 w7 := Y.trans (hB7.mono Y.size)
        have HQ7 := Lib.hid ((HQ5.out.below hB7).over1 hm7 hO7 hX7 hY7 hnd7 hlo7 hxl7 hyl7 Y.size hq5)
        have HN7 : Hid ((collectYoungM (agedCmdM q x).1).1 = runAgedN every l (k + 1)) := by unfold Hid; rw [HN.out, ← HR.out, HT.out]
        have HB7 := Lib.hid ((((hw7.setCell (p := ⟨w2.heap.size, 0, none⟩) sY2 (.slice F (collectYoungM (agedCmdM q x).1).1.store.cells.length g)).setCell (p := ⟨w2.heap.size, 1, none⟩) sY2 (.slice F' (collectYoungM (agedCmdM q x).1).1.store.roots.length g')).setCell (p := ⟨w2.heap.size, 2, none⟩) sY2 (.slice F2 (collectYoungM (agedCmdM q x).1).1.x.length g2)).setCell (p := ⟨w2.heap.size, 3, none⟩) sY2 (.slice F3 (collectYoungM (agedCmdM q x).1).1.y.length g3))
        clear hm7 hO7 hX7 hY7 hnd7 hlo7 yf x0 x1 x2 x3 hqf hrt5 hB7
        go_wp2
        go_roundw
        case rel => exact ⟨k + 1, (collectYoungM (agedCmdM q x).1).1, F, g, F', g', os7, F2, g2, F3, g3, by omega, by go_num, HN7, HQ7.out, HB7.out⟩
        case measure => simp [intOf]; omega
      · have HT := Lib.hid (tick_no (p := (agedCmdM q x).1) ht)
        go_wp2_with fail
        (with_reducible refine (implStepAged_any _ q x _ (hrt.below blw_)).mono ?_)
        rintro e5 w5 ⟨v5, rfl, ⟨E, f, E', f', os5, E2, f2, E3, f3, rfl, hm5, hO5, hX5, hY5, hnd5, hlo5, hxl5, hyl5⟩, hB5⟩
        have Y5 : Below wr.heap.size wr w5 := blw_
        (try simp only [World.size_alloc, World.size_setCell, World.size_drew, World.heap_drewN] at hlo5)
        have x0 := cell_below q0 Y5
        have x1 := cell_below q1 Y5
        have x2 := cell_below q2 Y5
        have x3 := cell_below q3 Y5
        have xf : ∀ o, w5.frozen? ⟨w2.heap.size, o, none⟩ = false := fun o => ((bcell Y5).2.1 _ _ hqz).trans (qf o)
        have xf0 := xf 0
        have xf1 := xf 1
        have xf2 := xf 2
        have xf3 := xf 3
        have hw5 : Below W0.heap.size W0 w5 := Y.trans (Y5.mono sY)
        have sw5 := hw5.size
        have hg5 : w2.heap.size < w5.heap.size := World.block_lt_of_cell? w5 _ x0
        have HQ5 := Lib.hid ((HQ.out.below Y5).over1 hm5 hO5 hX5 hY5 hnd5 hlo5 hxl5 hyl5 (by omega) (by omega))
        have hB6 := (((hw5.setCell (p := ⟨w2.heap.size, 0, none⟩) sY2 (.slice E (agedCmdM q x).1.store.cells.length f)).setCell (p := ⟨w2.heap.size, 1, none⟩) sY2 (.slice E' (agedCmdM q x).1.store.roots.length f')).setCell (p := ⟨w2.heap.size, 2, none⟩) sY2 (.slice E2 (agedCmdM q x).1.x.length f2)).setCell (p := ⟨w2.heap.size, 3, none⟩) sY2 (.slice E3 (agedCmdM q x).1.y.length f3)
        have HB6 := Lib.hid hB6
        clear hm5 hO5 hX5 hY5 hnd5 hlo5 hB5 xf hB6 Y5 hrt
        go_upto_region 8 with fail
        generalize ((((w5.setCell ⟨w2.heap.size, 0, none⟩ (.slice E (agedCmdM q x).1.store.cells.length f)).setCell ⟨w2.heap.size, 1, none⟩ (.slice E' (agedCmdM q x).1.store.roots.length f')).setCell ⟨w2.heap.size, 2, none⟩ (.slice E2 (agedCmdM q x).1.x.length f2)).setCell ⟨w2.heap.size, 3, none⟩ (.slice E3 (agedCmdM q x).1.y.length f3)) = WS at *
        have HN5 : Hid ((agedCmdM q x).1 = runAgedN every l (k + 1)) := by unfold Hid; rw [HN.out, ← HR.out, HT.out]
        clear x0 x1 x2 x3 xf0 xf1 xf2 xf3 q0 q1 q2 q3
        go_wp2
        go_roundw
        case rel => exact ⟨k + 1, (agedCmdM q x).1, E, f, E', f', os5, E2, f2, E3, f3, by omega, by go_num, HN5, HQ5.out, HB6.out⟩
        case measure => simp [intOf]; omega
    · have hke : k = l.length := by omega
      have hge : ¬ (k : Int) < (l.length : Int) := by omega
      have HM : Hid (runAgedM l every = q) := by unfold Hid; rw [HE.out, HR.out, hke]
      obtain ⟨r0, r1, r2, r3, rf⟩ := HG0.out _ Y
      have rf0 := rf 0
      have rf1 := rf 1
      have rf2 := rf 2
      have rf3 := rf 3
      clear hke HR rf
      have X := hW0.trans (Y.mono hW0.size)
      go_wp2_with fail
      refine bodyPost_ret (v := .agg #[.slice D q.store.cells.length e, .slice D' q.store.roots.length e', .slice D2 q.x.length e2, .slice D3 q.y.length e3]) (by simp [results, Try.results19, go_sem, r0, r1, r2, r3]) rfl ⟨_, rfl, ?_, blw_⟩
      rw [HM.out]
      exact ((((HQ.out.opt.setlt (by simp; omega) _).setlt (by simp; omega) _).setlt (by simp; omega) _).setlt (by simp; omega) _).lo_ (by omega)
end Go.Proofs.Ytmlgndeihfpfgaa
