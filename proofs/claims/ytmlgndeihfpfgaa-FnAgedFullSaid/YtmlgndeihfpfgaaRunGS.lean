/- RunAged of the reference returns runAgedM, in new memory. -/
import Derived.Test.YtmlgndeihfpfgaaChecked
import Derived.Deep.DeepCutAuto
import Derived.Deep.RegionHeld3
import Derived.Test.YtmlgndeihfpfgaaRunG
import Derived.Test.YtmlgndeihfpfgaaStepGS
import Derived.Test.YtmlgndeihfpfgaaCollYS
namespace Go.Proofs.Ytmlgndeihfpfgaa
open Go.RowKit
set_option maxRecDepth 100000
set_option linter.unusedSimpArgs false
set_option linter.unusedVariables false
theorem wp_genG {P : Program} {c : Code} {Q : Exit → Act → World → Prop} {a : Act} {w : World} (R : World → Prop) (h : R w) (k : ∀ W, R W → Code.wp P c Q a W) : Code.wp P c Q a w := k w h
set_option maxHeartbeats 8000000 in
theorem specRunAged_any (A : Option Addr) (l : List CmdM) (c : Nat) (every : Int) (w : World) (hv0 : RO w A l) (hl : l.length ≤ 9223372036854775807) :
    Calls Try.prog 21 #[.slice A l.length c, .int .i64 every] w fun e w' => ∃ v', e = .returned v' ∧ OTw w.heap.size w' v' (runAgedM l every) ∧ Below w.heap.size w w' := by
  have HG0 : Hid (∀ W, Below ((w.alloc (.cells #[.slice none 0 0, .slice none 0 0, .slice none 0 0, .slice none 0 0] 45))).heap.size ((w.alloc (.cells #[.slice none 0 0, .slice none 0 0, .slice none 0 0, .slice none 0 0] 45))) W → (W.cell? ⟨w.heap.size, 0, none⟩ = some (.slice none 0 0) ∧ W.cell? ⟨w.heap.size, 1, none⟩ = some (.slice none 0 0) ∧ W.cell? ⟨w.heap.size, 2, none⟩ = some (.slice none 0 0) ∧ W.cell? ⟨w.heap.size, 3, none⟩ = some (.slice none 0 0) ∧ ∀ o, W.frozen? ⟨w.heap.size, o, none⟩ = false)) := fun W hW => ⟨cell_below (by simp [go_sem]) hW, cell_below (by simp [go_sem]) hW, cell_below (by simp [go_sem]) hW, cell_below (by simp [go_sem]) hW, fun o => ((bcell hW).2.1 _ _ (by simp)).trans (by simp [go_sem])⟩
  have hz0 : ((w.alloc (.cells #[.slice none 0 0, .slice none 0 0, .slice none 0 0, .slice none 0 0] 45))).heap.size = w.heap.size + 1 := by simp
  have hW0 : Below w.heap.size w ((w.alloc (.cells #[.slice none 0 0, .slice none 0 0, .slice none 0 0, .slice none 0 0] 45))) := blw_
  have hv := hv0.below hW0
  clear hv0
  cases hok : cmdsOk l
  · have HO := Lib.hid hok
    have HE := Lib.hid (runAged_bad (l := l) (every := every) (by rw [hok]; rfl))
    clear hok
    go_enter Try.func21, Try.ntmps21; go_wp2_with fail; generalize ((w.alloc (.cells #[.slice none 0 0, .slice none 0 0, .slice none 0 0, .slice none 0 0] 45))) = W0 at *; (with_reducible refine (specCommandsValid_any A l c _ (hv.below blw_) hl).mono ?_); rw [HO.out]; rintro e w1 ⟨rfl, hB⟩; (have z_hB := Below.size hB); (try simp only [World.size_alloc, World.size_setCell, World.size_drew, World.heap_drewN] at z_hB); have Y : Below W0.heap.size W0 w1 := blw_; clear hB; have sY := Y.size
    obtain ⟨r0, r1, r2, r3, rf⟩ := HG0.out _ Y; have rf0 := rf 0; have rf1 := rf 1; have rf2 := rf 2; have rf3 := rf 3; clear rf
    go_wp2_with fail
    have X := hW0.trans (Y.mono hW0.size); refine bodyPost_ret (v := .agg #[.slice none 0 0, .slice none 0 0, .slice none 0 0, .slice none 0 0]) (by simp [results, Try.results21, go_sem, r0, r1, r2, r3]) rfl ⟨_, rfl, ?_, blw_⟩; rw [HE.out]; exact OTw.zero
  have HO := Lib.hid hok
  cases hli : inB 1 every 40
  · have HE := Lib.hid (runAged_bad (l := l) (every := every) (by rw [hok, hli]; rfl))
    have HL := Lib.hid hli
    clear hok hli
    go_enter Try.func21, Try.ntmps21; go_wp2_with fail; generalize ((w.alloc (.cells #[.slice none 0 0, .slice none 0 0, .slice none 0 0, .slice none 0 0] 45))) = W0 at *; (with_reducible refine (specCommandsValid_any A l c _ (hv.below blw_) hl).mono ?_); rw [HO.out]; rintro e w1 ⟨rfl, hB⟩; (have z_hB := Below.size hB); (try simp only [World.size_alloc, World.size_setCell, World.size_drew, World.heap_drewN] at z_hB); have Y : Below W0.heap.size W0 w1 := blw_; clear hB; have sY := Y.size
    obtain ⟨r0, r1, r2, r3, rf⟩ := HG0.out _ Y; have rf0 := rf 0; have rf1 := rf 1; have rf2 := rf 2; have rf3 := rf 3; clear rf
    go_wp2_with fail
    ((with_reducible refine (l1In_any every 1 40 _).mono ?_); rw [HL.out]; rintro e w8 ⟨rfl, rfl⟩)
    go_wp2_with fail
    have X := hW0.trans (Y.mono hW0.size); refine bodyPost_ret (v := .agg #[.slice none 0 0, .slice none 0 0, .slice none 0 0, .slice none 0 0]) (by simp [results, Try.results21, go_sem, r0, r1, r2, r3]) rfl ⟨_, rfl, ?_, blw_⟩; rw [HE.out]; exact OTw.zero
  have HE := Lib.hid (runAged_ok hok hli)
  obtain ⟨he1, he2⟩ := inB_iff.1 hli
  have hl40 : l.length ≤ 40 := by unfold cmdsOk at hok; simp only [Bool.and_eq_true, decide_eq_true_eq] at hok; exact hok.1
  have HL := Lib.hid hli
  clear hok hli
  go_enter Try.func21, Try.ntmps21; go_wp2_with fail; generalize ((w.alloc (.cells #[.slice none 0 0, .slice none 0 0, .slice none 0 0, .slice none 0 0] 45))) = W0 at *; (with_reducible refine (specCommandsValid_any A l c _ (hv.below blw_) hl).mono ?_); rw [HO.out]; rintro e w1 ⟨rfl, hB⟩; (have z_hB := Below.size hB); (try simp only [World.size_alloc, World.size_setCell, World.size_drew, World.heap_drewN] at z_hB); have Y : Below W0.heap.size W0 w1 := blw_; clear hB; have sY := Y.size
  go_wp2_with fail
  ((with_reducible refine (l1In_any every 1 40 _).mono ?_); rw [HL.out]; rintro e w8 ⟨rfl, rfl⟩)
  go_wp2_with fail
  (with_reducible refine (specEmptyHeap_any _).mono ?_)
  rintro e w2 ⟨v2, rfl, ⟨B, d, B', d', os, rfl, hm, hO, hlo⟩, hB2⟩
  have Y2 : Below W0.heap.size W0 w2 := blw_
  have sY2 := Y2.size
  have hlo2 : ∀ b ∈ hblks B os B', W0.heap.size ≤ b := fun b hb => by have h7 := hlo b hb; (try simp only [World.size_alloc, World.size_setCell, World.size_drew, World.heap_drewN] at h7); omega
  have hW3 : Below w2.heap.size w2 (((w2.alloc (.cells #[] 4)).alloc (.cells #[] 4))) := ((Below.refl _ _).alloc (Nat.le_refl _) _).alloc (by simp) _
  have sW3 : w2.heap.size + 2 = (((w2.alloc (.cells #[] 4)).alloc (.cells #[] 4))).heap.size := by simp
  have hlt2 := hO.lt
  have hx3 : OF 4 fb (((w2.alloc (.cells #[] 4)).alloc (.cells #[] 4))) (some ⟨w2.heap.size, 0, none⟩) 0 ([] : List Bool) := OF.fresh0 (by rw [Below.heap_alloc _ _ _ (by first | omega | (simp; done) | (simp; omega))]; exact heap_alloc_at _ _ _ rfl)
  have hy3 : OF 4 fb (((w2.alloc (.cells #[] 4)).alloc (.cells #[] 4))) (some ⟨w2.heap.size + 1, 0, none⟩) 0 ([] : List Bool) := OF.fresh0 (heap_alloc_at _ _ _ (by simp))
  have hP := PTx.mk_ (p := emptyT) (lo := W0.heap.size) (w := ((w2.alloc (.cells #[] 4)).alloc (.cells #[] 4))) (c := d) (c' := d') hm (hO.below hW3) hx3 hy3 (nd3_of hO.nodup (blk_nodup _) (blk_nodup _) (fun b hb hc => by have h7 := hlt2 b hc; have h8 := mem_blk_some hb; omega) (fun b hb hc => by have h7 := hlt2 b hc; have h8 := mem_blk_some hb; omega) (fun b hb hc => by have h7 := mem_blk_some hc; have h8 := mem_blk_some hb; omega)) (fun b hb => by rcases mem3.1 hb with h7 | h7 | h7; exact hlo2 b h7; (have := mem_blk_some h7; omega); (have := mem_blk_some h7; omega)) (by simp [emptyT]) (by simp [emptyT]) (by omega) 45
  have hP2 := hP
  simp only [World.size_alloc] at hP2
  have HP := Lib.hid hP2
  have HY2 := Lib.hid ((((Y2.alloc sY2 _).alloc (by simp; omega) _).alloc (by simp; omega) (.cells #[.slice B emptyM.cells.length d, .slice B' emptyM.roots.length d', .slice (some ⟨w2.heap.size, 0, none⟩) 0 0, .slice (some ⟨w2.heap.size + 1, 0, none⟩) 0 0] 45) : Below W0.heap.size W0 ((((w2.alloc (.cells #[] 4)).alloc (.cells #[] 4))).alloc _)))
  obtain ⟨g, hg⟩ : ∃ g, g = w2.heap.size + 2 := ⟨_, rfl⟩
  have sg : W0.heap.size ≤ g := by omega
  have HG := Lib.hid hg
  clear hP hP2 hm hO hlo hlo2 hB2 Y hx3 hy3 hlt2 hW3 sW3 hg
  go_wp2
  go_loopw [6] (fun i wr => ∃ (k : Nat) (q : TwoM) (D : Option Addr) (e : Nat) (D' : Option Addr) (e' : Nat) (os2 : List OCell) (D2 : Option Addr) (e2 : Nat) (D3 : Option Addr) (e3 : Nat), k ≤ l.length ∧ i = .int .i64 k ∧ Hid (q = runAgedN every l k) ∧ PTx W0.heap.size wr (w2.heap.size + 1 + 1) q D e D' e' os2 D2 e2 D3 e3 ∧ Below W0.heap.size W0 wr) (fun i _ => l.length - (intOf i).toNat)
  case atStart => exact ⟨0, emptyT, B, d, B', d', os, some ⟨w2.heap.size, 0, none⟩, 0, some ⟨w2.heap.size + 1, 0, none⟩, 0, by omega, rfl, rfl, HP.out, HY2.out⟩
  case round =>
    clear HP HY2 Y2
    obtain ⟨k, q, D, e, D', e', os2, D2, e2, D3, e3, hk, rfl, HR, hQ, Y⟩ := hrel
    have sY := Y.size
    have q0 := hQ.q0
    have q1 := hQ.q1
    have q2 := hQ.q2
    have q3 := hQ.q3
    have hqz := hQ.lt
    have qf := hQ.qf
    have hrt := hQ.opt.rt
    have sg2 : W0.heap.size ≤ w2.heap.size + 1 + 1 := by omega
    have HQ := Lib.hid hQ
    clear hQ
    by_cases hlt : k < l.length
    · obtain ⟨b, o, x, rfl, gx, c1, c2, c3, c4, hb⟩ := (hv.below Y).at_ hlt
      have HN := Lib.hid (runAgedN_succ (every := every) gx)
      have hlt' : (k : Int) < (l.length : Int) := by omega
      have hS : ∀ W, Below wr.heap.size wr W → W.cell? ⟨w2.heap.size + 1 + 1, 0, none⟩ = some (.slice D q.store.cells.length e) ∧ W.cell? ⟨w2.heap.size + 1 + 1, 1, none⟩ = some (.slice D' q.store.roots.length e') ∧ W.cell? ⟨w2.heap.size + 1 + 1, 2, none⟩ = some (.slice D2 q.x.length e2) ∧ W.cell? ⟨w2.heap.size + 1 + 1, 3, none⟩ = some (.slice D3 q.y.length e3) ∧ W.cell? ⟨b, o + k * 4, none⟩ = some (.int .i64 x.op) ∧ W.cell? ⟨b, o + k * 4 + 1, none⟩ = some (.int .i64 x.a) ∧ W.cell? ⟨b, o + k * 4 + 2, none⟩ = some (.int .i64 x.b) ∧ W.cell? ⟨b, o + k * 4 + 3, none⟩ = some (.int .i64 x.c) := fun W hW =>
        ⟨cell_below q0 hW, cell_below q1 hW, cell_below q2 hW, cell_below q3 hW, cell_below c1 hW, cell_below c2 hW, cell_below c3 hW, cell_below c4 hW⟩
      clear gx
      have hzc : wr.heap.size ≠ w2.heap.size + 1 + 1 := by omega
      have hzc2 : w2.heap.size + 1 + 1 ≠ wr.heap.size := by omega
      go_upto_region 7 with fail
      go_region_held3 (fun w' => w'.cell? ⟨w2.heap.size + 1 + 1, 0, none⟩ = some (.slice D q.store.cells.length e) ∧ w'.cell? ⟨w2.heap.size + 1 + 1, 1, none⟩ = some (.slice D' q.store.roots.length e') ∧ w'.cell? ⟨w2.heap.size + 1 + 1, 2, none⟩ = some (.slice D2 q.x.length e2) ∧ w'.cell? ⟨w2.heap.size + 1 + 1, 3, none⟩ = some (.slice D3 q.y.length e3) ∧ w'.cell? ⟨b, o + k * 4, none⟩ = some (.int .i64 x.op) ∧ w'.cell? ⟨b, o + k * 4 + 1, none⟩ = some (.int .i64 x.a) ∧ w'.cell? ⟨b, o + k * 4 + 2, none⟩ = some (.int .i64 x.b) ∧ w'.cell? ⟨b, o + k * 4 + 3, none⟩ = some (.int .i64 x.c))
        (first | with_reducible exact hS _ blw_)
        (first
          | (go_at_call 54; (with_reducible refine (specStepAged_any _ q x _ (hrt.below blw_)).mono ?_); rintro e5 w5 ⟨v5, rfl, ⟨E, f, E', f', os5, E2, f2, E3, f3, rfl, hm5, hO5, hX5, hY5, hnd5, hlo5, hxl5, hyl5⟩, hB5⟩; (have z_hB5 := Below.size hB5); (try simp only [World.size_alloc, World.size_setCell, World.size_drew, World.heap_drewN] at z_hB5); obtain ⟨hbc, hbf, -⟩ := bcell hB5; have Y5 : Below wr.heap.size wr w5 := blw_; (first | (have zl5 : wr.heap.size < w5.heap.size := Nat.lt_of_lt_of_le (Nat.lt_succ_self _) z_hB5) | skip); have HO5 := Lib.hid hO5; have HX5 := Lib.hid hX5; have HY5 := Lib.hid hY5; clear hO5 hX5 hY5))
      all_goals
        have x0 := cell_below q0 Y5
        have x1 := cell_below q1 Y5
        have x2 := cell_below q2 Y5
        have x3 := cell_below q3 Y5
        have xf : ∀ o, w5.frozen? ⟨w2.heap.size + 1 + 1, o, none⟩ = false := fun o => ((bcell Y5).2.1 _ _ hqz).trans (qf o)
        have xf0 := xf 0
        have xf1 := xf 1
        have xf2 := xf 2
        have xf3 := xf 3
        have wf0 := qf 0
        have wf1 := qf 1
        have wf2 := qf 2
        have wf3 := qf 3
        have hx5 : w2.heap.size + 1 + 1 < w5.heap.size := World.block_lt_of_cell? w5 _ x0
        try simp only [World.size_alloc, World.size_setCell, World.size_drew, World.heap_drewN, heap_drew_] at hlo5
        have hw5 : Below W0.heap.size W0 w5 := Y.trans (Y5.mono sY)
        have hwm : w5.heap.size ≠ w2.heap.size + 1 + 1 := by omega
        have hwm' : w2.heap.size + 1 + 1 ≠ w5.heap.size := by omega
        have HM5 := Lib.hid hm5
        have HND5 := Lib.hid hnd5
        have HLO5 := Lib.hid hlo5
        have XF := Lib.hid xf
        have X0 := Lib.hid x0
        have X1_ := Lib.hid x1
        have X2_ := Lib.hid x2
        have X3_ := Lib.hid x3
        clear hm5 hnd5 hlo5 hB5 xf q0 q1 q2 q3 hrt hS
        clear Y5
        go_upto_region 9 with fail
        refine wp_genG (fun W => PTx W0.heap.size W (w2.heap.size + 1 + 1) (agedCmdM q x).1 E f E' f' os5 E2 f2 E3 f3 ∧ Below W0.heap.size W0 W) ⟨?_, blw_⟩ ?_
        · first
          | (have zl5_ := zl5; exact PTx.over0 (l2 := wr.heap.size + 1) (by simp [go_sem, hzc, hzc2, X0.out]; rfl) (by simp [go_sem, hzc, hzc2, X1_.out]; rfl) (by simp [go_sem, hzc, hzc2, X2_.out]; rfl) (by simp [go_sem, hzc, hzc2, X3_.out]; rfl) (fun o => by simp [go_sem, XF.out o]) HM5.out (HO5.out.keep (fun b hb => by have h9 := HLO5.out b (List.mem_append_left _ (List.mem_append_left _ hb)); rw [heap_setCell_ne _ _ _ (by first | omega | (simp; done) | (simp; omega)), heap_setCell_ne _ _ _ (by first | omega | (simp; done) | (simp; omega)), heap_setCell_ne _ _ _ (by first | omega | (simp; done) | (simp; omega)), heap_setCell_ne _ _ _ (by first | omega | (simp; done) | (simp; omega))])) (HX5.out.keep (fun b hb => by have h9 := HLO5.out b (List.mem_append_left _ (List.mem_append_right _ hb)); rw [heap_setCell_ne _ _ _ (by first | omega | (simp; done) | (simp; omega)), heap_setCell_ne _ _ _ (by first | omega | (simp; done) | (simp; omega)), heap_setCell_ne _ _ _ (by first | omega | (simp; done) | (simp; omega)), heap_setCell_ne _ _ _ (by first | omega | (simp; done) | (simp; omega))])) (HY5.out.keep (fun b hb => by have h9 := HLO5.out b (List.mem_append_right _ hb); rw [heap_setCell_ne _ _ _ (by first | omega | (simp; done) | (simp; omega)), heap_setCell_ne _ _ _ (by first | omega | (simp; done) | (simp; omega)), heap_setCell_ne _ _ _ (by first | omega | (simp; done) | (simp; omega)), heap_setCell_ne _ _ _ (by first | omega | (simp; done) | (simp; omega))])) HND5.out (fun b hb => by have h9 := HLO5.out b hb; omega) hxl5 hyl5 (by omega) (by omega) (by omega))
          | exact (PTx.over0 X0.out X1_.out X2_.out X3_.out XF.out HM5.out HO5.out HX5.out HY5.out HND5.out HLO5.out hxl5 hyl5 (by omega) (by omega) (by omega)).below ((Below.refl _ _).alloc (Nat.le_refl _) _)
        clear hw5 HM5 HO5 HX5 HY5 HND5 HLO5 xf0 xf1 xf2 xf3 wf0 wf1 wf2 wf3 x0 x1 x2 x3 X0 X1_ X2_ X3_ XF Y sY
        rintro WS ⟨hQ5, Y⟩
        have sY := Y.size
        have x0 := hQ5.q0
        have x1 := hQ5.q1
        have x2 := hQ5.q2
        have x3 := hQ5.q3
        have hqf := hQ5.qf
        have xf0 := hqf 0
        have xf1 := hqf 1
        have xf2 := hqf 2
        have xf3 := hqf 3
        have hq5 := hQ5.lt
        have hrt5 := hQ5.opt.rt
        have HQ5 := Lib.hid hQ5
        clear hQ5
        rcases Classical.em (((k : Int) + 1) % every = 0) with ht | ht
        · have HT := Lib.hid (tick_yes (p := (agedCmdM q x).1) ht)
          go_wp2_with fail
          (with_reducible refine (specCollectYoung_any _ (agedCmdM q x).1 _ hrt5).mono ?_)
          rintro e7 w7 ⟨v7, rfl, ⟨F, g, F', g', os7, F2, g2, F3, g3, rfl, hm7, hO7, hX7, hY7, hnd7, hlo7, hxl7, hyl7⟩, hB7⟩
          have y0 := cell_below x0 hB7
          have y1 := cell_below x1 hB7
          have y2 := cell_below x2 hB7
          have y3 := cell_below x3 hB7
          have yf : ∀ o, w7.frozen? ⟨w2.heap.size + 1 + 1, o, none⟩ = false := fun o => ((bcell hB7).2.1 _ _ hq5).trans (hqf o)
          have yf0 := yf 0
          have yf1 := yf 1
          have yf2 := yf 2
          have yf3 := yf 3
          have hw7 : Below W0.heap.size W0 w7 := Y.trans (hB7.mono Y.size)
          have sw7 := hw7.size
          have zw7 : w2.heap.size + 1 + 1 < w7.heap.size := World.block_lt_of_cell? w7 _ y0
          have nw7 : w2.heap.size + 1 + 1 ≠ w7.heap.size := by omega
          have nw7' : w7.heap.size ≠ w2.heap.size + 1 + 1 := by omega
          have HQ7 := Lib.hid ((HQ5.out.below hB7).over1 hm7 hO7 hX7 hY7 hnd7 hlo7 hxl7 hyl7 Y.size hq5)
          have HN7 : Hid ((collectYoungM (agedCmdM q x).1).1 = runAgedN every l (k + 1)) := by unfold Hid; rw [HN.out, ← HR.out, HT.out]
          have HW7 := Lib.hid hw7
          clear hm7 hO7 hX7 hY7 hnd7 hlo7 yf x0 x1 x2 x3 hqf hrt5 hB7 Y
          go_wp2
          go_roundw
          case rel => exact ⟨k + 1, (collectYoungM (agedCmdM q x).1).1, F, g, F', g', os7, F2, g2, F3, g3, by omega, by go_num, HN7, HQ7.out.below ((Below.refl _ _).alloc (Nat.le_refl _) _), by have hw7 := HW7.out; exact blw_⟩
          case measure => simp [intOf]; omega
        · have HT := Lib.hid (tick_no (p := (agedCmdM q x).1) ht)
          have HN5 : Hid ((agedCmdM q x).1 = runAgedN every l (k + 1)) := by unfold Hid; rw [HN.out, ← HR.out, HT.out]
          go_wp2
          go_roundw
          case rel => exact ⟨k + 1, (agedCmdM q x).1, E, f, E', f', os5, E2, f2, E3, f3, by omega, by go_num, HN5, HQ5.out, Y⟩
          case measure => simp [intOf]; omega
    · have hke : k = l.length := by omega
      have hge : ¬ (k : Int) < (l.length : Int) := by omega
      have HM : Hid (runAgedM l every = q) := by unfold Hid; rw [HE.out, HR.out, hke]
      obtain ⟨r0, r1, r2, r3, rf⟩ := HG0.out _ Y
      have rf0 := rf 0
      have rf1 := rf 1
      have rf2 := rf 2
      have rf3 := rf 3
      clear hke HR rf
      have X := hW0.trans (Y.mono hW0.size)
      go_wp2_with fail
      refine bodyPost_ret (v := .agg #[.slice D q.store.cells.length e, .slice D' q.store.roots.length e', .slice D2 q.x.length e2, .slice D3 q.y.length e3]) (by simp [results, Try.results21, go_sem, r0, r1, r2, r3]) rfl ⟨_, rfl, ?_, blw_⟩
      rw [HM.out]
      exact ((((HQ.out.opt.setlt (by simp; omega) _).setlt (by simp; omega) _).setlt (by simp; omega) _).setlt (by simp; omega) _).lo_ (by omega)
end Go.Proofs.Ytmlgndeihfpfgaa
