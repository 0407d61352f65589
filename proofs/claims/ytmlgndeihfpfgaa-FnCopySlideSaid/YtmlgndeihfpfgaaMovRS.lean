/- RunCopy and RunSlide of the reference. -/
import Derived.Test.YtmlgndeihfpfgaaChecked
import Derived.Deep.RegionHeld3
import Derived.Deep.DeepCutAuto
import Derived.Test.YtmlgndeihfpfgaaGrMov
import Derived.Test.YtmlgndeihfpfgaaMovS
namespace Go.Proofs.Ytmlgndeihfpfgaa
open Go.RowKit
set_option maxRecDepth 100000
set_option linter.unusedSimpArgs false
set_option linter.unusedVariables false
theorem PHx.over0 {lo l2 : Nat} {w : World} {g : Nat} {q : HeapM} {B B' : Option Addr} {d d' : Nat} {os2 : List OCell} {v0 v1 : Value} (k0 : w.cell? ⟨g, 0, none⟩ = some v0) (k1 : w.cell? ⟨g, 1, none⟩ = some v1) (kf : ∀ o, w.frozen? ⟨g, o, none⟩ = false) (hm : os2.map (·.c) = q.cells) (ho : OHs w B d B' d' os2 q.roots) (hlo : ∀ b ∈ hblks B os2 B', l2 ≤ b) (hl2 : lo ≤ l2) (hlg : lo ≤ g) (hg : g < l2) :
    PHx lo ((w.setCell ⟨g, 0, none⟩ (.slice B q.cells.length d)).setCell ⟨g, 1, none⟩ (.slice B' q.roots.length d')) g q B d B' d' os2 := by
  have hk : ∀ b ∈ hblks B os2 B', b ≠ g := fun b hb e => by have := hlo b hb; omega
  have hlt : g < w.heap.size := World.block_lt_of_cell? w _ k0
  refine ⟨by simp [go_sem, k0, k1], by simp [go_sem, k0, k1], fun o => by simp [go_sem, kf o], hlg, by simpa using hlt, fun hc => by have := hlo g hc; omega, hm, ?_, fun b hb => Nat.le_trans hl2 (hlo b hb)⟩
  exact ho.keep fun b hb => by have := hk b hb; rw [heap_setCell_ne _ _ _ this, heap_setCell_ne _ _ _ this]
set_option maxHeartbeats 8000000 in
theorem specRunCopy_any (A : Option Addr) (l : List CmdM) (c : Nat) (limit : Int) (w : World) (hv0 : RO w A l) (hl : l.length ≤ 9223372036854775807) :
    Calls Try.prog 8 #[.slice A l.length c, .int .i64 limit] w fun e w' => ∃ v', e = .returned (.tuple #[v', .bool (runMoveM copyHeapM l limit).2]) ∧ OH w.heap.size w' v' (runMoveM copyHeapM l limit).1 ∧ Below w.heap.size w w' := by
  have HG0 : Hid (∀ W, Below ((w.alloc (.cells #[.slice none 0 0, .slice none 0 0] 29))).heap.size ((w.alloc (.cells #[.slice none 0 0, .slice none 0 0] 29))) W → (W.cell? ⟨w.heap.size, 0, none⟩ = some (.slice none 0 0) ∧ W.cell? ⟨w.heap.size, 1, none⟩ = some (.slice none 0 0) ∧ ∀ o, W.frozen? ⟨w.heap.size, o, none⟩ = false)) := fun W hW => ⟨cell_below (by simp [go_sem]) hW, cell_below (by simp [go_sem]) hW, fun o => ((bcell hW).2.1 _ _ (by simp)).trans (by simp [go_sem])⟩
  have hz0 : ((w.alloc (.cells #[.slice none 0 0, .slice none 0 0] 29))).heap.size = w.heap.size + 1 := by simp
  have hW0 : Below w.heap.size w ((w.alloc (.cells #[.slice none 0 0, .slice none 0 0] 29))) := blw_
  have hv := hv0.below hW0
  clear hv0
  cases hok : cmdsOk l
  · have HO := Lib.hid hok
    have HE := Lib.hid (runMove_bad (mv := copyHeapM) (l := l) (limit := limit) (by rw [hok]; rfl))
    clear hok
    go_enter Try.func8, Try.ntmps8; go_wp2_with fail; generalize ((w.alloc (.cells #[.slice none 0 0, .slice none 0 0] 29))) = W0 at *; (with_reducible refine (specCommandsValid_any A l c _ (hv.below blw_) hl).mono ?_); rw [HO.out]; rintro e w1 ⟨rfl, hB⟩; (have z_hB := Below.size hB); (try simp only [World.size_alloc, World.size_setCell, World.size_drew, World.heap_drewN] at z_hB); have Y : Below W0.heap.size W0 w1 := blw_; clear hB; have sY := Y.size
    obtain ⟨r0, r1, rf⟩ := HG0.out _ Y; have rf0 := rf 0; have rf1 := rf 1; clear rf
    go_wp2_with fail
    have X := hW0.trans (Y.mono hW0.size); refine bodyPost_ret (v := .tuple #[.agg #[.slice none 0 0, .slice none 0 0], .bool false]) (by simp [results, Try.results8, go_sem, r0, r1]) rfl ⟨_, by rw [HE.out], ?_, blw_⟩; rw [HE.out]; exact OH.zero
  have HO := Lib.hid hok
  cases hli : inB 1 limit 40
  · have HL := Lib.hid hli
    have HE := Lib.hid (runMove_bad (mv := copyHeapM) (l := l) (limit := limit) (by rw [hok, hli]; rfl))
    clear hok hli
    go_enter Try.func8, Try.ntmps8; go_wp2_with fail; generalize ((w.alloc (.cells #[.slice none 0 0, .slice none 0 0] 29))) = W0 at *; (with_reducible refine (specCommandsValid_any A l c _ (hv.below blw_) hl).mono ?_); rw [HO.out]; rintro e w1 ⟨rfl, hB⟩; (have z_hB := Below.size hB); (try simp only [World.size_alloc, World.size_setCell, World.size_drew, World.heap_drewN] at z_hB); have Y : Below W0.heap.size W0 w1 := blw_; clear hB; have sY := Y.size
    obtain ⟨r0, r1, rf⟩ := HG0.out _ Y; have rf0 := rf 0; have rf1 := rf 1; clear rf
    go_wp2_with fail
    ((with_reducible refine (l1In_any limit 1 40 _).mono ?_); rw [HL.out]; rintro e w8 ⟨rfl, rfl⟩)
    go_wp2_with fail
    have X := hW0.trans (Y.mono hW0.size); refine bodyPost_ret (v := .tuple #[.agg #[.slice none 0 0, .slice none 0 0], .bool false]) (by simp [results, Try.results8, go_sem, r0, r1]) rfl ⟨_, by rw [HE.out], ?_, blw_⟩; rw [HE.out]; exact OH.zero
  have HL := Lib.hid hli
  have HE := Lib.hid (runMove_ok (mv := copyHeapM) hok hli)
  have hl40 : l.length ≤ 40 := by unfold cmdsOk at hok; simp only [Bool.and_eq_true, decide_eq_true_eq] at hok; exact hok.1
  clear hok hli
  go_enter Try.func8, Try.ntmps8; go_wp2_with fail; generalize ((w.alloc (.cells #[.slice none 0 0, .slice none 0 0] 29))) = W0 at *; (with_reducible refine (specCommandsValid_any A l c _ (hv.below blw_) hl).mono ?_); rw [HO.out]; rintro e w1 ⟨rfl, hB⟩; (have z_hB := Below.size hB); (try simp only [World.size_alloc, World.size_setCell, World.size_drew, World.heap_drewN] at z_hB); have Y : Below W0.heap.size W0 w1 := blw_; clear hB; have sY := Y.size
  go_wp2_with fail
  ((with_reducible refine (l1In_any limit 1 40 _).mono ?_); rw [HL.out]; rintro e w8 ⟨rfl, rfl⟩)
  go_wp2_with fail
  (with_reducible refine (specEmptyHeap_any _).mono ?_)
  rintro e w2 ⟨v2, rfl, ⟨B, d, B', d', os, rfl, hm, hO, hlo⟩, hB2⟩
  have Y2 : Below W0.heap.size W0 w2 := blw_
  have sY2 := Y2.size
  have hlo2 : ∀ b ∈ hblks B os B', W0.heap.size ≤ b := fun b hb => by have h7 := hlo b hb; (try simp only [World.size_alloc, World.size_setCell, World.size_drew, World.heap_drewN] at h7); omega
  have HP := Lib.hid (PHx.mk_ (h := emptyM) (lo := W0.heap.size) (w := w2) (c := d) (c' := d') hm hO hlo2 sY2 29)
  have HY2 := Lib.hid (Y2.alloc sY2 (.cells #[.slice B emptyM.cells.length d, .slice B' emptyM.roots.length d'] 29))
  clear hm hO hlo hlo2 hB2 Y
  go_wp2
  go_loopw [7] (fun i wr => ∃ (k : Nat) (hs : HeapM) (D : Option Addr) (e : Nat) (D' : Option Addr) (e' : Nat) (os2 : List OCell), k ≤ l.length ∧ i = .int .i64 k ∧ Hid (runMoveM copyHeapM l limit = moveFrom copyHeapM limit hs (l.drop k)) ∧ PHx W0.heap.size wr w2.heap.size hs D e D' e' os2 ∧ Below W0.heap.size W0 wr) (fun i _ => l.length - (intOf i).toNat)
  case atStart => exact ⟨0, emptyM, B, d, B', d', os, by omega, rfl, HE, HP.out, HY2.out⟩
  case round =>
    clear HP HY2 Y2
    obtain ⟨k, hs, D, e, D', e', os2, hk, rfl, HR, hQ, Y⟩ := hrel
    have sY := Y.size
    have hqz := hQ.lt
    have q0 := hQ.q0
    have q1 := hQ.q1
    have HQ := Lib.hid hQ
    clear hQ
    by_cases hlt : k < l.length
    · obtain ⟨b, o, x, rfl, gx, c1, c2, c3, c4, hb⟩ := (hv.below Y).at_ hlt
      have HGX := Lib.hid gx
      have hlt' : (k : Int) < (l.length : Int) := by omega
      have HCM : Hid (∀ W, Below W0.heap.size W0 W → W.cell? ⟨b, o + k * 4, none⟩ = some (.int .i64 x.op) ∧ W.cell? ⟨b, o + k * 4 + 1, none⟩ = some (.int .i64 x.a) ∧ W.cell? ⟨b, o + k * 4 + 2, none⟩ = some (.int .i64 x.b) ∧ W.cell? ⟨b, o + k * 4 + 3, none⟩ = some (.int .i64 x.c)) := fun W hW => by
        obtain ⟨b9, o9, x9, e9, g9, d1, d2, d3, d4, -⟩ := (hv.below hW).at_ hlt
        injection e9 with e9; injection e9 with e91 e92; subst e91; subst e92
        rw [gx] at g9; injection g9 with g9; subst g9
        exact ⟨d1, d2, d3, d4⟩
      clear gx
      have HP := HQ
      have p0 := q0
      have p1 := q1
      clear q0 q1
      rcases Classical.em (x.op = 1 ∧ limit ≤ (hs.cells.length : Int)) with hc | hc
      · have HC := Lib.hid hc
        clear hc
        have hop := HC.out.1
        have hge := HC.out.2
        go_wp2_with fail
        clear hop hge c1 c2 c3 c4
        have hrt := HP.out.oh.rh
        have hqf := HP.out.qf
        have hgl := HP.out.lt
        have sYs := Y.size
        (with_reducible refine (specCopyHeap_any _ hs _ hrt).mono ?_)
        rintro e5 w5 ⟨v5, rfl, ⟨G, g, G', g', os5, rfl, hm5, hO5, hlo5⟩, hB5⟩
        have x0 := cell_below p0 hB5
        have x1 := cell_below p1 hB5
        have xf : ∀ o, w5.frozen? ⟨w2.heap.size, o, none⟩ = false := fun o => ((bcell hB5).2.1 _ _ hgl).trans (hqf o)
        have xf0 := xf 0
        have xf1 := xf 1
        have hw5 : Below W0.heap.size W0 w5 := Y.trans (hB5.mono sYs)
        have HQ5 := Lib.hid ((HP.out.below hB5).over1 hm5 hO5 hlo5 sYs hgl)
        have HB6 := Lib.hid ((hw5.setCell (p := ⟨w2.heap.size, 0, none⟩) sY2 (.slice G (copyHeapM hs).cells.length g)).setCell (p := ⟨w2.heap.size, 1, none⟩) sY2 (.slice G' (copyHeapM hs).roots.length g'))
        clear hm5 hO5 hlo5 xf hB5 Y
        go_upto_region 9 with fail
        refine wp_genM (fun W => PHx W0.heap.size W w2.heap.size (copyHeapM hs) G g G' g' os5 ∧ Below W0.heap.size W0 W) ⟨HQ5.out, HB6.out⟩ ?_
        clear HP HQ HQ5 HB6 hw5 x0 x1 xf0 xf1 p0 p1 hrt hqf hgl sYs sY
        rintro WS ⟨hP, Y⟩
        have HP := Lib.hid hP
        clear hP
        have p0 := HP.out.q0
        have p1 := HP.out.q1
        rcases Classical.em (limit ≤ (((copyHeapM hs).cells.length : Nat) : Int)) with hl2 | hl2
        · have HM : Hid (runMoveM copyHeapM l limit = (copyHeapM hs, false)) := by unfold Hid; rw [HR.out, moveFrom_stop HGX.out HC.out hl2]
          have sYs := Y.size
          obtain ⟨r0, r1, rf⟩ := HG0.out _ Y; have rf0 := rf 0; have rf1 := rf 1; clear rf
          have X := hW0.trans (Y.mono hW0.size)
          go_wp2_with fail
          refine bodyPost_ret (v := .tuple #[.agg #[.slice G (copyHeapM hs).cells.length g, .slice G' (copyHeapM hs).roots.length g'], .bool false]) (by simp [results, Try.results8, go_sem, r0, r1]) rfl ⟨_, by rw [HM.out], ?_, blw_⟩
          rw [HM.out]
          exact OH.lo_ (lo := w.heap.size + 1) (OH.setlt (OH.setlt (lo := w.heap.size + 1) ⟨G, g, G', g', os5, rfl, HP.out.map, HP.out.own, fun b hb => by have := HP.out.los b hb; omega⟩ (by simp) _) (by simp) _) (by omega)
        · have HS := Lib.hid (moveFrom_move (mv := copyHeapM) HGX.out HC.out hl2)
          obtain ⟨hs2, hhs2⟩ : ∃ hs2, hs2 = copyHeapM hs := ⟨_, rfl⟩
          rw [← hhs2] at HS HP p0 p1 hl2
          clear hhs2
          go_upto_region 11 with fail
          clear hl2
          have sYs := Y.size
          have hqz := HP.out.lt
          have qf := HP.out.qf
          have hrt := HP.out.oh.rh
          have hzc : WS.heap.size ≠ w2.heap.size := by omega
          have hzc2 : w2.heap.size ≠ WS.heap.size := by omega
          have hS : ∀ W, Below WS.heap.size WS W → W.cell? ⟨w2.heap.size, 0, none⟩ = some (.slice G hs2.cells.length g) ∧ W.cell? ⟨w2.heap.size, 1, none⟩ = some (.slice G' hs2.roots.length g') ∧ W.cell? ⟨b, o + k * 4, none⟩ = some (.int .i64 x.op) ∧ W.cell? ⟨b, o + k * 4 + 1, none⟩ = some (.int .i64 x.a) ∧ W.cell? ⟨b, o + k * 4 + 2, none⟩ = some (.int .i64 x.b) ∧ W.cell? ⟨b, o + k * 4 + 3, none⟩ = some (.int .i64 x.c) := fun W hW => by
            obtain ⟨d1, d2, d3, d4⟩ := HCM.out W (Y.trans (hW.mono sYs))
            exact ⟨cell_below p0 hW, cell_below p1 hW, d1, d2, d3, d4⟩
          go_region_held3 (fun W => W.cell? ⟨w2.heap.size, 0, none⟩ = some (.slice G hs2.cells.length g) ∧ W.cell? ⟨w2.heap.size, 1, none⟩ = some (.slice G' hs2.roots.length g') ∧ W.cell? ⟨b, o + k * 4, none⟩ = some (.int .i64 x.op) ∧ W.cell? ⟨b, o + k * 4 + 1, none⟩ = some (.int .i64 x.a) ∧ W.cell? ⟨b, o + k * 4 + 2, none⟩ = some (.int .i64 x.b) ∧ W.cell? ⟨b, o + k * 4 + 3, none⟩ = some (.int .i64 x.c))
            (first | with_reducible exact hS _ blw_)
            (first
              | (go_at_call 33; (with_reducible refine (specStepHeap_any _ hs2 x _ (hrt.below blw_)).mono ?_); rintro e5 w5 ⟨v5, rfl, ⟨E, f, E', f', os6, rfl, hm5, hO5, hlo5⟩, hB5⟩; (have z_hB5 := Below.size hB5); (try simp only [World.size_alloc, World.size_setCell, World.size_drew, World.heap_drewN] at z_hB5); obtain ⟨hbc, hbf, -⟩ := bcell hB5; have Y5 : Below WS.heap.size WS w5 := blw_; (first | (have zl5 : WS.heap.size < w5.heap.size := Nat.lt_of_lt_of_le (Nat.lt_succ_self _) z_hB5) | skip); have HO5 := Lib.hid hO5; clear hO5))
          all_goals
            have x0 := cell_below p0 Y5
            have x1 := cell_below p1 Y5
            have xf : ∀ o, w5.frozen? ⟨w2.heap.size, o, none⟩ = false := fun o => ((bcell Y5).2.1 _ _ hqz).trans (qf o)
            have xf0 := xf 0
            have xf1 := xf 1
            have wf0 := qf 0
            have wf1 := qf 1
            have hx5 : w2.heap.size < w5.heap.size := World.block_lt_of_cell? w5 _ x0
            try simp only [World.size_alloc, World.size_setCell, World.size_drew, World.heap_drewN, heap_drew_] at hlo5
            have hw5 : Below W0.heap.size W0 w5 := Y.trans (Y5.mono sYs)
            have hwm : w5.heap.size ≠ w2.heap.size := by omega
            have hwm' : w2.heap.size ≠ w5.heap.size := by omega
            have HM5 := Lib.hid hm5
            have HLO5 := Lib.hid hlo5
            have XF := Lib.hid xf
            have X0 := Lib.hid x0
            have X1_ := Lib.hid x1
            clear hm5 hlo5 hB5 xf p0 p1 hrt hS Y5
            go_upto_region 6 with fail
            refine wp_genM (fun W => PHx W0.heap.size W w2.heap.size (stepM hs2 x).1 E f E' f' os6 ∧ Below W0.heap.size W0 W) ⟨?_, blw_⟩ ?_
            · first
              | (have zl5_ := zl5; exact PHx.over0 (l2 := WS.heap.size + 1) (by simp [go_sem, hzc, hzc2, X0.out]; rfl) (by simp [go_sem, hzc, hzc2, X1_.out]; rfl) (fun o => by simp [go_sem, XF.out o]) HM5.out (HO5.out.keep (fun b hb => by have h9 := HLO5.out b hb; rw [heap_setCell_ne _ _ _ (by first | omega | (simp; done) | (simp; omega)), heap_setCell_ne _ _ _ (by first | omega | (simp; done) | (simp; omega))])) (fun b hb => by have h9 := HLO5.out b hb; omega) (by omega) (by omega) (by omega))
              | exact (PHx.over0 X0.out X1_.out XF.out HM5.out HO5.out HLO5.out (by omega) (by omega) (by omega)).below ((Below.refl _ _).alloc (Nat.le_refl _) _)
            clear hw5 HM5 HO5 HLO5 xf0 xf1 wf0 wf1 x0 x1 X0 X1_ XF Y sYs
            rintro WT ⟨hQ6, Y⟩
            have HQ6 := Lib.hid hQ6
            clear hQ6
            go_wp2
            go_roundw
            case rel => exact ⟨k + 1, (stepM hs2 x).1, E, f, E', f', os6, by omega, by go_num, by unfold Hid; rw [HR.out, HS.out], HQ6.out, Y⟩
            case measure => simp [intOf]; omega
      · have HS := Lib.hid (moveFrom_go (mv := copyHeapM) HGX.out hc)
        rcases Classical.em (x.op = 1) with hop | hop
        · have hge : ¬ limit ≤ (hs.cells.length : Int) := fun h9 => hc ⟨hop, h9⟩
          clear hc
          go_upto_region 11 with fail
          clear hop hge c1 c2 c3 c4
          have sYs := Y.size
          have hqz := HP.out.lt
          have qf := HP.out.qf
          have hrt := HP.out.oh.rh
          have hzc : wr.heap.size ≠ w2.heap.size := by omega
          have hzc2 : w2.heap.size ≠ wr.heap.size := by omega
          have hS : ∀ W, Below wr.heap.size wr W → W.cell? ⟨w2.heap.size, 0, none⟩ = some (.slice D hs.cells.length e) ∧ W.cell? ⟨w2.heap.size, 1, none⟩ = some (.slice D' hs.roots.length e') ∧ W.cell? ⟨b, o + k * 4, none⟩ = some (.int .i64 x.op) ∧ W.cell? ⟨b, o + k * 4 + 1, none⟩ = some (.int .i64 x.a) ∧ W.cell? ⟨b, o + k * 4 + 2, none⟩ = some (.int .i64 x.b) ∧ W.cell? ⟨b, o + k * 4 + 3, none⟩ = some (.int .i64 x.c) := fun W hW => by
            obtain ⟨d1, d2, d3, d4⟩ := HCM.out W (Y.trans (hW.mono sYs))
            exact ⟨cell_below p0 hW, cell_below p1 hW, d1, d2, d3, d4⟩
          go_region_held3 (fun W => W.cell? ⟨w2.heap.size, 0, none⟩ = some (.slice D hs.cells.length e) ∧ W.cell? ⟨w2.heap.size, 1, none⟩ = some (.slice D' hs.roots.length e') ∧ W.cell? ⟨b, o + k * 4, none⟩ = some (.int .i64 x.op) ∧ W.cell? ⟨b, o + k * 4 + 1, none⟩ = some (.int .i64 x.a) ∧ W.cell? ⟨b, o + k * 4 + 2, none⟩ = some (.int .i64 x.b) ∧ W.cell? ⟨b, o + k * 4 + 3, none⟩ = some (.int .i64 x.c))
            (first | with_reducible exact hS _ blw_)
            (first
              | (go_at_call 33; (with_reducible refine (specStepHeap_any _ hs x _ (hrt.below blw_)).mono ?_); rintro e5 w5 ⟨v5, rfl, ⟨E, f, E', f', os6, rfl, hm5, hO5, hlo5⟩, hB5⟩; (have z_hB5 := Below.size hB5); (try simp only [World.size_alloc, World.size_setCell, World.size_drew, World.heap_drewN] at z_hB5); obtain ⟨hbc, hbf, -⟩ := bcell hB5; have Y5 : Below wr.heap.size wr w5 := blw_; (first | (have zl5 : wr.heap.size < w5.heap.size := Nat.lt_of_lt_of_le (Nat.lt_succ_self _) z_hB5) | skip); have HO5 := Lib.hid hO5; clear hO5))
          all_goals
            have x0 := cell_below p0 Y5
            have x1 := cell_below p1 Y5
            have xf : ∀ o, w5.frozen? ⟨w2.heap.size, o, none⟩ = false := fun o => ((bcell Y5).2.1 _ _ hqz).trans (qf o)
            have xf0 := xf 0
            have xf1 := xf 1
            have wf0 := qf 0
            have wf1 := qf 1
            have hx5 : w2.heap.size < w5.heap.size := World.block_lt_of_cell? w5 _ x0
            try simp only [World.size_alloc, World.size_setCell, World.size_drew, World.heap_drewN, heap_drew_] at hlo5
            have hw5 : Below W0.heap.size W0 w5 := Y.trans (Y5.mono sYs)
            have hwm : w5.heap.size ≠ w2.heap.size := by omega
            have hwm' : w2.heap.size ≠ w5.heap.size := by omega
            have HM5 := Lib.hid hm5
            have HLO5 := Lib.hid hlo5
            have XF := Lib.hid xf
            have X0 := Lib.hid x0
            have X1_ := Lib.hid x1
            clear hm5 hlo5 hB5 xf p0 p1 hrt hS Y5
            go_upto_region 6 with fail
            refine wp_genM (fun W => PHx W0.heap.size W w2.heap.size (stepM hs x).1 E f E' f' os6 ∧ Below W0.heap.size W0 W) ⟨?_, blw_⟩ ?_
            · first
              | (have zl5_ := zl5; exact PHx.over0 (l2 := wr.heap.size + 1) (by simp [go_sem, hzc, hzc2, X0.out]; rfl) (by simp [go_sem, hzc, hzc2, X1_.out]; rfl) (fun o => by simp [go_sem, XF.out o]) HM5.out (HO5.out.keep (fun b hb => by have h9 := HLO5.out b hb; rw [heap_setCell_ne _ _ _ (by first | omega | (simp; done) | (simp; omega)), heap_setCell_ne _ _ _ (by first | omega | (simp; done) | (simp; omega))])) (fun b hb => by have h9 := HLO5.out b hb; omega) (by omega) (by omega) (by omega))
              | exact (PHx.over0 X0.out X1_.out XF.out HM5.out HO5.out HLO5.out (by omega) (by omega) (by omega)).below ((Below.refl _ _).alloc (Nat.le_refl _) _)
            clear hw5 HM5 HO5 HLO5 xf0 xf1 wf0 wf1 x0 x1 X0 X1_ XF Y sYs
            rintro WT ⟨hQ6, Y⟩
            have HQ6 := Lib.hid hQ6
            clear hQ6
            go_wp2
            go_roundw
            case rel => exact ⟨k + 1, (stepM hs x).1, E, f, E', f', os6, by omega, by go_num, by unfold Hid; rw [HR.out, HS.out], HQ6.out, Y⟩
            case measure => simp [intOf]; omega
        · clear hc
          go_upto_region 11 with fail
          clear hop c1 c2 c3 c4
          have sYs := Y.size
          have hqz := HP.out.lt
          have qf := HP.out.qf
          have hrt := HP.out.oh.rh
          have hzc : wr.heap.size ≠ w2.heap.size := by omega
          have hzc2 : w2.heap.size ≠ wr.heap.size := by omega
          have hS : ∀ W, Below wr.heap.size wr W → W.cell? ⟨w2.heap.size, 0, none⟩ = some (.slice D hs.cells.length e) ∧ W.cell? ⟨w2.heap.size, 1, none⟩ = some (.slice D' hs.roots.length e') ∧ W.cell? ⟨b, o + k * 4, none⟩ = some (.int .i64 x.op) ∧ W.cell? ⟨b, o + k * 4 + 1, none⟩ = some (.int .i64 x.a) ∧ W.cell? ⟨b, o + k * 4 + 2, none⟩ = some (.int .i64 x.b) ∧ W.cell? ⟨b, o + k * 4 + 3, none⟩ = some (.int .i64 x.c) := fun W hW => by
            obtain ⟨d1, d2, d3, d4⟩ := HCM.out W (Y.trans (hW.mono sYs))
            exact ⟨cell_below p0 hW, cell_below p1 hW, d1, d2, d3, d4⟩
          go_region_held3 (fun W => W.cell? ⟨w2.heap.size, 0, none⟩ = some (.slice D hs.cells.length e) ∧ W.cell? ⟨w2.heap.size, 1, none⟩ = some (.slice D' hs.roots.length e') ∧ W.cell? ⟨b, o + k * 4, none⟩ = some (.int .i64 x.op) ∧ W.cell? ⟨b, o + k * 4 + 1, none⟩ = some (.int .i64 x.a) ∧ W.cell? ⟨b, o + k * 4 + 2, none⟩ = some (.int .i64 x.b) ∧ W.cell? ⟨b, o + k * 4 + 3, none⟩ = some (.int .i64 x.c))
            (first | with_reducible exact hS _ blw_)
            (first
              | (go_at_call 33; (with_reducible refine (specStepHeap_any _ hs x _ (hrt.below blw_)).mono ?_); rintro e5 w5 ⟨v5, rfl, ⟨E, f, E', f', os6, rfl, hm5, hO5, hlo5⟩, hB5⟩; (have z_hB5 := Below.size hB5); (try simp only [World.size_alloc, World.size_setCell, World.size_drew, World.heap_drewN] at z_hB5); obtain ⟨hbc, hbf, -⟩ := bcell hB5; have Y5 : Below wr.heap.size wr w5 := blw_; (first | (have zl5 : wr.heap.size < w5.heap.size := Nat.lt_of_lt_of_le (Nat.lt_succ_self _) z_hB5) | skip); have HO5 := Lib.hid hO5; clear hO5))
          all_goals
            have x0 := cell_below p0 Y5
            have x1 := cell_below p1 Y5
            have xf : ∀ o, w5.frozen? ⟨w2.heap.size, o, none⟩ = false := fun o => ((bcell Y5).2.1 _ _ hqz).trans (qf o)
            have xf0 := xf 0
            have xf1 := xf 1
            have wf0 := qf 0
            have wf1 := qf 1
            have hx5 : w2.heap.size < w5.heap.size := World.block_lt_of_cell? w5 _ x0
            try simp only [World.size_alloc, World.size_setCell, World.size_drew, World.heap_drewN, heap_drew_] at hlo5
            have hw5 : Below W0.heap.size W0 w5 := Y.trans (Y5.mono sYs)
            have hwm : w5.heap.size ≠ w2.heap.size := by omega
            have hwm' : w2.heap.size ≠ w5.heap.size := by omega
            have HM5 := Lib.hid hm5
            have HLO5 := Lib.hid hlo5
            have XF := Lib.hid xf
            have X0 := Lib.hid x0
            have X1_ := Lib.hid x1
            clear hm5 hlo5 hB5 xf p0 p1 hrt hS Y5
            go_upto_region 6 with fail
            refine wp_genM (fun W => PHx W0.heap.size W w2.heap.size (stepM hs x).1 E f E' f' os6 ∧ Below W0.heap.size W0 W) ⟨?_, blw_⟩ ?_
            · first
              | (have zl5_ := zl5; exact PHx.over0 (l2 := wr.heap.size + 1) (by simp [go_sem, hzc, hzc2, X0.out]; rfl) (by simp [go_sem, hzc, hzc2, X1_.out]; rfl) (fun o => by simp [go_sem, XF.out o]) HM5.out (HO5.out.keep (fun b hb => by have h9 := HLO5.out b hb; rw [heap_setCell_ne _ _ _ (by first | omega | (simp; done) | (simp; omega)), heap_setCell_ne _ _ _ (by first | omega | (simp; done) | (simp; omega))])) (fun b hb => by have h9 := HLO5.out b hb; omega) (by omega) (by omega) (by omega))
              | exact (PHx.over0 X0.out X1_.out XF.out HM5.out HO5.out HLO5.out (by omega) (by omega) (by omega)).below ((Below.refl _ _).alloc (Nat.le_refl _) _)
            clear hw5 HM5 HO5 HLO5 xf0 xf1 wf0 wf1 x0 x1 X0 X1_ XF Y sYs
            rintro WT ⟨hQ6, Y⟩
            have HQ6 := Lib.hid hQ6
            clear hQ6
            go_wp2
            go_roundw
            case rel => exact ⟨k + 1, (stepM hs x).1, E, f, E', f', os6, by omega, by go_num, by unfold Hid; rw [HR.out, HS.out], HQ6.out, Y⟩
            case measure => simp [intOf]; omega
    · have hke : l.length ≤ k := by omega
      have hge : ¬ (k : Int) < (l.length : Int) := by omega
      have HM : Hid (runMoveM copyHeapM l limit = (hs, true)) := by unfold Hid; rw [HR.out, moveFrom_end hke]
      obtain ⟨r0, r1, rf⟩ := HG0.out _ Y; have rf0 := rf 0; have rf1 := rf 1; clear rf
      have X := hW0.trans (Y.mono hW0.size)
      clear hke HR
      go_wp2_with fail
      refine bodyPost_ret (v := .tuple #[.agg #[.slice D hs.cells.length e, .slice D' hs.roots.length e'], .bool true]) (by simp [results, Try.results8, go_sem, r0, r1]) rfl ⟨_, by rw [HM.out], ?_, blw_⟩
      rw [HM.out]
      exact OH.lo_ (lo := w.heap.size + 1) (OH.setlt (OH.setlt (lo := w.heap.size + 1) ⟨D, e, D', e', os2, rfl, HQ.out.map, HQ.out.own, fun b hb => by have := HQ.out.los b hb; omega⟩ (by simp) _) (by simp) _) (by omega)
end Go.Proofs.Ytmlgndeihfpfgaa
