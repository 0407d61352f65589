/- RunPaint of the reference returns runPaintM, in new memory. -/
import Derived.Test.YtopbngfghpgbnaaChecked
import Derived.Deep.DeepCutAuto
import Derived.Deep.RegionHeld3
import Derived.Test.YtopbngfghpgbnaaRunP
import Derived.Test.YtopbngfghpgbnaaPaintCS
import Derived.Test.YtopbngfghpgbnaaPaintFinS
namespace Go.Proofs.Ytopbngfghpgbnaa
open Go.RowKit
set_option maxRecDepth 100000
set_option linter.unusedSimpArgs false
set_option linter.unusedVariables false
theorem finM_ok {p : PaintM} (h : paintM p = true) : paintFinishM p = finishP p := by unfold paintFinishM; rw [if_pos h]
theorem staM_ok {p : PaintM} (h : paintM p = true) : paintStartM p = startP p := by unfold paintStartM; rw [if_pos h]
theorem stpM_ok {p : PaintM} (h : paintM p = true) : paintStepM p = stepP p := by unfold paintStepM; rw [if_pos h]
theorem script_len {s : List Int} (h : inB 1 (s.length : Int) 40 = false) : scriptOk s = false := by
  have h2 := inB_false.1 h
  unfold scriptOk
  rcases Classical.em (1 ≤ s.length) with h3 | h3
  · have : ¬ s.length ≤ 40 := by omega
    simp [this]
  · simp [h3]
theorem script_all {s : List Int} (h : inB 1 (s.length : Int) 40 = true) (ha : s.all (fun n => inB (-1) n 5) = true) : scriptOk s = true := by
  have h2 := inB_iff.1 h
  unfold scriptOk
  rw [ha]
  simp
  omega
theorem script_bad {s : List Int} {n : Int} (hn : n ∈ s) (h : inB (-1) n 5 = false) : scriptOk s = false := by
  unfold scriptOk
  rw [Bool.and_eq_false_iff, Bool.and_eq_false_iff]
  exact .inr (.inr (List.all_eq_false.2 ⟨n, hn, by simp [h]⟩))
set_option maxHeartbeats 8000000 in
theorem specRunPaint_any (A : Option Addr) (l : List CmdM) (c : Nat) (A2 : Option Addr) (s : List Int) (c2 : Nat) (w : World) (hv0 : RO w A l) (hl : l.length ≤ 9223372036854775807) (hs0 : RF fi w A2 s) (hsl : s.length ≤ 9223372036854775807) :
    Calls Try.prog 39 #[.slice A l.length c, .slice A2 s.length c2] w fun e w' => ∃ v', e = .returned v' ∧ OH w.heap.size w' v' (runPaintM l s) ∧ Below w.heap.size w w' := by
  have HG0 : Hid (∀ W, Below ((w.alloc (.cells #[.slice none 0 0, .slice none 0 0] 26))).heap.size ((w.alloc (.cells #[.slice none 0 0, .slice none 0 0] 26))) W → (W.cell? ⟨w.heap.size, 0, none⟩ = some (.slice none 0 0) ∧ W.cell? ⟨w.heap.size, 1, none⟩ = some (.slice none 0 0) ∧ ∀ o, W.frozen? ⟨w.heap.size, o, none⟩ = false)) := fun W hW => ⟨cell_below (by simp [go_sem]) hW, cell_below (by simp [go_sem]) hW, fun o => ((bcell hW).2.1 _ _ (by simp)).trans (by simp [go_sem])⟩
  have hz0 : ((w.alloc (.cells #[.slice none 0 0, .slice none 0 0] 26))).heap.size = w.heap.size + 1 := by simp
  have hW0 : Below w.heap.size w ((w.alloc (.cells #[.slice none 0 0, .slice none 0 0] 26))) := blw_
  have hv := hv0.below hW0
  have hs := hs0.below hW0
  clear hv0 hs0
  cases hok : cmdsOk l
  · have HO := Lib.hid hok
    have HE := Lib.hid (runPaint_bad (l := l) (s := s) (by rw [hok]; rfl))
    clear hok
    go_enter Try.func39, Try.ntmps39; go_wp2_with fail; generalize ((w.alloc (.cells #[.slice none 0 0, .slice none 0 0] 26))) = W0 at *; (with_reducible refine (specCommandsValid_any A l c _ (hv.below blw_) hl).mono ?_); rw [HO.out]; rintro e w1 ⟨rfl, hB⟩; (have z_hB := Below.size hB); (try simp only [World.size_alloc, World.size_setCell, World.size_drew, World.heap_drewN] at z_hB); have Y : Below W0.heap.size W0 w1 := blw_; clear hB; have sY := Y.size
    obtain ⟨r0, r1, rf⟩ := HG0.out _ Y; have rf0 := rf 0; have rf1 := rf 1; clear rf
    go_wp2_with fail
    have X := hW0.trans (Y.mono hW0.size); refine bodyPost_ret (v := .agg #[.slice none 0 0, .slice none 0 0]) (by simp [results, Try.results39, go_sem, r0, r1]) rfl ⟨_, rfl, ?_, blw_⟩; rw [HE.out]; exact OH.zero
  have HO := Lib.hid hok
  cases hli : inB 1 (s.length : Int) 40
  · have HI := Lib.hid hli
    have HE := Lib.hid (runPaint_bad (l := l) (s := s) (by rw [hok, script_len hli]; rfl))
    clear hok hli
    go_enter Try.func39, Try.ntmps39; go_wp2_with fail; generalize ((w.alloc (.cells #[.slice none 0 0, .slice none 0 0] 26))) = W0 at *; (with_reducible refine (specCommandsValid_any A l c _ (hv.below blw_) hl).mono ?_); rw [HO.out]; rintro e w1 ⟨rfl, hB⟩; (have z_hB := Below.size hB); (try simp only [World.size_alloc, World.size_setCell, World.size_drew, World.heap_drewN] at z_hB); have Y : Below W0.heap.size W0 w1 := blw_; clear hB; have sY := Y.size
    obtain ⟨r0, r1, rf⟩ := HG0.out _ Y; have rf0 := rf 0; have rf1 := rf 1; clear rf
    go_wp2_with fail
    ((with_reducible refine (l1In_any (s.length : Int) 1 40 _).mono ?_); rw [HI.out]; rintro e w8 ⟨rfl, rfl⟩)
    go_wp2_with fail
    have X := hW0.trans (Y.mono hW0.size); refine bodyPost_ret (v := .agg #[.slice none 0 0, .slice none 0 0]) (by simp [results, Try.results39, go_sem, r0, r1]) rfl ⟨_, rfl, ?_, blw_⟩; rw [HE.out]; exact OH.zero
  have HI := Lib.hid hli
  have HOK := Lib.hid hok
  have hl40 : l.length ≤ 40 := by unfold cmdsOk at hok; simp only [Bool.and_eq_true, decide_eq_true_eq] at hok; exact hok.1
  obtain ⟨hs1a, hs1b⟩ := inB_iff.1 hli
  have HCO : Hid (∀ k x, l[k]? = some x → cmdOk x = true) := fun k x hx => by unfold cmdsOk at hok; simp only [Bool.and_eq_true] at hok; exact List.all_eq_true.1 hok.2 x (List.mem_of_getElem? hx)
  clear hok hli
  go_enter Try.func39, Try.ntmps39; go_wp2_with fail; generalize ((w.alloc (.cells #[.slice none 0 0, .slice none 0 0] 26))) = W0 at *; (with_reducible refine (specCommandsValid_any A l c _ (hv.below blw_) hl).mono ?_); rw [HO.out]; rintro e w1 ⟨rfl, hB⟩; (have z_hB := Below.size hB); (try simp only [World.size_alloc, World.size_setCell, World.size_drew, World.heap_drewN] at z_hB); have Y : Below W0.heap.size W0 w1 := blw_; clear hB; have sY := Y.size
  go_wp2_with fail
  ((with_reducible refine (l1In_any (s.length : Int) 1 40 _).mono ?_); rw [HI.out]; rintro e w8 ⟨rfl, rfl⟩)
  go_wp2
  go_loopw [5] (fun i wr => ∃ (k : Nat), k ≤ s.length ∧ i = .int .i64 k ∧ Hid ((s.take k).all (fun n => inB (-1) n 5) = true) ∧ Below W0.heap.size W0 wr) (fun i _ => s.length - (intOf i).toNat)
  case atStart => exact ⟨0, by omega, rfl, by unfold Hid; simp, Y⟩
  case round =>
    clear Y sY
    obtain ⟨k, hk, rfl, HA, Y⟩ := hrel
    have sY := Y.size
    by_cases hlt : k < s.length
    · obtain ⟨b, o, n, rfl, gn, m, hb⟩ := (hs.below Y).at_ hlt
      have m2 : wr.cell? ⟨b, o + k, none⟩ = some (.int .i64 n) := m
      have HN : Hid ((s.take (k + 1)).all (fun n => inB (-1) n 5) = inB (-1) n 5) := by unfold Hid; rw [take_snoc_of gn, List.all_append, HA.out]; simp
      have HM := Lib.hid (List.mem_of_getElem? gn)
      clear m gn
      rcases bool_ft (inB (-1) n 5) with hb5 | hb5
      · have HB5 := Lib.hid hb5
        have HE := Lib.hid (runPaint_bad (l := l) (s := s) (by rw [HOK.out, script_bad HM.out hb5]; rfl))
        clear hb5
        obtain ⟨r0, r1, rf⟩ := HG0.out _ Y; have rf0 := rf 0; have rf1 := rf 1; clear rf
        go_wp2_with fail
        (with_reducible refine (l1In_any n (-1) 5 _).mono ?_)
        rw [HB5.out]
        rintro e w8 ⟨rfl, rfl⟩
        go_wp2_with fail
        have X := hW0.trans (Y.mono hW0.size); refine bodyPost_ret (v := .agg #[.slice none 0 0, .slice none 0 0]) (by simp [results, Try.results39, go_sem, r0, r1]) rfl ⟨_, rfl, ?_, blw_⟩; rw [HE.out]; exact OH.zero
      · have HB5 := Lib.hid hb5
        have HN2 : Hid ((s.take (k + 1)).all (fun n => inB (-1) n 5) = true) := by unfold Hid; rw [HN.out]; exact hb5
        clear hb5
        go_wp2_with fail
        (with_reducible refine (l1In_any n (-1) 5 _).mono ?_)
        rw [HB5.out]
        rintro e w8 ⟨rfl, rfl⟩
        go_wp2
        go_roundw
        case rel => exact ⟨k + 1, by omega, by go_num, HN2, Y⟩
        case measure => simp [intOf]; omega
    · have hke : k = s.length := by omega
      have hsa : s.all (fun n => inB (-1) n 5) = true := by have h9 := HA.out; rw [hke, List.take_length] at h9; exact h9
      have HS5 : Hid (∀ n ∈ s, -1 ≤ n ∧ n ≤ 5) := fun n hn => inB_iff.1 (List.all_eq_true.1 hsa n hn)
      have HE := Lib.hid (runPaint_ok HOK.out (script_all HI.out hsa))
      have hge : ¬ (k : Int) < (s.length : Int) := by omega
      clear hke hsa HA
      go_wp2_with fail
      (with_reducible refine (specEmptyHeap_any _).mono ?_)
      rintro e w2 ⟨v2, rfl, ⟨B, d, B', d', os, rfl, hm, hO, hlo⟩, hB2⟩
      have Y2 : Below W0.heap.size W0 w2 := blw_
      have sY2 := Y2.size
      have hlo2 : ∀ b ∈ hblks B os B', W0.heap.size ≤ b := fun b hb => by have h7 := hlo b hb; (try simp only [World.size_alloc, World.size_setCell, World.size_drew, World.heap_drewN] at h7); omega
      have hW3 : Below w2.heap.size w2 ((w2.alloc (.cells #[] 3))) := (Below.refl _ _).alloc (Nat.le_refl _) _
      have hlt2 := hO.lt
      have hx3 : OF 3 fi ((w2.alloc (.cells #[] 3))) (some ⟨w2.heap.size, 0, none⟩) 0 ([] : List Int) := OF.fresh0 (heap_alloc_at _ _ _ (by simp))
      have hP := PPx.mk_ (p := emptyP) (lo := W0.heap.size) (w := (w2.alloc (.cells #[] 3))) (c := d) (c' := d') hm (hO.below hW3) hx3 (by rw [List.nodup_append]; refine ⟨hO.nodup, blk_nodup _, fun a ha b hb e => ?_⟩; have h7 := hlt2 a ha; have h8 := mem_blk_some hb; omega) (fun b hb => by rcases List.mem_append.1 hb with h7 | h7; exact hlo2 b h7; have := mem_blk_some h7; omega) (by simp [emptyP]) (by simp; omega) 28
      have hP2 := hP
      simp only [World.size_alloc] at hP2
      have HP := Lib.hid hP2
      have HY2 := Lib.hid (((Y2.alloc sY2 _).alloc (by simp; omega) (.cells #[.slice B emptyM.cells.length d, .slice B' emptyM.roots.length d', .slice (some ⟨w2.heap.size, 0, none⟩) 0 0, .bool false] 28) : Below W0.heap.size W0 (((w2.alloc (.cells #[] 3))).alloc _)))
      clear hP hP2 hm hO hlo hlo2 hB2 Y hx3 hlt2 hW3
      go_wp2
      go_loopw [7] (fun i wr => ∃ (k : Nat) (q : PaintM) (D : Option Addr) (e : Nat) (D' : Option Addr) (e' : Nat) (os2 : List OCell) (D2 : Option Addr) (e2 : Nat), k ≤ l.length ∧ i = .int .i64 k ∧ Hid (runPaintM l s = (finishP (runP s q (l.drop k) k)).1.store) ∧ Hid (paintM q = true) ∧ PPx W0.heap.size wr (w2.heap.size + 1) q D e D' e' os2 D2 e2 ∧ Below W0.heap.size W0 wr) (fun i _ => l.length - (intOf i).toNat)
      case atStart => exact ⟨0, emptyP, B, d, B', d', os, some ⟨w2.heap.size, 0, none⟩, 0, by omega, rfl, HE, paintM_empty, HP.out, HY2.out⟩
      case round =>
        clear HP HY2 Y2 hge hk
        obtain ⟨k, q, D, e, D', e', os2, D2, e2, hk, rfl, HR, HV, hQ, Y⟩ := hrel
        have sY := Y.size
        have hqz := hQ.lt
        have q0 := hQ.q0
        have q1 := hQ.q1
        have q2 := hQ.q2
        have q3 := hQ.q3
        have qf := hQ.qf
        have hrt := hQ.opt.rp
        have sg2 : W0.heap.size ≤ (w2.heap.size + 1) := by omega
        have HQ := Lib.hid hQ
        clear hQ
        by_cases hlt : k < l.length
        · obtain ⟨b, o, x, rfl, gx, -, -, -, -, hb⟩ := (hv.below Y).at_ hlt
          have hks : k % s.length < s.length := Nat.mod_lt _ (by omega)
          obtain ⟨b6, o6, n, rfl, gn, m6, hb6⟩ := (hs.below Y).at_ hks
          have n6 : wr.cell? ⟨b6, o6 + k % s.length, none⟩ = some (.int .i64 n) := m6
          have HN := Lib.hid (runP_go (q := q) gx gn)
          have HC1 := Lib.hid (HCO.out k x gx)
          have HCM : Hid (∀ W, Below W0.heap.size W0 W → W.cell? ⟨b, o + k * 4, none⟩ = some (.int .i64 x.op) ∧ W.cell? ⟨b, o + k * 4 + 1, none⟩ = some (.int .i64 x.a) ∧ W.cell? ⟨b, o + k * 4 + 2, none⟩ = some (.int .i64 x.b) ∧ W.cell? ⟨b, o + k * 4 + 3, none⟩ = some (.int .i64 x.c)) := fun W hW => by
            obtain ⟨b9, o9, x9, e9, g9, d1, d2, d3, d4, -⟩ := (hv.below hW).at_ hlt
            injection e9 with e9; injection e9 with e91 e92; subst e91; subst e92
            rw [gx] at g9; injection g9 with g9; subst g9
            exact ⟨d1, d2, d3, d4⟩
          have hn5 := HS5.out n (List.mem_of_getElem? gn)
          obtain ⟨hn5a, hn5b⟩ := hn5
          have hlt' : (k : Int) < (l.length : Int) := by omega
          have hmod : ((k : Int) % (s.length : Int)).toNat = k % s.length := by have h9 : ((k : Int) % (s.length : Int)) = ((k % s.length : Nat) : Int) := (by push_cast; rfl); rw [h9]; exact Int.toNat_natCast _
          have hmod0 : (0 : Int) ≤ (k : Int) % (s.length : Int) := Int.emod_nonneg _ (by omega)
          have hmod1 : (k : Int) % (s.length : Int) < (s.length : Int) := Int.emod_lt_of_pos _ (by omega)
          have hsn : ¬ (s.length : Int) = 0 := by omega
          clear gx gn m6
          have qf0 := qf 0
          have qf1 := qf 1
          have qf2 := qf 2
          have qf3 := qf 3
          rcases Classical.em (n < 0) with hn | hn
          · have HPR : Hid (preP q n = stepsP n.toNat (finishP q).1) := preP_neg hn
            have HV5 := Lib.hid (paintM_finish HV.out)
            go_wp2_with fail
            (with_reducible refine (specPaintFinish_any _ q _ hrt).mono ?_)
            rw [finM_ok HV.out]
            rintro e5 w5 ⟨v5, rfl, ⟨E, f, E', f', os5, E2, f2, rfl, hm5, hO5, hX5, hnd5, hlo5, hxl5⟩, hB5⟩
            have x0 := cell_below q0 hB5
            have x1 := cell_below q1 hB5
            have x2 := cell_below q2 hB5
            have x3 := cell_below q3 hB5
            have xf : ∀ o, w5.frozen? ⟨(w2.heap.size + 1), o, none⟩ = false := fun o => ((bcell hB5).2.1 _ _ hqz).trans (qf o)
            have xf0 := xf 0
            have xf1 := xf 1
            have xf2 := xf 2
            have xf3 := xf 3
            have hw5 : Below W0.heap.size W0 w5 := Y.trans (hB5.mono sY)
            have sw5 := hw5.size
            have zw5 : (w2.heap.size + 1) < w5.heap.size := World.block_lt_of_cell? w5 _ x0
            have nw5 : (w2.heap.size + 1) ≠ w5.heap.size := by omega
            have nw5' : w5.heap.size ≠ (w2.heap.size + 1) := by omega
            have HQ5 := Lib.hid ((HQ.out.below hB5).over1 hm5 hO5 hX5 hnd5 hlo5 hxl5 sY hqz)
            have HW5 := Lib.hid hw5
            clear hm5 hO5 hX5 hnd5 hlo5 xf q0 q1 q2 q3 hrt hB5 Y
            go_upto_region 17 with fail
            have hw5 := HW5.out
            refine wp_gen (fun W => (∃ (y0 : PaintM) (E : Option Addr) (f : Nat) (E' : Option Addr) (f' : Nat) (os5 : List OCell) (E2 : Option Addr) (f2 : Nat), Hid (preP q n = stepsP n.toNat y0) ∧ Hid (paintM y0 = true) ∧ PPx W0.heap.size W (w2.heap.size + 1) y0 E f E' f' os5 E2 f2) ∧ Below W0.heap.size W0 W) ⟨⟨_, E, f, E', f', os5, E2, f2, HPR, HV5, HQ5.out.below ((Below.refl _ _).alloc (Nat.le_refl _) _)⟩, blw_⟩ ?_
            clear HQ5 HW5 hw5 x0 x1 x2 x3 xf0 xf1 xf2 xf3 HPR HV5 HQ sY
            rintro WS ⟨⟨y0, E, f, E', f', os5, E2, f2, HPR, HV5, hP5⟩, Y⟩
            have HP5 := Lib.hid hP5
            clear hP5
            go_wp2
            go_loopw [11] (fun i wr => ∃ (j : Nat) (y : PaintM) (F : Option Addr) (g : Nat) (F' : Option Addr) (g' : Nat) (os4 : List OCell) (F2 : Option Addr) (g2 : Nat), j ≤ n.toNat ∧ i = .int .i64 j ∧ Hid (y = stepsP j y0) ∧ Hid (paintM y = true) ∧ PPx W0.heap.size wr (w2.heap.size + 1) y F g F' g' os4 F2 g2 ∧ Below W0.heap.size W0 wr) (fun i _ => n.toNat - (intOf i).toNat)
            case atStart => exact ⟨0, y0, E, f, E', f', os5, E2, f2, by omega, rfl, rfl, HV5, HP5.out, Y⟩
            case round =>
              clear HP5 Y HV5
              obtain ⟨j, y, F, g, F', g', os4, F2, g2, hj, rfl, HY, HVY, hP, Y⟩ := hrel
              have sY := Y.size
              have hqz := hP.lt
              have q0 := hP.q0
              have q1 := hP.q1
              have q2 := hP.q2
              have q3 := hP.q3
              have qf := hP.qf
              have hrt := hP.opt.rp
              have HP := Lib.hid hP
              clear hP
              by_cases hlt2 : j < n.toNat
              · exact absurd hlt2 (by omega)
              · have hgeI : ¬ (j : Int) < n := by omega
                have HY3 : Hid (y = preP q n) := by unfold Hid; rw [HPR.out, HY.out, show j = n.toNat by omega]
                have HV6 := Lib.hid (paintM_cmd HVY.out HC1.out)
                have HR2 : Hid (runPaintM l s = (finishP (runP s (paintCmdM y x).1 (l.drop (k + 1)) (k + 1))).1.store) := by unfold Hid; rw [HR.out, HN.out, ← HY3.out]
                have hzc : wr.heap.size ≠ (w2.heap.size + 1) := by omega
                have hzc2 : (w2.heap.size + 1) ≠ wr.heap.size := by omega
                have hS : ∀ W, Below wr.heap.size wr W → W.cell? ⟨(w2.heap.size + 1), 0, none⟩ = some (.slice F y.store.cells.length g) ∧ W.cell? ⟨(w2.heap.size + 1), 1, none⟩ = some (.slice F' y.store.roots.length g') ∧ W.cell? ⟨(w2.heap.size + 1), 2, none⟩ = some (.slice F2 y.colours.length g2) ∧ W.cell? ⟨(w2.heap.size + 1), 3, none⟩ = some (.bool y.active) ∧ W.cell? ⟨b, o + k * 4, none⟩ = some (.int .i64 x.op) ∧ W.cell? ⟨b, o + k * 4 + 1, none⟩ = some (.int .i64 x.a) ∧ W.cell? ⟨b, o + k * 4 + 2, none⟩ = some (.int .i64 x.b) ∧ W.cell? ⟨b, o + k * 4 + 3, none⟩ = some (.int .i64 x.c) := fun W hW => by
                  obtain ⟨d1, d2, d3, d4⟩ := HCM.out W (Y.trans (hW.mono sY))
                  exact ⟨cell_below q0 hW, cell_below q1 hW, cell_below q2 hW, cell_below q3 hW, d1, d2, d3, d4⟩
                go_upto_region 22 with fail
                go_region_held3 (fun w' => w'.cell? ⟨(w2.heap.size + 1), 0, none⟩ = some (.slice F y.store.cells.length g) ∧ w'.cell? ⟨(w2.heap.size + 1), 1, none⟩ = some (.slice F' y.store.roots.length g') ∧ w'.cell? ⟨(w2.heap.size + 1), 2, none⟩ = some (.slice F2 y.colours.length g2) ∧ w'.cell? ⟨(w2.heap.size + 1), 3, none⟩ = some (.bool y.active) ∧ w'.cell? ⟨b, o + k * 4, none⟩ = some (.int .i64 x.op) ∧ w'.cell? ⟨b, o + k * 4 + 1, none⟩ = some (.int .i64 x.a) ∧ w'.cell? ⟨b, o + k * 4 + 2, none⟩ = some (.int .i64 x.b) ∧ w'.cell? ⟨b, o + k * 4 + 3, none⟩ = some (.int .i64 x.c))
                  (first | with_reducible exact hS _ blw_)
                  (first
                    | (go_at_call 29; (with_reducible refine (specPaintCommand_any _ y x _ (hrt.below blw_)).mono ?_); rintro e5 w5 ⟨v5, rfl, ⟨E, f, E', f', os5, E2, f2, rfl, hm5, hO5, hX5, hnd5, hlo5, hxl5⟩, hB5⟩; (have z_hB5 := Below.size hB5); (try simp only [World.size_alloc, World.size_setCell, World.size_drew, World.heap_drewN] at z_hB5); obtain ⟨hbc, hbf, -⟩ := bcell hB5; have Y5 : Below wr.heap.size wr w5 := blw_; (first | (have zl5 : wr.heap.size < w5.heap.size := Nat.lt_of_lt_of_le (Nat.lt_succ_self _) z_hB5) | skip); have HO5 := Lib.hid hO5; have HX5 := Lib.hid hX5; clear hO5 hX5))
                all_goals
                  have x0 := cell_below q0 Y5
                  have x1 := cell_below q1 Y5
                  have x2 := cell_below q2 Y5
                  have x3 := cell_below q3 Y5
                  have xf : ∀ o, w5.frozen? ⟨(w2.heap.size + 1), o, none⟩ = false := fun o => ((bcell Y5).2.1 _ _ hqz).trans (qf o)
                  have xf0 := xf 0
                  have xf1 := xf 1
                  have xf2 := xf 2
                  have xf3 := xf 3
                  have wf0 := qf 0
                  have wf1 := qf 1
                  have wf2 := qf 2
                  have wf3 := qf 3
                  have hx5 : (w2.heap.size + 1) < w5.heap.size := World.block_lt_of_cell? w5 _ x0
                  try simp only [World.size_alloc, World.size_setCell, World.size_drew, World.heap_drewN, heap_drew_] at hlo5
                  have hw5 : Below W0.heap.size W0 w5 := Y.trans (Y5.mono sY)
                  have hwm : w5.heap.size ≠ (w2.heap.size + 1) := by omega
                  have hwm' : (w2.heap.size + 1) ≠ w5.heap.size := by omega
                  have HM5 := Lib.hid hm5
                  have HND5 := Lib.hid hnd5
                  have HLO5 := Lib.hid hlo5
                  have XF := Lib.hid xf
                  have X0 := Lib.hid x0
                  have X1_ := Lib.hid x1
                  have X2_ := Lib.hid x2
                  have X3_ := Lib.hid x3
                  clear hm5 hnd5 hlo5 hB5 xf q0 q1 q2 q3 hrt hS Y5
                  go_upto_region 11 with fail
                  refine wp_gen (fun W => PPx W0.heap.size W (w2.heap.size + 1) (paintCmdM y x).1 E f E' f' os5 E2 f2 ∧ Below W0.heap.size W0 W) ⟨?_, blw_⟩ ?_
                  · first
                    | (have zl5_ := zl5; exact PPx.over0 (l2 := wr.heap.size + 1) (by simp [go_sem, hzc, hzc2, X0.out]; rfl) (by simp [go_sem, hzc, hzc2, X1_.out]; rfl) (by simp [go_sem, hzc, hzc2, X2_.out]; rfl) (by simp [go_sem, hzc, hzc2, X3_.out]; rfl) (fun o => by simp [go_sem, XF.out o]) HM5.out (HO5.out.keep (fun b hb => by have h9 := HLO5.out b (List.mem_append_left _ hb); rw [heap_setCell_ne _ _ _ (by first | omega | (simp; done) | (simp; omega)), heap_setCell_ne _ _ _ (by first | omega | (simp; done) | (simp; omega)), heap_setCell_ne _ _ _ (by first | omega | (simp; done) | (simp; omega)), heap_setCell_ne _ _ _ (by first | omega | (simp; done) | (simp; omega))])) (HX5.out.keep (fun b hb => by have h9 := HLO5.out b (List.mem_append_right _ hb); rw [heap_setCell_ne _ _ _ (by first | omega | (simp; done) | (simp; omega)), heap_setCell_ne _ _ _ (by first | omega | (simp; done) | (simp; omega)), heap_setCell_ne _ _ _ (by first | omega | (simp; done) | (simp; omega)), heap_setCell_ne _ _ _ (by first | omega | (simp; done) | (simp; omega))])) HND5.out (fun b hb => by have h9 := HLO5.out b hb; omega) hxl5 (by omega) (by omega) (by omega))
                    | exact (PPx.over0 X0.out X1_.out X2_.out X3_.out XF.out HM5.out HO5.out HX5.out HND5.out HLO5.out hxl5 (by omega) (by omega) (by omega)).below ((Below.refl _ _).alloc (Nat.le_refl _) _)
                  clear hw5 HM5 HO5 HX5 HND5 HLO5 xf0 xf1 xf2 xf3 wf0 wf1 wf2 wf3 x0 x1 x2 x3 X0 X1_ X2_ X3_ XF Y sY
                  rintro WS ⟨hQ5, Y⟩
                  have HQ5 := Lib.hid hQ5
                  clear hQ5
                  go_wp2
                  go_roundw
                  case rel => exact ⟨k + 1, (paintCmdM y x).1, E, f, E', f', os5, E2, f2, by omega, by go_num, HR2, HV6, HQ5.out, Y⟩
                  case measure => simp [intOf]; omega
          · have HPR : Hid (preP q n = stepsP n.toNat (startP q)) := preP_nn hn
            have HV5 := Lib.hid (paintM_start HV.out)
            go_wp2_with fail
            (with_reducible refine (specPaintStart_any _ q _ hrt).mono ?_)
            rw [staM_ok HV.out]
            rintro e5 w5 ⟨v5, rfl, ⟨E, f, E', f', os5, E2, f2, rfl, hm5, hO5, hX5, hnd5, hlo5, hxl5⟩, hB5⟩
            have x0 := cell_below q0 hB5
            have x1 := cell_below q1 hB5
            have x2 := cell_below q2 hB5
            have x3 := cell_below q3 hB5
            have xf : ∀ o, w5.frozen? ⟨(w2.heap.size + 1), o, none⟩ = false := fun o => ((bcell hB5).2.1 _ _ hqz).trans (qf o)
            have xf0 := xf 0
            have xf1 := xf 1
            have xf2 := xf 2
            have xf3 := xf 3
            have hw5 : Below W0.heap.size W0 w5 := Y.trans (hB5.mono sY)
            have sw5 := hw5.size
            have zw5 : (w2.heap.size + 1) < w5.heap.size := World.block_lt_of_cell? w5 _ x0
            have nw5 : (w2.heap.size + 1) ≠ w5.heap.size := by omega
            have nw5' : w5.heap.size ≠ (w2.heap.size + 1) := by omega
            have HQ5 := Lib.hid ((HQ.out.below hB5).over1 hm5 hO5 hX5 hnd5 hlo5 hxl5 sY hqz)
            have HW5 := Lib.hid hw5
            clear hm5 hO5 hX5 hnd5 hlo5 xf q0 q1 q2 q3 hrt hB5 Y
            go_upto_region 17 with fail
            have hw5 := HW5.out
            refine wp_gen (fun W => (∃ (y0 : PaintM) (E : Option Addr) (f : Nat) (E' : Option Addr) (f' : Nat) (os5 : List OCell) (E2 : Option Addr) (f2 : Nat), Hid (preP q n = stepsP n.toNat y0) ∧ Hid (paintM y0 = true) ∧ PPx W0.heap.size W (w2.heap.size + 1) y0 E f E' f' os5 E2 f2) ∧ Below W0.heap.size W0 W) ⟨⟨_, E, f, E', f', os5, E2, f2, HPR, HV5, HQ5.out⟩, blw_⟩ ?_
            clear HQ5 HW5 hw5 x0 x1 x2 x3 xf0 xf1 xf2 xf3 HPR HV5 HQ sY
            rintro WS ⟨⟨y0, E, f, E', f', os5, E2, f2, HPR, HV5, hP5⟩, Y⟩
            have HP5 := Lib.hid hP5
            clear hP5
            go_wp2
            go_loopw [11] (fun i wr => ∃ (j : Nat) (y : PaintM) (F : Option Addr) (g : Nat) (F' : Option Addr) (g' : Nat) (os4 : List OCell) (F2 : Option Addr) (g2 : Nat), j ≤ n.toNat ∧ i = .int .i64 j ∧ Hid (y = stepsP j y0) ∧ Hid (paintM y = true) ∧ PPx W0.heap.size wr (w2.heap.size + 1) y F g F' g' os4 F2 g2 ∧ Below W0.heap.size W0 wr) (fun i _ => n.toNat - (intOf i).toNat)
            case atStart => exact ⟨0, y0, E, f, E', f', os5, E2, f2, by omega, rfl, rfl, HV5, HP5.out, Y⟩
            case round =>
              clear HP5 Y HV5
              obtain ⟨j, y, F, g, F', g', os4, F2, g2, hj, rfl, HY, HVY, hP, Y⟩ := hrel
              have sY := Y.size
              have hqz := hP.lt
              have q0 := hP.q0
              have q1 := hP.q1
              have q2 := hP.q2
              have q3 := hP.q3
              have qf := hP.qf
              have hrt := hP.opt.rp
              have HP := Lib.hid hP
              clear hP
              by_cases hlt2 : j < n.toNat
              · have hltI : (j : Int) < n := by omega
                have HY2 : Hid ((stepP y).1 = stepsP (j + 1) y0) := by unfold Hid; rw [HY.out]; rfl
                go_wp2_with fail
                (with_reducible refine (specPaintStep_any _ y _ hrt).mono ?_)
                rw [stpM_ok HVY.out]
                rintro e5 w5 ⟨v5, rfl, ⟨E, f, E', f', os5, E2, f2, rfl, hm5, hO5, hX5, hnd5, hlo5, hxl5⟩, hB5⟩
                have x0 := cell_below q0 hB5
                have x1 := cell_below q1 hB5
                have x2 := cell_below q2 hB5
                have x3 := cell_below q3 hB5
                have xf : ∀ o, w5.frozen? ⟨(w2.heap.size + 1), o, none⟩ = false := fun o => ((bcell hB5).2.1 _ _ hqz).trans (qf o)
                have xf0 := xf 0
                have xf1 := xf 1
                have xf2 := xf 2
                have xf3 := xf 3
                have hw5 : Below W0.heap.size W0 w5 := Y.trans (hB5.mono sY)
                have sw5 := hw5.size
                have zw5 : (w2.heap.size + 1) < w5.heap.size := World.block_lt_of_cell? w5 _ x0
                have nw5 : (w2.heap.size + 1) ≠ w5.heap.size := by omega
                have nw5' : w5.heap.size ≠ (w2.heap.size + 1) := by omega
                have HQ5 := Lib.hid ((HP.out.below hB5).over1 hm5 hO5 hX5 hnd5 hlo5 hxl5 sY hqz)
                have HW5 := Lib.hid hw5
                clear hm5 hO5 hX5 hnd5 hlo5 xf q0 q1 q2 q3 hrt hB5 Y
                go_wp2
                go_roundw
                case rel => exact ⟨j + 1, (stepP y).1, E, f, E', f', os5, E2, f2, by omega, by go_num, HY2, paintM_step HVY.out, HQ5.out.below ((Below.refl _ _).alloc (Nat.le_refl _) _), by have hw5 := HW5.out; exact blw_⟩
                case measure => simp [intOf]; omega
              · have hgeI : ¬ (j : Int) < n := by omega
                have HY3 : Hid (y = preP q n) := by unfold Hid; rw [HPR.out, HY.out, show j = n.toNat by omega]
                have HV6 := Lib.hid (paintM_cmd HVY.out HC1.out)
                have HR2 : Hid (runPaintM l s = (finishP (runP s (paintCmdM y x).1 (l.drop (k + 1)) (k + 1))).1.store) := by unfold Hid; rw [HR.out, HN.out, ← HY3.out]
                have hzc : wr.heap.size ≠ (w2.heap.size + 1) := by omega
                have hzc2 : (w2.heap.size + 1) ≠ wr.heap.size := by omega
                have hS : ∀ W, Below wr.heap.size wr W → W.cell? ⟨(w2.heap.size + 1), 0, none⟩ = some (.slice F y.store.cells.length g) ∧ W.cell? ⟨(w2.heap.size + 1), 1, none⟩ = some (.slice F' y.store.roots.length g') ∧ W.cell? ⟨(w2.heap.size + 1), 2, none⟩ = some (.slice F2 y.colours.length g2) ∧ W.cell? ⟨(w2.heap.size + 1), 3, none⟩ = some (.bool y.active) ∧ W.cell? ⟨b, o + k * 4, none⟩ = some (.int .i64 x.op) ∧ W.cell? ⟨b, o + k * 4 + 1, none⟩ = some (.int .i64 x.a) ∧ W.cell? ⟨b, o + k * 4 + 2, none⟩ = some (.int .i64 x.b) ∧ W.cell? ⟨b, o + k * 4 + 3, none⟩ = some (.int .i64 x.c) := fun W hW => by
                  obtain ⟨d1, d2, d3, d4⟩ := HCM.out W (Y.trans (hW.mono sY))
                  exact ⟨cell_below q0 hW, cell_below q1 hW, cell_below q2 hW, cell_below q3 hW, d1, d2, d3, d4⟩
                go_upto_region 22 with fail
                go_region_held3 (fun w' => w'.cell? ⟨(w2.heap.size + 1), 0, none⟩ = some (.slice F y.store.cells.length g) ∧ w'.cell? ⟨(w2.heap.size + 1), 1, none⟩ = some (.slice F' y.store.roots.length g') ∧ w'.cell? ⟨(w2.heap.size + 1), 2, none⟩ = some (.slice F2 y.colours.length g2) ∧ w'.cell? ⟨(w2.heap.size + 1), 3, none⟩ = some (.bool y.active) ∧ w'.cell? ⟨b, o + k * 4, none⟩ = some (.int .i64 x.op) ∧ w'.cell? ⟨b, o + k * 4 + 1, none⟩ = some (.int .i64 x.a) ∧ w'.cell? ⟨b, o + k * 4 + 2, none⟩ = some (.int .i64 x.b) ∧ w'.cell? ⟨b, o + k * 4 + 3, none⟩ = some (.int .i64 x.c))
                  (first | with_reducible exact hS _ blw_)
                  (first
                    | (go_at_call 29; (with_reducible refine (specPaintCommand_any _ y x _ (hrt.below blw_)).mono ?_); rintro e5 w5 ⟨v5, rfl, ⟨E, f, E', f', os5, E2, f2, rfl, hm5, hO5, hX5, hnd5, hlo5, hxl5⟩, hB5⟩; (have z_hB5 := Below.size hB5); (try simp only [World.size_alloc, World.size_setCell, World.size_drew, World.heap_drewN] at z_hB5); obtain ⟨hbc, hbf, -⟩ := bcell hB5; have Y5 : Below wr.heap.size wr w5 := blw_; (first | (have zl5 : wr.heap.size < w5.heap.size := Nat.lt_of_lt_of_le (Nat.lt_succ_self _) z_hB5) | skip); have HO5 := Lib.hid hO5; have HX5 := Lib.hid hX5; clear hO5 hX5))
                all_goals
                  have x0 := cell_below q0 Y5
                  have x1 := cell_below q1 Y5
                  have x2 := cell_below q2 Y5
                  have x3 := cell_below q3 Y5
                  have xf : ∀ o, w5.frozen? ⟨(w2.heap.size + 1), o, none⟩ = false := fun o => ((bcell Y5).2.1 _ _ hqz).trans (qf o)
                  have xf0 := xf 0
                  have xf1 := xf 1
                  have xf2 := xf 2
                  have xf3 := xf 3
                  have wf0 := qf 0
                  have wf1 := qf 1
                  have wf2 := qf 2
                  have wf3 := qf 3
                  have hx5 : (w2.heap.size + 1) < w5.heap.size := World.block_lt_of_cell? w5 _ x0
                  try simp only [World.size_alloc, World.size_setCell, World.size_drew, World.heap_drewN, heap_drew_] at hlo5
                  have hw5 : Below W0.heap.size W0 w5 := Y.trans (Y5.mono sY)
                  have hwm : w5.heap.size ≠ (w2.heap.size + 1) := by omega
                  have hwm' : (w2.heap.size + 1) ≠ w5.heap.size := by omega
                  have HM5 := Lib.hid hm5
                  have HND5 := Lib.hid hnd5
                  have HLO5 := Lib.hid hlo5
                  have XF := Lib.hid xf
                  have X0 := Lib.hid x0
                  have X1_ := Lib.hid x1
                  have X2_ := Lib.hid x2
                  have X3_ := Lib.hid x3
                  clear hm5 hnd5 hlo5 hB5 xf q0 q1 q2 q3 hrt hS Y5
                  go_upto_region 11 with fail
                  refine wp_gen (fun W => PPx W0.heap.size W (w2.heap.size + 1) (paintCmdM y x).1 E f E' f' os5 E2 f2 ∧ Below W0.heap.size W0 W) ⟨?_, blw_⟩ ?_
                  · first
                    | (have zl5_ := zl5; exact PPx.over0 (l2 := wr.heap.size + 1) (by simp [go_sem, hzc, hzc2, X0.out]; rfl) (by simp [go_sem, hzc, hzc2, X1_.out]; rfl) (by simp [go_sem, hzc, hzc2, X2_.out]; rfl) (by simp [go_sem, hzc, hzc2, X3_.out]; rfl) (fun o => by simp [go_sem, XF.out o]) HM5.out (HO5.out.keep (fun b hb => by have h9 := HLO5.out b (List.mem_append_left _ hb); rw [heap_setCell_ne _ _ _ (by first | omega | (simp; done) | (simp; omega)), heap_setCell_ne _ _ _ (by first | omega | (simp; done) | (simp; omega)), heap_setCell_ne _ _ _ (by first | omega | (simp; done) | (simp; omega)), heap_setCell_ne _ _ _ (by first | omega | (simp; done) | (simp; omega))])) (HX5.out.keep (fun b hb => by have h9 := HLO5.out b (List.mem_append_right _ hb); rw [heap_setCell_ne _ _ _ (by first | omega | (simp; done) | (simp; omega)), heap_setCell_ne _ _ _ (by first | omega | (simp; done) | (simp; omega)), heap_setCell_ne _ _ _ (by first | omega | (simp; done) | (simp; omega)), heap_setCell_ne _ _ _ (by first | omega | (simp; done) | (simp; omega))])) HND5.out (fun b hb => by have h9 := HLO5.out b hb; omega) hxl5 (by omega) (by omega) (by omega))
                    | exact (PPx.over0 X0.out X1_.out X2_.out X3_.out XF.out HM5.out HO5.out HX5.out HND5.out HLO5.out hxl5 (by omega) (by omega) (by omega)).below ((Below.refl _ _).alloc (Nat.le_refl _) _)
                  clear hw5 HM5 HO5 HX5 HND5 HLO5 xf0 xf1 xf2 xf3 wf0 wf1 wf2 wf3 x0 x1 x2 x3 X0 X1_ X2_ X3_ XF Y sY
                  rintro WS ⟨hQ5, Y⟩
                  have HQ5 := Lib.hid hQ5
                  clear hQ5
                  go_wp2
                  go_roundw
                  case rel => exact ⟨k + 1, (paintCmdM y x).1, E, f, E', f', os5, E2, f2, by omega, by go_num, HR2, HV6, HQ5.out, Y⟩
                  case measure => simp [intOf]; omega
        · have hke : l.length ≤ k := by omega
          have hge : ¬ (k : Int) < (l.length : Int) := by omega
          have HM : Hid (runPaintM l s = (finishP q).1.store) := by unfold Hid; rw [HR.out, runP_end hke]
          clear hke HR
          go_wp2_with fail
          (with_reducible refine (specPaintFinish_any _ q _ hrt).mono ?_)
          rw [finM_ok HV.out]
          rintro e5 w5 ⟨v5, rfl, ⟨E, f, E', f', os5, E2, f2, rfl, hm5, hO5, hX5, hnd5, hlo5, hxl5⟩, hB5⟩
          have Y5 : Below W0.heap.size W0 w5 := Y.trans (hB5.mono sY)
          have HB : Hid (OH (w.heap.size + 1) w5 (.agg #[.slice E (finishP q).1.store.cells.length f, .slice E' (finishP q).1.store.roots.length f']) (finishP q).1.store) := ⟨E, f, E', f', os5, rfl, hm5, hO5, fun b hb => by have := hlo5 b (List.mem_append.2 (.inl hb)); omega⟩
          clear hm5 hO5 hX5 hnd5 hlo5 hB5 q0 q1 q2 q3 Y hrt
          have Y := Y5
          clear Y5
          have sY5 := Y.size
          have zq5 : w.heap.size < w5.heap.size := by omega
          obtain ⟨r0, r1, rf⟩ := HG0.out _ Y; have rf0 := rf 0; have rf1 := rf 1; clear rf
          go_wp2_with fail
          have X := hW0.trans (Y.mono hW0.size)
          refine bodyPost_ret (v := .agg #[.slice E (finishP q).1.store.cells.length f, .slice E' (finishP q).1.store.roots.length f']) (by simp [results, Try.results39, go_sem, r0, r1, zq5]) rfl ⟨_, rfl, ?_, blw_⟩
          rw [HM.out]
          exact OH.lo_ (lo := w.heap.size + 1) (OH.below (OH.setlt (OH.setlt HB.out (by simp) _) (by simp) _) ((Below.refl _ _).alloc (Nat.le_refl _) _)) (by omega)
end Go.Proofs.Ytopbngfghpgbnaa
