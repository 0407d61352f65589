/- RunPaint of the program returns runPaintM, in new memory. -/
import Derived.Test.YtopbngfghpgbnaaChecked
import Derived.Deep.DeepCutAuto
import Derived.Deep.RegionHeld3
import Derived.Test.YtopbngfghpgbnaaCmdsV
import Derived.Test.YtopbngfghpgbnaaPaintC
import Derived.Test.YtopbngfghpgbnaaPaintFin
import Derived.Test.YtopbngfghpgbnaaPaintStp
namespace Go.Proofs.Ytopbngfghpgbnaa
open Go.RowKit
set_option maxRecDepth 100000
set_option linter.unusedSimpArgs false
set_option linter.unusedVariables false
theorem runPaint_bad {l : List CmdM} {s : List Int} (h : (cmdsOk l && scriptOk s) = false) : runPaintM l s = zeroH := by unfold runPaintM; rw [h]; rfl
theorem runPaint_ok {l : List CmdM} {s : List Int} (h1 : cmdsOk l = true) (h2 : scriptOk s = true) : runPaintM l s = (finishP (runP s emptyP (l.drop 0) 0)).1.store := by unfold runPaintM; rw [h1, h2]; rfl
theorem runP_go {s : List Int} {q : PaintM} {l : List CmdM} {k : Nat} {x : CmdM} (hx : l[k]? = some x) {n : Int} (hn : s[k % s.length]? = some n) : runP s q (l.drop k) k = runP s (paintCmdM (preP q n) x).1 (l.drop (k + 1)) (k + 1) := by
  rw [drop_cons_of hx, runP, hn]; rfl
theorem runP_end {s : List Int} {q : PaintM} {l : List CmdM} {k : Nat} (hk : l.length ≤ k) : runP s q (l.drop k) k = q := by rw [List.drop_eq_nil_of_le hk]; rfl
theorem preP_neg {q : PaintM} {n : Int} (h : n < 0) : preP q n = stepsP n.toNat (finishP q).1 := by unfold preP; rw [if_pos h, show n.toNat = 0 by omega]; rfl
theorem preP_nn {q : PaintM} {n : Int} (h : ¬ n < 0) : preP q n = stepsP n.toNat (startP q) := by unfold preP; rw [if_neg h]
theorem paintM_stepFacts {p : PaintM} (h : paintM p = true) : p.colours.length = p.store.cells.length ∧ p.colours.length ≤ 40 ∧ (∀ d ∈ p.store.cells, ∀ r ∈ d.refs, r < p.colours.length) ∧ (∀ r ∈ p.store.roots, r < p.colours.length) ∧ (p.active = false → noneB isGrey p.colours p.colours.length) := by
  obtain ⟨h1, h2, h3, h4⟩ := paintM_iff.1 h
  obtain ⟨lt1, lt2⟩ := validM_lt h1
  have := (valid_small h1).1
  refine ⟨h2, by omega, fun d hd r hr => by rw [h2]; exact lt1 d hd r hr, fun r hr => by rw [h2]; exact lt2 r hr, fun ha i hi y hy => ?_⟩
  have hil := (List.getElem?_eq_some_iff.1 hy).1
  obtain ⟨-, g, -⟩ := h3 i y _ hy (List.getElem?_eq_getElem (by omega))
  unfold isGrey
  rcases Classical.em (y = 0) with e | e
  · subst e; rfl
  · have := (g e).2; rw [ha] at this; cases this
set_option maxHeartbeats 4000000 in
theorem isScript_any (A : Option Addr) (s : List Int) (c : Nat) (w : World) (hr : RF fi w A s) (hl : s.length ≤ 9223372036854775807) :
    Calls Try.prog 98 #[.slice A s.length c] w fun e w' => e = .returned (.bool (scriptOk s)) ∧ w = w' := by
  have HR := Lib.hid hr
  clear hr
  go_enter Try.func98, Try.ntmps98
  go_wp2
  go_loopw [7] (fun i wr => ∃ k : Nat, k ≤ s.length ∧ i = .int .i64 k ∧ Hid ((s.take k).all (fun n => inB (-1) n 5) = true) ∧ wr = w) (fun i _ => s.length - (intOf i).toNat)
  case atStart => exact ⟨0, by omega, rfl, by unfold Hid; simp, rfl⟩
  case round =>
    obtain ⟨k, hk, rfl, HA, rfl⟩ := hrel
    by_cases hlt : k < s.length
    · obtain ⟨b, o, n, rfl, gn, m, hb⟩ := HR.out.at_ hlt
      have m2 : wr.cell? ⟨b, o + k, none⟩ = some (.int .i64 n) := m
      have HN : Hid ((s.take (k + 1)).all (fun n => inB (-1) n 5) = inB (-1) n 5) := by unfold Hid; rw [take_snoc_of gn, List.all_append, HA.out]; simp
      have HM := Lib.hid (List.mem_of_getElem? gn)
      clear m gn
      rcases Classical.em (n < -1) with h1 | h1
      · go_wp2
        go_ret
        refine ⟨?_, rfl⟩
        have : scriptOk s = false := by
          unfold scriptOk
          rw [Bool.and_eq_false_iff, Bool.and_eq_false_iff]
          exact .inr (.inr (List.all_eq_false.2 ⟨n, HM.out, by simp [inB]; omega⟩))
        rw [this]; rfl
      · rcases Classical.em (n > 5) with h2 | h2
        · go_wp2
          go_ret
          refine ⟨?_, rfl⟩
          have : scriptOk s = false := by
            unfold scriptOk
            rw [Bool.and_eq_false_iff, Bool.and_eq_false_iff]
            exact .inr (.inr (List.all_eq_false.2 ⟨n, HM.out, by simp [inB]; omega⟩))
          rw [this]; rfl
        · have HN2 : Hid ((s.take (k + 1)).all (fun n => inB (-1) n 5) = true) := by unfold Hid; rw [HN.out]; simp [inB]; omega
          go_wp2
          go_roundw
          case rel => exact ⟨k + 1, by omega, by go_num, HN2, by first | rfl | trivial⟩
          case measure => simp [intOf]; omega
    · have hke : k = s.length := by omega
      have HS : Hid (s.all (fun n => inB (-1) n 5) = true) := by have h9 := HA.out; rw [hke, List.take_length] at h9; exact h9
      clear HA hke
      rcases Classical.em (1 ≤ s.length) with h1 | h1
      · have h1i : (1 : Int) ≤ (s.length : Int) := by omega
        rcases Classical.em (s.length ≤ 40) with h2 | h2
        · have h2i : (s.length : Int) ≤ 40 := by omega
          go_wp2
          go_ret
          refine ⟨?_, rfl⟩
          have : scriptOk s = true := by unfold scriptOk; rw [HS.out]; simp [h1, h2]
          rw [this]; rfl
        · have h2i : ¬ (s.length : Int) ≤ 40 := by omega
          go_wp2
          go_ret
          refine ⟨?_, rfl⟩
          have : scriptOk s = false := by unfold scriptOk; simp [h2]
          rw [this]; rfl
      · have h1i : ¬ (1 : Int) ≤ (s.length : Int) := by omega
        go_wp2
        go_ret
        refine ⟨?_, rfl⟩
        have : scriptOk s = false := by unfold scriptOk; simp [h1]
        rw [this]; rfl
set_option maxHeartbeats 8000000 in
theorem implRunPaint_any (A : Option Addr) (l : List CmdM) (c : Nat) (A2 : Option Addr) (s : List Int) (c2 : Nat) (w : World) (hv0 : RO w A l) (hl : l.length ≤ 9223372036854775807) (hs0 : RF fi w A2 s) (hsl : s.length ≤ 9223372036854775807) :
    Calls Try.prog 38 #[.slice A l.length c, .slice A2 s.length c2] w fun e w' => ∃ v', e = .returned v' ∧ OH w.heap.size w' v' (runPaintM l s) ∧ Below w.heap.size w w' := by
  have HG0 : Hid (∀ W, Below ((w.alloc (.cells #[.slice none 0 0, .slice none 0 0] 26))).heap.size ((w.alloc (.cells #[.slice none 0 0, .slice none 0 0] 26))) W → (W.cell? ⟨w.heap.size, 0, none⟩ = some (.slice none 0 0) ∧ W.cell? ⟨w.heap.size, 1, none⟩ = some (.slice none 0 0) ∧ ∀ o, W.frozen? ⟨w.heap.size, o, none⟩ = false)) := fun W hW => ⟨cell_below (by simp [go_sem]) hW, cell_below (by simp [go_sem]) hW, fun o => ((bcell hW).2.1 _ _ (by simp)).trans (by simp [go_sem])⟩
  have hz0 : ((w.alloc (.cells #[.slice none 0 0, .slice none 0 0] 26))).heap.size = w.heap.size + 1 := by simp
  have hW0 : Below w.heap.size w ((w.alloc (.cells #[.slice none 0 0, .slice none 0 0] 26))) := blw_
  have hv := hv0.below hW0
  have hs := hs0.below hW0
  clear hv0 hs0
  cases hok : cmdsOk l
  · have HO := Lib.hid hok
    have HE := Lib.hid (runPaint_bad (l := l) (s := s) (by rw [hok]; rfl))
    clear hok
    go_enter Try.func38, Try.ntmps38; go_wp2_with fail; generalize ((w.alloc (.cells #[.slice none 0 0, .slice none 0 0] 26))) = W0 at *; (with_reducible refine (implCommandsValid_any A l c _ (hv.below blw_) hl).mono ?_); rw [HO.out]; rintro e w1 ⟨rfl, hB⟩; (have z_hB := Below.size hB); (try simp only [World.size_alloc, World.size_setCell, World.size_drew, World.heap_drewN] at z_hB); have Y : Below W0.heap.size W0 w1 := blw_; clear hB; have sY := Y.size
    obtain ⟨r0, r1, rf⟩ := HG0.out _ Y; have rf0 := rf 0; have rf1 := rf 1; clear rf
    go_wp2_with fail
    have X := hW0.trans (Y.mono hW0.size); refine bodyPost_ret (v := .agg #[.slice none 0 0, .slice none 0 0]) (by simp [results, Try.results38, go_sem, r0, r1]) rfl ⟨_, rfl, ?_, blw_⟩; rw [HE.out]; exact OH.zero
  have HO := Lib.hid hok
  cases hli : scriptOk s
  · have HI := Lib.hid hli
    have HE := Lib.hid (runPaint_bad (l := l) (s := s) (by rw [hok, hli]; rfl))
    clear hok hli
    go_enter Try.func38, Try.ntmps38; go_wp2_with fail; generalize ((w.alloc (.cells #[.slice none 0 0, .slice none 0 0] 26))) = W0 at *; (with_reducible refine (implCommandsValid_any A l c _ (hv.below blw_) hl).mono ?_); rw [HO.out]; rintro e w1 ⟨rfl, hB⟩; (have z_hB := Below.size hB); (try simp only [World.size_alloc, World.size_setCell, World.size_drew, World.heap_drewN] at z_hB); have Y : Below W0.heap.size W0 w1 := blw_; clear hB; have sY := Y.size
    obtain ⟨r0, r1, rf⟩ := HG0.out _ Y; have rf0 := rf 0; have rf1 := rf 1; clear rf
    go_wp2_with fail
    ((with_reducible refine (isScript_any A2 s c2 _ (hs.below blw_) hsl).mono ?_); rw [HI.out]; rintro e w8 ⟨rfl, rfl⟩)
    go_wp2_with fail
    have X := hW0.trans (Y.mono hW0.size); refine bodyPost_ret (v := .agg #[.slice none 0 0, .slice none 0 0]) (by simp [results, Try.results38, go_sem, r0, r1]) rfl ⟨_, rfl, ?_, blw_⟩; rw [HE.out]; exact OH.zero
  have HI := Lib.hid hli
  have HE := Lib.hid (runPaint_ok hok hli)
  have hl40 : l.length ≤ 40 := by unfold cmdsOk at hok; simp only [Bool.and_eq_true, decide_eq_true_eq] at hok; exact hok.1
  have hs1 : 1 ≤ s.length ∧ s.length ≤ 40 := by unfold scriptOk at hli; simp only [Bool.and_eq_true, decide_eq_true_eq] at hli; exact ⟨hli.1, hli.2.1⟩
  have HS5 : Hid (∀ n ∈ s, -1 ≤ n ∧ n ≤ 5) := fun n hn => by unfold scriptOk at hli; simp only [Bool.and_eq_true] at hli; exact inB_iff.1 (List.all_eq_true.1 hli.2.2 n hn)
  have HCO : Hid (∀ k x, l[k]? = some x → cmdOk x = true) := fun k x hx => by unfold cmdsOk at hok; simp only [Bool.and_eq_true] at hok; exact List.all_eq_true.1 hok.2 x (List.mem_of_getElem? hx)
  obtain ⟨hs1a, hs1b⟩ := hs1
  clear hok hli
  go_enter Try.func38, Try.ntmps38; go_wp2_with fail; generalize ((w.alloc (.cells #[.slice none 0 0, .slice none 0 0] 26))) = W0 at *; (with_reducible refine (implCommandsValid_any A l c _ (hv.below blw_) hl).mono ?_); rw [HO.out]; rintro e w1 ⟨rfl, hB⟩; (have z_hB := Below.size hB); (try simp only [World.size_alloc, World.size_setCell, World.size_drew, World.heap_drewN] at z_hB); have Y : Below W0.heap.size W0 w1 := blw_; clear hB; have sY := Y.size
  go_wp2_with fail
  ((with_reducible refine (isScript_any A2 s c2 _ (hs.below blw_) hsl).mono ?_); rw [HI.out]; rintro e w8 ⟨rfl, rfl⟩)
  go_wp2_with fail
  (with_reducible refine (implEmptyHeap_any _).mono ?_)
  rintro e w2 ⟨v2, rfl, ⟨B, d, B', d', os, rfl, hm, hO, hlo⟩, hB2⟩
  have Y2 : Below W0.heap.size W0 w2 := blw_
  have sY2 := Y2.size
  have hlo2 : ∀ b ∈ hblks B os B', W0.heap.size ≤ b := fun b hb => by have h7 := hlo b hb; (try simp only [World.size_alloc, World.size_setCell, World.size_drew, World.heap_drewN] at h7); omega
  have hP := PPx.mk_ (p := emptyP) (lo := W0.heap.size) (w := w2) (c := d) (c' := d') hm hO OF.nil (by have h9 := hO.nodup; simp [blk]; exact h9) (fun b hb => hlo2 b (by simpa [blk] using hb)) (by simp [emptyP]) sY2 28
  have HP := Lib.hid hP
  have HY2 := Lib.hid (Y2.alloc sY2 (.cells #[.slice B emptyM.cells.length d, .slice B' emptyM.roots.length d', .slice none 0 0, .bool false] 28))
  clear hP hm hO hlo hlo2 hB2 Y
  go_wp2
  go_loopw [22] (fun i wr => ∃ (k : Nat) (q : PaintM) (D : Option Addr) (e : Nat) (D' : Option Addr) (e' : Nat) (os2 : List OCell) (D2 : Option Addr) (e2 : Nat), k ≤ l.length ∧ i = .int .i64 k ∧ Hid (runPaintM l s = (finishP (runP s q (l.drop k) k)).1.store) ∧ Hid (paintM q = true) ∧ PPx W0.heap.size wr w2.heap.size q D e D' e' os2 D2 e2 ∧ Below W0.heap.size W0 wr) (fun i _ => l.length - (intOf i).toNat)
  case atStart => exact ⟨0, emptyP, B, d, B', d', os, none, 0, by omega, rfl, HE, paintM_empty, HP.out, HY2.out⟩
  case round =>
    clear HP HY2 Y2
    obtain ⟨k, q, D, e, D', e', os2, D2, e2, hk, rfl, HR, HV, hQ, Y⟩ := hrel
    have sY := Y.size
    have hqz := hQ.lt
    have HQ := Lib.hid hQ
    clear hQ
    by_cases hlt : k < l.length
    · obtain ⟨b, o, x, rfl, gx, c1, c2_, c3, c4, hb⟩ := (hv.below Y).at_ hlt
      have hks : k % s.length < s.length := Nat.mod_lt _ (by omega)
      obtain ⟨b6, o6, n, rfl, gn, m6, hb6⟩ := (hs.below Y).at_ hks
      have n6 : wr.cell? ⟨b6, o6 + k % s.length, none⟩ = some (.int .i64 n) := m6
      have HN := Lib.hid (runP_go (q := q) gx gn)
      have HC1 := Lib.hid (HCO.out k x gx)
      have hn5 := HS5.out n (List.mem_of_getElem? gn)
      obtain ⟨hn5a, hn5b⟩ := hn5
      have hlt' : (k : Int) < (l.length : Int) := by omega
      have hmod : ((k : Int) % (s.length : Int)).toNat = k % s.length := by have h9 : ((k : Int) % (s.length : Int)) = ((k % s.length : Nat) : Int) := (by push_cast; rfl); rw [h9]; exact Int.toNat_natCast _
      have hmod0 : (0 : Int) ≤ (k : Int) % (s.length : Int) := Int.emod_nonneg _ (by omega)
      have hmod1 : (k : Int) % (s.length : Int) < (s.length : Int) := Int.emod_lt_of_pos _ (by omega)
      have hsn : ¬ (s.length : Int) = 0 := by omega
      have hzc : wr.heap.size ≠ w2.heap.size := by omega
      have hzc2 : w2.heap.size ≠ wr.heap.size := by omega
      clear gx gn m6
      obtain ⟨wo, rfl⟩ : ∃ wo, wo = wr := ⟨_, rfl⟩
      have HSA : Hid (∀ g ∈ w2.heap.size :: (blk D ++ blk D2), g ≠ wo.heap.size ∧ W0.heap.size ≤ g) := fun g hg => by
        rcases List.mem_cons.1 hg with h | h
        · exact ⟨by omega, by omega⟩
        · rcases List.mem_append.1 h with h | h
          · have h8 : g ∈ hblks D os2 D' := List.mem_append.2 (.inl (List.mem_append.2 (.inl h)))
            exact ⟨by have := HQ.out.own.lt g h8; omega, HQ.out.los g (List.mem_append.2 (.inl h8))⟩
          · exact ⟨by have := HQ.out.cs.lt g h; omega, HQ.out.l2 g h⟩
      rcases Classical.em (n < 0) with hn | hn
      · have HPR : Hid (preP q n = stepsP n.toNat (finishP q).1) := preP_neg hn
        have HV5 := Lib.hid (paintM_finish HV.out)
        go_wp2_with fail
        (with_reducible refine (finish_any W0.heap.size w2.heap.size q _ _ _ _ _ _ _ _ (HQ.out.below blw_) HV.out).mono ?_)
        rintro e5 w5 ⟨rfl, ⟨os3, hP5⟩, hOn5⟩
        have hS5 : ∀ g ∈ w2.heap.size :: (blk D ++ blk D2), g ≠ wo.heap.size ∧ W0.heap.size ≤ g := HSA.out
        have m0 : w5.cell? ⟨wo.heap.size, 0, none⟩ = some (.int .i64 x.op) := hOn5.cell (by simp [go_sem]) (fun hc => (hS5 _ hc).1 rfl)
        have m1 : w5.cell? ⟨wo.heap.size, 1, none⟩ = some (.int .i64 x.a) := hOn5.cell (by simp [go_sem]) (fun hc => (hS5 _ hc).1 rfl)
        have m2 : w5.cell? ⟨wo.heap.size, 2, none⟩ = some (.int .i64 x.b) := hOn5.cell (by simp [go_sem]) (fun hc => (hS5 _ hc).1 rfl)
        have m3 : w5.cell? ⟨wo.heap.size, 3, none⟩ = some (.int .i64 x.c) := hOn5.cell (by simp [go_sem]) (fun hc => (hS5 _ hc).1 rfl)
        have hw5 : Below W0.heap.size W0 w5 := Below.trans blw_ (hOn5.below (by simp; omega) (fun g hg => (hS5 g hg).2))
        have HP5 := Lib.hid hP5
        clear hOn5 hS5 hP5 HQ Y
        have Y := hw5
        clear hw5
        go_wp2
        go_loopw [39] (fun i wr => ∃ (j : Nat) (y : PaintM) (os4 : List OCell), j ≤ n.toNat ∧ i = .int .i64 j ∧ Hid (y = stepsP j (finishP q).1) ∧ Hid (paintM y = true) ∧ PPx W0.heap.size wr w2.heap.size y D e D' e' os4 D2 e2 ∧ (wr.cell? ⟨wo.heap.size, 0, none⟩ = some (.int .i64 x.op) ∧ wr.cell? ⟨wo.heap.size, 1, none⟩ = some (.int .i64 x.a) ∧ wr.cell? ⟨wo.heap.size, 2, none⟩ = some (.int .i64 x.b) ∧ wr.cell? ⟨wo.heap.size, 3, none⟩ = some (.int .i64 x.c)) ∧ Below W0.heap.size W0 wr) (fun i _ => n.toNat - (intOf i).toNat)
        case atStart => exact ⟨0, (finishP q).1, os3, by omega, rfl, rfl, HV5, HP5.out, ⟨m0, m1, m2, m3⟩, Y⟩
        case round =>
          clear HP5 Y m0 m1 m2 m3 HV5
          obtain ⟨j, y, os4, hj, rfl, HY, HVY, hP, ⟨m0, m1, m2, m3⟩, Y⟩ := hrel
          have sY := Y.size
          have hzi : wo.heap.size < wr.heap.size := World.block_lt_of_cell? wr _ m0
          have hgl := hP.lt
          have q0 := hP.q0
          have q1 := hP.q1
          have q2 := hP.q2
          have q3 := hP.q3
          have HP := Lib.hid hP
          clear hP
          by_cases hlt2 : j < n.toNat
          · have hltI : (j : Int) < n := by omega
            have HY2 : Hid ((stepP y).1 = stepsP (j + 1) (finishP q).1) := by unfold Hid; rw [HY.out]; rfl
            have hnm : ∀ g ∈ w2.heap.size :: blk D2, W0.heap.size ≤ g := fun g hg => by rcases List.mem_cons.1 hg with h | h; omega; exact HP.out.l2 g h
            go_wp2_with fail
            (with_reducible refine (pstep_any W0.heap.size w2.heap.size y _ _ _ _ _ _ _ _ HP.out (paintM_stepFacts HVY.out).1 (paintM_stepFacts HVY.out).2.1 (paintM_stepFacts HVY.out).2.2.1 (paintM_stepFacts HVY.out).2.2.2.2).mono ?_)
            rintro e6 w6 ⟨rfl, hP6, hOn6⟩
            have HP6 := Lib.hid hP6
            have HON6 := Lib.hid hOn6
            clear hP6 hOn6
            go_wp2
            go_roundw
            case rel => exact ⟨j + 1, (stepP y).1, os4, by omega, by go_num, HY2, paintM_step HVY.out, HP6.out, ⟨HON6.out.cell m0 (fun hc => (HSA.out _ (by rcases List.mem_cons.1 hc with h | h; exact List.mem_cons.2 (.inl h); exact List.mem_cons.2 (.inr (List.mem_append.2 (.inr h))))).1 rfl), HON6.out.cell m1 (fun hc => (HSA.out _ (by rcases List.mem_cons.1 hc with h | h; exact List.mem_cons.2 (.inl h); exact List.mem_cons.2 (.inr (List.mem_append.2 (.inr h))))).1 rfl), HON6.out.cell m2 (fun hc => (HSA.out _ (by rcases List.mem_cons.1 hc with h | h; exact List.mem_cons.2 (.inl h); exact List.mem_cons.2 (.inr (List.mem_append.2 (.inr h))))).1 rfl), HON6.out.cell m3 (fun hc => (HSA.out _ (by rcases List.mem_cons.1 hc with h | h; exact List.mem_cons.2 (.inl h); exact List.mem_cons.2 (.inr (List.mem_append.2 (.inr h))))).1 rfl)⟩, Y.trans (HON6.out.below sY hnm)⟩
            case measure => simp [intOf]; omega
          · have hgeI : ¬ (j : Int) < n := by omega
            have HY3 : Hid (y = preP q n) := by unfold Hid; rw [HPR.out, HY.out, show j = n.toNat by omega]
            have HV6 := Lib.hid (paintM_cmd HVY.out HC1.out)
            have HR2 : Hid (runPaintM l s = (finishP (runP s (paintCmdM y x).1 (l.drop (k + 1)) (k + 1))).1.store) := by unfold Hid; rw [HR.out, HN.out, ← HY3.out]
            have hrt := HP.out.opt.rp
            have hqf := HP.out.qf
            go_wp2_with fail
            (with_reducible refine (implPaintCommand_any _ y x _ hrt).mono ?_)
            rintro e6 w6 ⟨v6, rfl, ⟨E, g, E', g', os6, E2, g2, rfl, hm6, hO6, hX6, hnd6, hlo6, hxl6⟩, hB6⟩
            have x0 := cell_below q0 hB6
            have x1 := cell_below q1 hB6
            have x2 := cell_below q2 hB6
            have x3 := cell_below q3 hB6
            have xf : ∀ o, w6.frozen? ⟨w2.heap.size, o, none⟩ = false := fun o => ((bcell hB6).2.1 _ _ hgl).trans (hqf o)
            have xf0 := xf 0
            have xf1 := xf 1
            have xf2 := xf 2
            have xf3 := xf 3
            have hw6 : Below W0.heap.size W0 w6 := Y.trans (hB6.mono sY)
            have HQ6 := Lib.hid ((HP.out.below hB6).over1 hm6 hO6 hX6 hnd6 hlo6 hxl6 sY hgl)
            have HB7 := Lib.hid ((((hw6.setCell (p := ⟨w2.heap.size, 0, none⟩) sY2 (.slice E (paintCmdM y x).1.store.cells.length g)).setCell (p := ⟨w2.heap.size, 1, none⟩) sY2 (.slice E' (paintCmdM y x).1.store.roots.length g')).setCell (p := ⟨w2.heap.size, 2, none⟩) sY2 (.slice E2 (paintCmdM y x).1.colours.length g2)).setCell (p := ⟨w2.heap.size, 3, none⟩) sY2 (.bool (paintCmdM y x).1.active))
            clear hm6 hO6 hX6 hnd6 hlo6 hB6 xf
            go_wp2
            go_roundw
            case rel => exact ⟨k + 1, (paintCmdM y x).1, E, g, E', g', os6, E2, g2, by omega, by go_num, HR2, HV6, HQ6.out, HB7.out⟩
            case measure => simp [intOf]; omega
      · have HPR : Hid (preP q n = stepsP n.toNat (startP q)) := preP_nn hn
        have HV5 := Lib.hid (paintM_start HV.out)
        go_wp2_with fail
        (with_reducible refine (start_any W0.heap.size w2.heap.size q _ _ _ _ _ _ _ _ (HQ.out.below blw_) (paintM_stepFacts HV.out).2.2.2.1).mono ?_)
        rintro e5 w5 ⟨rfl, hP5, hOn5⟩
        have hS5 : ∀ g ∈ w2.heap.size :: blk D2, g ≠ wo.heap.size ∧ W0.heap.size ≤ g := fun g hg => HSA.out g (by rcases List.mem_cons.1 hg with h | h; exact List.mem_cons.2 (.inl h); exact List.mem_cons.2 (.inr (List.mem_append.2 (.inr h))))
        have m0 : w5.cell? ⟨wo.heap.size, 0, none⟩ = some (.int .i64 x.op) := hOn5.cell (by simp [go_sem]) (fun hc => (hS5 _ hc).1 rfl)
        have m1 : w5.cell? ⟨wo.heap.size, 1, none⟩ = some (.int .i64 x.a) := hOn5.cell (by simp [go_sem]) (fun hc => (hS5 _ hc).1 rfl)
        have m2 : w5.cell? ⟨wo.heap.size, 2, none⟩ = some (.int .i64 x.b) := hOn5.cell (by simp [go_sem]) (fun hc => (hS5 _ hc).1 rfl)
        have m3 : w5.cell? ⟨wo.heap.size, 3, none⟩ = some (.int .i64 x.c) := hOn5.cell (by simp [go_sem]) (fun hc => (hS5 _ hc).1 rfl)
        have hw5 : Below W0.heap.size W0 w5 := Below.trans blw_ (hOn5.below (by simp; omega) (fun g hg => (hS5 g hg).2))
        have HP5 := Lib.hid hP5
        clear hOn5 hS5 hP5 HQ Y
        have Y := hw5
        clear hw5
        go_wp2
        go_loopw [39] (fun i wr => ∃ (j : Nat) (y : PaintM) (os4 : List OCell), j ≤ n.toNat ∧ i = .int .i64 j ∧ Hid (y = stepsP j (startP q)) ∧ Hid (paintM y = true) ∧ PPx W0.heap.size wr w2.heap.size y D e D' e' os4 D2 e2 ∧ (wr.cell? ⟨wo.heap.size, 0, none⟩ = some (.int .i64 x.op) ∧ wr.cell? ⟨wo.heap.size, 1, none⟩ = some (.int .i64 x.a) ∧ wr.cell? ⟨wo.heap.size, 2, none⟩ = some (.int .i64 x.b) ∧ wr.cell? ⟨wo.heap.size, 3, none⟩ = some (.int .i64 x.c)) ∧ Below W0.heap.size W0 wr) (fun i _ => n.toNat - (intOf i).toNat)
        case atStart => exact ⟨0, (startP q), os2, by omega, rfl, rfl, HV5, HP5.out, ⟨m0, m1, m2, m3⟩, Y⟩
        case round =>
          clear HP5 Y m0 m1 m2 m3 HV5
          obtain ⟨j, y, os4, hj, rfl, HY, HVY, hP, ⟨m0, m1, m2, m3⟩, Y⟩ := hrel
          have sY := Y.size
          have hzi : wo.heap.size < wr.heap.size := World.block_lt_of_cell? wr _ m0
          have hgl := hP.lt
          have q0 := hP.q0
          have q1 := hP.q1
          have q2 := hP.q2
          have q3 := hP.q3
          have HP := Lib.hid hP
          clear hP
          by_cases hlt2 : j < n.toNat
          · have hltI : (j : Int) < n := by omega
            have HY2 : Hid ((stepP y).1 = stepsP (j + 1) (startP q)) := by unfold Hid; rw [HY.out]; rfl
            have hnm : ∀ g ∈ w2.heap.size :: blk D2, W0.heap.size ≤ g := fun g hg => by rcases List.mem_cons.1 hg with h | h; omega; exact HP.out.l2 g h
            go_wp2_with fail
            (with_reducible refine (pstep_any W0.heap.size w2.heap.size y _ _ _ _ _ _ _ _ HP.out (paintM_stepFacts HVY.out).1 (paintM_stepFacts HVY.out).2.1 (paintM_stepFacts HVY.out).2.2.1 (paintM_stepFacts HVY.out).2.2.2.2).mono ?_)
            rintro e6 w6 ⟨rfl, hP6, hOn6⟩
            have HP6 := Lib.hid hP6
            have HON6 := Lib.hid hOn6
            clear hP6 hOn6
            go_wp2
            go_roundw
            case rel => exact ⟨j + 1, (stepP y).1, os4, by omega, by go_num, HY2, paintM_step HVY.out, HP6.out, ⟨HON6.out.cell m0 (fun hc => (HSA.out _ (by rcases List.mem_cons.1 hc with h | h; exact List.mem_cons.2 (.inl h); exact List.mem_cons.2 (.inr (List.mem_append.2 (.inr h))))).1 rfl), HON6.out.cell m1 (fun hc => (HSA.out _ (by rcases List.mem_cons.1 hc with h | h; exact List.mem_cons.2 (.inl h); exact List.mem_cons.2 (.inr (List.mem_append.2 (.inr h))))).1 rfl), HON6.out.cell m2 (fun hc => (HSA.out _ (by rcases List.mem_cons.1 hc with h | h; exact List.mem_cons.2 (.inl h); exact List.mem_cons.2 (.inr (List.mem_append.2 (.inr h))))).1 rfl), HON6.out.cell m3 (fun hc => (HSA.out _ (by rcases List.mem_cons.1 hc with h | h; exact List.mem_cons.2 (.inl h); exact List.mem_cons.2 (.inr (List.mem_append.2 (.inr h))))).1 rfl)⟩, Y.trans (HON6.out.below sY hnm)⟩
            case measure => simp [intOf]; omega
          · have hgeI : ¬ (j : Int) < n := by omega
            have HY3 : Hid (y = preP q n) := by unfold Hid; rw [HPR.out, HY.out, show j = n.toNat by omega]
            have HV6 := Lib.hid (paintM_cmd HVY.out HC1.out)
            have HR2 : Hid (runPaintM l s = (finishP (runP s (paintCmdM y x).1 (l.drop (k + 1)) (k + 1))).1.store) := by unfold Hid; rw [HR.out, HN.out, ← HY3.out]
            have hrt := HP.out.opt.rp
            have hqf := HP.out.qf
            go_wp2_with fail
            (with_reducible refine (implPaintCommand_any _ y x _ hrt).mono ?_)
            rintro e6 w6 ⟨v6, rfl, ⟨E, g, E', g', os6, E2, g2, rfl, hm6, hO6, hX6, hnd6, hlo6, hxl6⟩, hB6⟩
            have x0 := cell_below q0 hB6
            have x1 := cell_below q1 hB6
            have x2 := cell_below q2 hB6
            have x3 := cell_below q3 hB6
            have xf : ∀ o, w6.frozen? ⟨w2.heap.size, o, none⟩ = false := fun o => ((bcell hB6).2.1 _ _ hgl).trans (hqf o)
            have xf0 := xf 0
            have xf1 := xf 1
            have xf2 := xf 2
            have xf3 := xf 3
            have hw6 : Below W0.heap.size W0 w6 := Y.trans (hB6.mono sY)
            have HQ6 := Lib.hid ((HP.out.below hB6).over1 hm6 hO6 hX6 hnd6 hlo6 hxl6 sY hgl)
            have HB7 := Lib.hid ((((hw6.setCell (p := ⟨w2.heap.size, 0, none⟩) sY2 (.slice E (paintCmdM y x).1.store.cells.length g)).setCell (p := ⟨w2.heap.size, 1, none⟩) sY2 (.slice E' (paintCmdM y x).1.store.roots.length g')).setCell (p := ⟨w2.heap.size, 2, none⟩) sY2 (.slice E2 (paintCmdM y x).1.colours.length g2)).setCell (p := ⟨w2.heap.size, 3, none⟩) sY2 (.bool (paintCmdM y x).1.active))
            clear hm6 hO6 hX6 hnd6 hlo6 hB6 xf
            go_wp2
            go_roundw
            case rel => exact ⟨k + 1, (paintCmdM y x).1, E, g, E', g', os6, E2, g2, by omega, by go_num, HR2, HV6, HQ6.out, HB7.out⟩
            case measure => simp [intOf]; omega
    · have hke : l.length ≤ k := by omega
      have hge : ¬ (k : Int) < (l.length : Int) := by omega
      have HM : Hid (runPaintM l s = (finishP q).1.store) := by unfold Hid; rw [HR.out, runP_end hke]
      have hSF : ∀ g ∈ w2.heap.size :: (blk D ++ blk D2), W0.heap.size ≤ g := fun g hg => by
        rcases List.mem_cons.1 hg with h | h
        · omega
        · rcases List.mem_append.1 h with h | h
          · exact HQ.out.los g (List.mem_append.2 (.inl (List.mem_append.2 (.inl (List.mem_append.2 (.inl h))))))
          · exact HQ.out.l2 g h
      clear hke HR
      go_wp2_with fail
      (with_reducible refine (finish_any W0.heap.size w2.heap.size q _ _ _ _ _ _ _ _ HQ.out HV.out).mono ?_)
      rintro e5 w5 ⟨rfl, ⟨os3, hP5⟩, hOn5⟩
      have Y5 : Below W0.heap.size W0 w5 := Y.trans (hOn5.below sY hSF)
      clear hOn5 hSF Y
      have Y := Y5
      clear Y5
      have sY5 := Y.size
      obtain ⟨r0, r1, rf⟩ := HG0.out _ Y; have rf0 := rf 0; have rf1 := rf 1; clear rf
      have q0 := hP5.q0
      have q1 := hP5.q1
      have HP5 := Lib.hid hP5
      clear hP5
      go_wp2_with fail
      have X := hW0.trans (Y.mono hW0.size)
      refine bodyPost_ret (v := .agg #[.slice D (finishP q).1.store.cells.length e, .slice D' (finishP q).1.store.roots.length e']) (by simp [results, Try.results38, go_sem, r0, r1]) rfl ⟨_, rfl, ?_, blw_⟩
      rw [HM.out]
      exact OH.lo_ (lo := w.heap.size + 1) (OH.setlt (OH.setlt (lo := w.heap.size + 1) ⟨D, e, D', e', os3, rfl, HP5.out.map, HP5.out.own, fun b hb => by have := HP5.out.los b (List.mem_append.2 (.inl hb)); omega⟩ (by simp) _) (by simp) _) (by omega)
end Go.Proofs.Ytopbngfghpgbnaa
