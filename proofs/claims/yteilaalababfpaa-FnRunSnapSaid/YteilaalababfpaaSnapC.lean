/- SnapCommand of the program returns snapCmdM, in new memory. -/
import Derived.Test.YteilaalababfpaaChecked
import Derived.Deep.RegionHeld3
import Derived.Deep.DeepCutAuto
import Derived.Test.YteilaalababfpaaGrSnap
import Derived.Test.YteilaalababfpaaGrCmd
import Derived.Test.YteilaalababfpaaStepH
namespace Go.Proofs.Yteilaalababfpaa
open Go.RowKit
set_option maxRecDepth 100000
set_option linter.all false
theorem recDo_snap {p : TwoM} {o : CmdM} (h : o.op ≠ 3) : recDo p o = snapDo p o := by unfold recDo snapDo preS; rw [if_neg h]
theorem recDo_set {p : TwoM} {o : CmdM} (h : o.op = 3) : recDo ⟨p.store, (meetL (p.x, p.y) [refOf p.store o.a o.c]).1, (meetL (p.x, p.y) [refOf p.store o.a o.c]).2⟩ o = snapDo p o := by
  unfold recDo snapDo preS meetL
  rw [if_neg (by omega), if_neg (by omega), if_pos h]
  rfl
theorem cmd_bad {p : TwoM} {o : CmdM} (h : (snapM p && cmdOk o) = false) : snapCmdM p o = (zeroT, false) := by unfold snapCmdM; rw [h]; rfl
theorem cmd_no {p : TwoM} {o : CmdM} (h1 : snapM p = true) (h2 : cmdOk o = true) (h : possO p.store o = false ∨ (o.op = 1 ∧ p.store.cells.length = 40)) : snapCmdM p o = (p, false) := by
  have : canM p.store o = false := by unfold canM; rcases h with h | ⟨h3, h4⟩; rw [h]; rfl; simp [h3, h4]
  unfold snapCmdM; rw [h1, h2, this]; rfl
theorem cmd_yes {p : TwoM} {o : CmdM} (h1 : snapM p = true) (h2 : cmdOk o = true) (h : possO p.store o = true) (hn : ¬ (o.op = 1 ∧ p.store.cells.length = 40)) : snapCmdM p o = (snapDo p o, true) := by
  have : canM p.store o = true := by
    unfold canM
    rw [h]
    have h3 : (decide (o.op = 1) && decide (p.store.cells.length = 40)) = false := by
      rw [Bool.eq_false_iff]; intro hh; simp only [Bool.and_eq_true, decide_eq_true_eq] at hh; exact hn hh
    rw [h3]; rfl
  unfold snapCmdM; rw [h1, h2, this]; rfl
theorem meetOne_any (g : Nat) (A2 A3 : Option Addr) (c2 c3 cr b : Nat) (xs ys : List Bool) (r : Int) (w : World) (h2 : w.cell? ⟨g, 2, none⟩ = some (.slice A2 xs.length c2)) (h3 : w.cell? ⟨g, 3, none⟩ = some (.slice A3 ys.length c3))
    (hx : OF 4 fb w A2 c2 xs) (hy : OF 4 fb w A3 c3 ys) (hl : ys.length = xs.length) (hg2 : g ∉ blk A2) (hg3 : g ∉ blk A3) (hd : ∀ b ∈ blk A3, b ∉ blk A2)
    (hr : w.cell? ⟨b, 0, none⟩ = some (.int .i64 r)) (hb : b ∉ blk A2 ++ blk A3) (hlt : r < xs.length) (hxl : xs.length ≤ 9223372036854775807) :
    Calls Try.prog 74 #[.pointer (some ⟨g, 0, none⟩), .slice (some ⟨b, 0, none⟩) 1 cr] w fun e w' => e = .returned (.tuple #[]) ∧ OF 4 fb w' A2 c2 (meetL (xs, ys) [r]).1 ∧ OF 4 fb w' A3 c3 (meetL (xs, ys) [r]).2 ∧ Only (blk A2 ++ blk A3) w w' :=
  meet_any g A2 A3 (some ⟨b, 0, none⟩) c2 c3 cr xs ys [r] w h2 h3 hx hy hl hg2 hg3 hd (fun W hW => RF.only_one (f := fi) (x := r) (hW.cell hr hb)) (by simp) (fun x hx => by rw [List.mem_singleton.1 hx]; exact hlt) hxl
set_option maxHeartbeats 4000000 in
theorem sexec_any (lo g : Nat) (p : TwoM) (o : CmdM) (A A' A2 A3 : Option Addr) (c c' c2 c3 : Nat) (os : List OCell) (w : World) (h : PTx lo w g p A c A' c' os A2 c2 A3 c3) (hv : snapM p = true) (hok : cmdOk o = true) (hps : possO p.store o = true) :
    Calls Try.prog 86 #[.pointer (some ⟨g, 0, none⟩), .agg #[.int .i64 o.op, .int .i64 o.a, .int .i64 o.b, .int .i64 o.c]] w fun e w' => e = .returned (.tuple #[]) ∧ (∃ B d B' d' os' B2 d2 B3 d3, PTx lo w' g (snapDo p o) B d B' d' os' B2 d2 B3 d3) ∧ Below lo w w' := by
  obtain ⟨v1, v2, v3, v4, v5, v6, v7⟩ := snap_small hv
  obtain ⟨sv1, sv2, sv3⟩ := snapM_parts hv
  have hb0 := h.below (w' := (w.alloc (.cells #[.int .i64 o.op, .int .i64 o.a, .int .i64 o.b, .int .i64 o.c] 42))) blw_
  have g0 : ((w.alloc (.cells #[.int .i64 o.op, .int .i64 o.a, .int .i64 o.b, .int .i64 o.c] 42))).cell? ⟨w.heap.size, 0, none⟩ = some (.int .i64 o.op) := by simp [go_sem]
  have g1 : ((w.alloc (.cells #[.int .i64 o.op, .int .i64 o.a, .int .i64 o.b, .int .i64 o.c] 42))).cell? ⟨w.heap.size, 1, none⟩ = some (.int .i64 o.a) := by simp [go_sem]
  have g2 : ((w.alloc (.cells #[.int .i64 o.op, .int .i64 o.a, .int .i64 o.b, .int .i64 o.c] 42))).cell? ⟨w.heap.size, 2, none⟩ = some (.int .i64 o.b) := by simp [go_sem]
  have g3 : ((w.alloc (.cells #[.int .i64 o.op, .int .i64 o.a, .int .i64 o.b, .int .i64 o.c] 42))).cell? ⟨w.heap.size, 3, none⟩ = some (.int .i64 o.c) := by simp [go_sem]
  have HW : Hid (Below lo w (w.alloc (.cells #[.int .i64 o.op, .int .i64 o.a, .int .i64 o.b, .int .i64 o.c] 42))) := by unfold Hid; have := h.lo_; have := h.lt; exact blw_
  have hgl := h.lt
  have hlo := h.lo_
  have hnw : w.heap.size ∉ blk A2 ++ blk A3 := fun hc => by
    rcases List.mem_append.1 hc with hc | hc
    · have := h.xs.lt _ hc; omega
    · have := h.ys.lt _ hc; omega
  have HSV := Lib.hid sv1
  have HOK := Lib.hid hok
  have HPS := Lib.hid hps
  have H := Lib.hid hb0
  have hx40 : p.x.length ≤ 40 := by omega
  have hy40 : p.y.length ≤ 40 := by omega
  have HV4 := Lib.hid v4
  have HYX : Hid (p.y.length = p.x.length) := by unfold Hid; omega
  have HV6 := Lib.hid v6
  have hne : g ≠ w.heap.size := by omega
  have hWs : w.heap.size < ((w.alloc (.cells #[.int .i64 o.op, .int .i64 o.a, .int .i64 o.b, .int .i64 o.c] 42))).heap.size := by simp
  obtain ⟨o1, o6, a0, a3, b0, b1, cc0, cc1⟩ := cmdOk_parts hok
  have hr4 := (valid_small sv1).2.1
  have ha1 : o.a < (p.store.roots.length : Int) := by omega
  have hrf : refOf p.store o.a o.c < p.x.length := by rw [v4]; exact leadsM_lt (refOf_leads sv1 _ _)
  clear v3 v4 v5 v6 v7 sv1 sv2 sv3 hv hok hps hb0 h b1 cc1 hr4
  rcases Classical.em (o.op = 3) with h3 | h3
  · have hop : placeOk p.store o.a o.c = true := by have := HPS.out; unfold possO at this; rw [if_neg (by omega), if_pos h3] at this; exact this
    have HPO := Lib.hid hop
    have HSN := Lib.hid (recDo_set (p := p) h3)
    have hop3 : (o.op == 3) = true := by simp [h3]
    have q0 := H.out.q0
    have q1 := H.out.q1
    have hrhs := H.out.own.rhs H.out.map
    clear hop h3
    go_enter Try.func86, Try.ntmps86
    go_upto_region 2 with fail
    generalize (w.alloc (.cells #[.int .i64 o.op, .int .i64 o.a, .int .i64 o.b, .int .i64 o.c] 42)) = W at *
    have hgW : g < W.heap.size := by omega
    have hS : ∀ W', Below W.heap.size W W' → W'.cell? ⟨g, 0, none⟩ = some (.slice A p.store.cells.length c) ∧ W'.cell? ⟨g, 1, none⟩ = some (.slice A' p.store.roots.length c') ∧ W'.cell? ⟨w.heap.size, 1, none⟩ = some (.int .i64 o.a) ∧ W'.cell? ⟨w.heap.size, 3, none⟩ = some (.int .i64 o.c) := fun W' hW => ⟨cell_below q0 hW, cell_below q1 hW, cell_below g1 hW, cell_below g3 hW⟩
    go_region_held3 (fun w' => w'.cell? ⟨g, 0, none⟩ = some (.slice A p.store.cells.length c) ∧ w'.cell? ⟨g, 1, none⟩ = some (.slice A' p.store.roots.length c') ∧ w'.cell? ⟨w.heap.size, 1, none⟩ = some (.int .i64 o.a) ∧ w'.cell? ⟨w.heap.size, 3, none⟩ = some (.int .i64 o.c))
      (first | exact hS _ blw_)
      (first
        | (go_at_call 138; (with_reducible refine (place_any A A' c c' p.store o.a o.c _ (hrhs.below blw_) a0 ha1 HV6.out cc0).mono ?_); rw [HPO.out]; rintro e w2 ⟨P, rfl, hP, hB2⟩; have hown := place_own ((H.out.below blw_).phx) HPO.out cc0 (hP rfl); have hB : Below W.heap.size W w2 := blw_; clear hP))
    all_goals
      obtain ⟨oo, b2, hoo, hooA, rfl, href, hr0⟩ := hown
      have hmem := List.mem_of_getElem? hoo
      have hof := (H.out.own.cells.2 oo hmem).1
      rw [hooA] at hof
      have kP : W.cell? ⟨b2, o.c.toNat, none⟩ = some (.int .i64 (refOf p.store o.a o.c)) := hof.cell href
      have hb2n : b2 ∉ blk A2 ++ blk A3 := H.out.d1 b2 (List.mem_append.2 (.inl (List.mem_append.2 (.inr (mem_blks hmem (by rw [hooA]; simp [blk]))))))
      have kP2 := cell_below kP hB
      have h2 := H.out.below hB
      have H2 := Lib.hid h2
      have t0 := cell_below g0 hB
      have t1 := cell_below g1 hB
      have t2 := cell_below g2 hB
      have t3 := cell_below g3 hB
      have r2 := h2.q2
      have r3 := h2.q3
      have hWB : Below lo w w2 := HW.out.trans (hB.mono (by have := HW.out.size; omega))
      have hz2 := hB.size
      have lt2 := h2.xs.lt
      have lt3 := h2.ys.lt
      have hfr : w2.heap.size ∉ blk A2 ++ blk A3 := fun hc => by
        rcases List.mem_append.1 hc with hc | hc
        · have := lt2 _ hc; omega
        · have := lt3 _ hc; omega
      have hd2 := h2.d2
      have hg2 := h2.g2
      have hg3 := h2.g3
      have HX := Lib.hid h2.xs
      have HY := Lib.hid h2.ys
      have hl4 := h2.los4
      clear hof hoo href hr0 hmem kP hS q0 q1 g0 g1 g2 g3 hrhs h2 hB2 hB lt2 lt3
      go_upto_region 4 with fail
      go_region_held3 (fun w' => w'.cell? ⟨b2, o.c.toNat, none⟩ = some (.int .i64 (refOf p.store o.a o.c)))
        (first | (with_reducible exact sP) | exact cell_below kP2 blw_)
        (first
          | (go_at_call 74; (with_reducible refine (meetOne_any g A2 A3 c2 c3 1 w2.heap.size p.x p.y (refOf p.store o.a o.c) _ (cell_below r2 blw_) (cell_below r3 blw_) (HX.out.below blw_) (HY.out.below blw_) HYX.out hg2 hg3 hd2 (by simp [go_sem]) hfr hrf (by omega)).mono ?_); rintro e w3 ⟨rfl, hX3, hY3, hOn3⟩; have sP := hOn3.cell (cell_below kP2 blw_) hb2n; have e0 := hOn3.cell (cell_below t0 blw_) hnw; have e1 := hOn3.cell (cell_below t1 blw_) hnw; have e2 := hOn3.cell (cell_below t2 blw_) hnw; have e3 := hOn3.cell (cell_below t3 blw_) hnw; have hP3 := (H2.out.below blw_).lists hX3 hY3 (meetL_len _ _).1 (meetL_len _ _).2 hOn3; have hB3 : Below lo w w3 := (by have h5 := hOn3.below (B := lo) (by have := H2.out.lo_; have := H2.out.lt; simp; omega) hl4; exact Below.trans blw_ h5)))
      all_goals
        have HP3 := Lib.hid hP3
        clear hP3 hX3 hY3 hOn3 sP t0 t1 t2 t3 r2 r3 kP2 hWB H2 HX HY H HW
        have hlx : (meetL (p.x, p.y) [refOf p.store o.a o.c]).1.length ≤ 1048576 := by rw [(meetL_len _ _).1]; show p.x.length ≤ _; omega
        have hly : (meetL (p.x, p.y) [refOf p.store o.a o.c]).2.length ≤ 1048576 := by rw [(meetL_len _ _).2]; show p.y.length ≤ _; omega
        go_upto_region 5 with fail
        go_still_tail 4, (by kernel_rfl)
        change wpList _ _ _ _ _ w3.drew
        go_wp2_with fail
        have hr := rexec_any lo g ⟨p.store, (meetL (p.x, p.y) [refOf p.store o.a o.c]).1, (meetL (p.x, p.y) [refOf p.store o.a o.c]).2⟩ o A A' A2 A3 c c' c2 c3 os w3.drew (HP3.out.below (Below.refl _ _).drew) HSV.out HOK.out HPS.out hlx hly
        rw [HSN.out] at hr
        refine hr.mono ?_
        rintro e w4 ⟨rfl, hex, hB4⟩
        go_wp2
        go_end0
        exact ⟨rfl, hex, hB3.drew.trans hB4⟩
  · have HSN := Lib.hid (recDo_snap (p := p) h3)
    have hop3 : (o.op == 3) = false := by simpa using h3
    clear h3
    go_enter Try.func86, Try.ntmps86
    go_upto_region 5 with fail
    generalize (w.alloc (.cells #[.int .i64 o.op, .int .i64 o.a, .int .i64 o.b, .int .i64 o.c] 42)) = W at *
    go_still_tail 4, (by kernel_rfl)
    change wpList _ _ _ _ _ W.drew
    go_wp2_with fail
    have hr := rexec_any lo g p o A A' A2 A3 c c' c2 c3 os W.drew (H.out.below (Below.refl _ _).drew) HSV.out HOK.out HPS.out (by omega) (by omega)
    rw [HSN.out] at hr
    refine hr.mono ?_
    rintro e w4 ⟨rfl, hex, hB4⟩
    go_wp2
    go_end0
    exact ⟨rfl, hex, HW.out.drew.trans hB4⟩
end Go.Proofs.Yteilaalababfpaa