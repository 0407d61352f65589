/- SnapFinish of the program and of the reference return snapFinM, in new memory. -/
import Derived.Test.YteilaalababfpaaChecked
import Derived.Deep.LoopGhost
import Derived.Deep.RegionHeld3
import Derived.Deep.DeepCutAuto
import Derived.Test.YteilaalababfpaaGrSweep
import Derived.Test.YteilaalababfpaaGrSnap
namespace Go.Proofs.Yteilaalababfpaa
open Go.RowKit
set_option maxRecDepth 100000
set_option linter.all false
theorem snapFin_bad {p : TwoM} (h : snapM p = false) : snapFinM p = (zeroH, -1) := by unfold snapFinM; rw [h]; rfl
theorem snapFin_end {p q : TwoM} (hv : snapM p = true) (he : endS q = endS p) (hd : (stepS q).2 = false) : snapFinM p = sweepM q.store q.x := by unfold snapFinM; rw [hv, if_pos rfl, ← he, endS_done hd]
theorem stepS_same {p : TwoM} (h : (stepS p).2 = false) : (stepS p).1 = p := by
  unfold stepS at h ⊢
  split at h
  · rfl
  · cases h
theorem endS_next {p : TwoM} (hl : p.y.length = p.x.length) : endS (stepS p).1 = endS p := by
  rcases bool_ft (stepS p).2 with h | h
  · rw [stepS_same h]
  · exact (endS_step hl h).symm
theorem PTx.over {lo l2 : Nat} {w : World} {g : Nat} {p q : TwoM} {A A' A2 A3 B B' B2 B3 : Option Addr} {c c' c2 c3 d d' d2 d3 : Nat} {os os2 : List OCell} (h : PTx lo w g p A c A' c' os A2 c2 A3 c3) (hm : os2.map (·.c) = q.store.cells) (ho : OHs w B d B' d' os2 q.store.roots) (hx : OF 4 fb w B2 d2 q.x) (hy : OF 4 fb w B3 d3 q.y)
    (hnd : (hblks B os2 B' ++ blk B2 ++ blk B3).Nodup) (hlo : ∀ b ∈ hblks B os2 B' ++ blk B2 ++ blk B3, l2 ≤ b) (hxl : q.x.length ≤ 9223372036854775807) (hyl : q.y.length ≤ 9223372036854775807) (hl2 : lo ≤ l2) (hg : g < l2) :
    PTx lo ((((w.setCell ⟨g, 0, none⟩ (.slice B q.store.cells.length d)).setCell ⟨g, 1, none⟩ (.slice B' q.store.roots.length d')).setCell ⟨g, 2, none⟩ (.slice B2 q.x.length d2)).setCell ⟨g, 3, none⟩ (.slice B3 q.y.length d3)) g q B d B' d' os2 B2 d2 B3 d3 := by
  have hk : ∀ b ∈ hblks B os2 B' ++ blk B2 ++ blk B3, b ≠ g := fun b hb e => by have := hlo b hb; omega
  have k0 := h.q0
  have k1 := h.q1
  have k2 := h.q2
  have k3 := h.q3
  refine ⟨by simp [go_sem, k0, k1, k2, k3], by simp [go_sem, k0, k1, k2, k3], by simp [go_sem, k0, k1, k2, k3], by simp [go_sem, k0, k1, k2, k3], fun o => by simp [go_sem, h.qf o], h.lo_, by simpa using h.lt, fun hc => by have := hlo g hc; omega, hm, ?_, ?_, ?_, hnd, fun b hb => Nat.le_trans hl2 (hlo b hb), hxl, hyl⟩
  · exact ho.keep fun b hb => by have := hk b (List.mem_append.2 (.inl (List.mem_append.2 (.inl hb)))); rw [heap_setCell_ne _ _ _ this, heap_setCell_ne _ _ _ this, heap_setCell_ne _ _ _ this, heap_setCell_ne _ _ _ this]
  · exact hx.keep fun b hb => by have := hk b (List.mem_append.2 (.inl (List.mem_append.2 (.inr hb)))); rw [heap_setCell_ne _ _ _ this, heap_setCell_ne _ _ _ this, heap_setCell_ne _ _ _ this, heap_setCell_ne _ _ _ this]
  · exact hy.keep fun b hb => by have := hk b (List.mem_append.2 (.inr hb)); rw [heap_setCell_ne _ _ _ this, heap_setCell_ne _ _ _ this, heap_setCell_ne _ _ _ this, heap_setCell_ne _ _ _ this]
set_option maxHeartbeats 4000000 in
theorem implSnapFinish_any (v : Value) (p : TwoM) (w : World) (hv : RTw w v p) :
    Calls Try.prog 33 #[v] w fun e w' => ∃ v', e = .returned (.tuple #[v', .int .i64 (snapFinM p).2]) ∧ OH w.heap.size w' v' (snapFinM p).1 ∧ Below w.heap.size w w' := by
  have hv0 := hv
  obtain ⟨A, c, A', c', A2, c2, A3, c3, rfl, -, -, -, -, -⟩ := hv
  have h0 : (((w.alloc (.cells #[.slice A p.store.cells.length c, .slice A' p.store.roots.length c', .slice A2 p.x.length c2, .slice A3 p.y.length c3] 29)).alloc (.cells #[.slice none 0 0, .slice none 0 0] 26))).cell? ⟨w.heap.size, 0, none⟩ = some (.slice A p.store.cells.length c) := by simp [go_sem]
  have h1 : (((w.alloc (.cells #[.slice A p.store.cells.length c, .slice A' p.store.roots.length c', .slice A2 p.x.length c2, .slice A3 p.y.length c3] 29)).alloc (.cells #[.slice none 0 0, .slice none 0 0] 26))).cell? ⟨w.heap.size, 1, none⟩ = some (.slice A' p.store.roots.length c') := by simp [go_sem]
  have h2 : (((w.alloc (.cells #[.slice A p.store.cells.length c, .slice A' p.store.roots.length c', .slice A2 p.x.length c2, .slice A3 p.y.length c3] 29)).alloc (.cells #[.slice none 0 0, .slice none 0 0] 26))).cell? ⟨w.heap.size, 2, none⟩ = some (.slice A2 p.x.length c2) := by simp [go_sem]
  have h3 : (((w.alloc (.cells #[.slice A p.store.cells.length c, .slice A' p.store.roots.length c', .slice A2 p.x.length c2, .slice A3 p.y.length c3] 29)).alloc (.cells #[.slice none 0 0, .slice none 0 0] 26))).cell? ⟨w.heap.size, 3, none⟩ = some (.slice A3 p.y.length c3) := by simp [go_sem]
  have n0 : (((w.alloc (.cells #[.slice A p.store.cells.length c, .slice A' p.store.roots.length c', .slice A2 p.x.length c2, .slice A3 p.y.length c3] 29)).alloc (.cells #[.slice none 0 0, .slice none 0 0] 26))).cell? ⟨w.heap.size + 1, 0, none⟩ = some (.slice none 0 0) := by simp [go_sem]
  have n1 : (((w.alloc (.cells #[.slice A p.store.cells.length c, .slice A' p.store.roots.length c', .slice A2 p.x.length c2, .slice A3 p.y.length c3] 29)).alloc (.cells #[.slice none 0 0, .slice none 0 0] 26))).cell? ⟨w.heap.size + 1, 1, none⟩ = some (.slice none 0 0) := by simp [go_sem]
  have nf : ∀ o, (((w.alloc (.cells #[.slice A p.store.cells.length c, .slice A' p.store.roots.length c', .slice A2 p.x.length c2, .slice A3 p.y.length c3] 29)).alloc (.cells #[.slice none 0 0, .slice none 0 0] 26))).frozen? ⟨w.heap.size + 1, o, none⟩ = false := fun o => by simp [go_sem]
  have z3 : w.heap.size + 1 < (((w.alloc (.cells #[.slice A p.store.cells.length c, .slice A' p.store.roots.length c', .slice A2 p.x.length c2, .slice A3 p.y.length c3] 29)).alloc (.cells #[.slice none 0 0, .slice none 0 0] 26))).heap.size := by simp
  have HW : Hid (Below w.heap.size w (((w.alloc (.cells #[.slice A p.store.cells.length c, .slice A' p.store.roots.length c', .slice A2 p.x.length c2, .slice A3 p.y.length c3] 29)).alloc (.cells #[.slice none 0 0, .slice none 0 0] 26)))) := by unfold Hid; exact blw_
  cases hva : snapM p
  · have HV := Lib.hid hva
    have HE := Lib.hid (snapFin_bad hva)
    clear hva
    go_enter Try.func33, Try.ntmps33
    go_wp2_with fail
    ((with_reducible refine (implSnapValid_any _ p _ (hv0.below blw_)).mono ?_); rw [HV.out]; rintro e w1 ⟨rfl, hB1⟩; have Y1 : Below (((w.alloc (.cells #[.slice A p.store.cells.length c, .slice A' p.store.roots.length c', .slice A2 p.x.length c2, .slice A3 p.y.length c3] 29)).alloc (.cells #[.slice none 0 0, .slice none 0 0] 26))).heap.size ((w.alloc (.cells #[.slice A p.store.cells.length c, .slice A' p.store.roots.length c', .slice A2 p.x.length c2, .slice A3 p.y.length c3] 29)).alloc (.cells #[.slice none 0 0, .slice none 0 0] 26)) w1 := blw_; have X1 : Below w.heap.size w w1 := HW.out.trans (Y1.mono HW.out.size); have sX1 := X1.size; have X1s : w.heap.size + 2 ≤ w1.heap.size := (by have := Y1.size; simpa using this); clear hB1; have a0 := cell_below h0 Y1; have a1 := cell_below h1 Y1; have a2 := cell_below h2 Y1; have a3 := cell_below h3 Y1; have r0 := cell_below n0 Y1; have r1 := cell_below n1 Y1; have RFZ : Hid (∀ o, w1.frozen? ⟨w.heap.size + 1, o, none⟩ = false) := (fun o => ((bcell Y1).2.1 _ _ z3).trans (nf o)); have rf0 := RFZ.out 0; have rf1 := RFZ.out 1)
    go_wp2_with fail
    refine bodyPost_ret (v := .tuple #[.agg #[.slice none 0 0, .slice none 0 0], .int .i64 (-1)]) (by simp [results, Try.results33, go_sem, r0, r1]) rfl ⟨_, by rw [HE.out], ?_, (X1.setCell (by simp) _).setCell (by simp) _⟩
    rw [HE.out]
    exact OH.zer
  obtain ⟨v1, v2, v3, v4, v5, v6, v7⟩ := snap_small hva
  have HV := Lib.hid hva
  have HV3 := Lib.hid v3
  have x40 : p.x.length ≤ 40 := by omega
  have y40 : p.y.length ≤ 40 := by omega
  clear hva v3 v4 v5 v6 v7
  go_enter Try.func33, Try.ntmps33
  go_wp2_with fail
  ((with_reducible refine (implSnapValid_any _ p _ (hv0.below blw_)).mono ?_); rw [HV.out]; rintro e w1 ⟨rfl, hB1⟩; have Y1 : Below (((w.alloc (.cells #[.slice A p.store.cells.length c, .slice A' p.store.roots.length c', .slice A2 p.x.length c2, .slice A3 p.y.length c3] 29)).alloc (.cells #[.slice none 0 0, .slice none 0 0] 26))).heap.size ((w.alloc (.cells #[.slice A p.store.cells.length c, .slice A' p.store.roots.length c', .slice A2 p.x.length c2, .slice A3 p.y.length c3] 29)).alloc (.cells #[.slice none 0 0, .slice none 0 0] 26)) w1 := blw_; have X1 : Below w.heap.size w w1 := HW.out.trans (Y1.mono HW.out.size); have sX1 := X1.size; have X1s : w.heap.size + 2 ≤ w1.heap.size := (by have := Y1.size; simpa using this); clear hB1; have a0 := cell_below h0 Y1; have a1 := cell_below h1 Y1; have a2 := cell_below h2 Y1; have a3 := cell_below h3 Y1; have r0 := cell_below n0 Y1; have r1 := cell_below n1 Y1; have RFZ : Hid (∀ o, w1.frozen? ⟨w.heap.size + 1, o, none⟩ = false) := (fun o => ((bcell Y1).2.1 _ _ z3).trans (nf o)); have rf0 := RFZ.out 0; have rf1 := RFZ.out 1)
  go_wp2_with fail
  (with_reducible refine (recording_any _ p _ (hv0.below blw_) (by omega) (fun d hd => Nat.le_trans (HV3.out d hd) (by omega)) (by omega) (by omega) (by omega)).mono ?_)
  rintro e w2 ⟨g, rfl, hP, hB2⟩
  obtain ⟨B, d, B', d', os, S2, d2, S3, d3, hP⟩ := hP
  have Y2 : Below w1.heap.size w1 w2 := blw_
  have HP := Lib.hid hP
  have zw1 : w.heap.size + 1 < w1.heap.size := by omega
  have hgl := hP.lo_
  have hne : g ≠ w.heap.size + 1 := by omega
  have hne2 : w.heap.size + 1 ≠ g := by omega
  clear a0 a1 a2 a3 h0 h1 h2 h3 n0 n1 nf z3 Y1 HW hB2 hP rf0 rf1
  go_wp2
  go_loopg [] (muS (p.x, p.y)) (fun k wr => ∃ q, PTx w1.heap.size wr g q B d B' d' os S2 d2 S3 d3 ∧ Hid (snapM q = true) ∧ Hid (endS q = endS p) ∧ k = muS (q.x, q.y) ∧ Below w1.heap.size w1 wr)
  case atStart => exact ⟨p, HP.out, HV.out, rfl, rfl, Y2⟩
  case round =>
    obtain ⟨q, hQ, HQV, HQE, rfl, hBr⟩ := hrel
    obtain ⟨u1, u2, u3, u4, u5, u6, u7⟩ := snap_small HQV.out
    have HQ := Lib.hid hQ
    have HU4 := Lib.hid u4
    have HU5 := Lib.hid u5
    have q40 : q.x.length ≤ 40 := by omega
    have HYX : Hid (q.y.length = q.x.length) := by unfold Hid; omega
    rcases bool_ft (stepS q).2 with hs | hs
    · have HS := Lib.hid hs
      have HE := Lib.hid (snapFin_end HV.out HQE.out hs)
      go_wp2_with fail
      refine (rstep_any w1.heap.size g q B B' S2 S3 d d' d2 d3 os _ hQ u4 u5 u1 u7).mono ?_
      rw [hs]
      rintro e w3 ⟨rfl, hP3, hOn3⟩
      rw [stepS_same HS.out] at hP3
      have q0 := hP3.q0
      have q1 := hP3.q1
      have q2 := hP3.q2
      have hB3 : Below w1.heap.size w1 w3 := hBr.trans (hOn3.below (by have := hBr.size; omega) hQ.los4)
      have hrh := (hP3.own.rhs hP3.map).rh d d'
      have hrx := hP3.xs.rf
      have s0 := (hB3.cell (p := ⟨w.heap.size + 1, 0, none⟩) zw1).trans r0
      have s1 := (hB3.cell (p := ⟨w.heap.size + 1, 1, none⟩) zw1).trans r1
      have SF : Hid (∀ o, w3.frozen? ⟨w.heap.size + 1, o, none⟩ = false) := fun o => (hB3.frozen (p := ⟨w.heap.size + 1, o, none⟩) zw1).trans (RFZ.out o)
      have X3 : Below w.heap.size w w3 := X1.trans (hB3.mono sX1)
      have hg3 : g < w3.heap.size := hP3.lt
      have zw3 : w.heap.size + 1 < w3.heap.size := by have := hB3.size; omega
      have hS : ∀ W, Below w3.heap.size w3 W → W.cell? ⟨g, 0, none⟩ = some (.slice B q.store.cells.length d) ∧ W.cell? ⟨g, 1, none⟩ = some (.slice B' q.store.roots.length d') ∧ W.cell? ⟨g, 2, none⟩ = some (.slice S2 q.x.length d2) := fun W hW => ⟨cell_below q0 hW, cell_below q1 hW, cell_below q2 hW⟩
      clear hs hQ hP3 hOn3 u3 u4 u5 u6 u7 HQ hBr hB3 r0 r1
      go_upto_region 5 with fail
      go_region_held3 (fun w' => w'.cell? ⟨g, 0, none⟩ = some (.slice B q.store.cells.length d) ∧ w'.cell? ⟨g, 1, none⟩ = some (.slice B' q.store.roots.length d') ∧ w'.cell? ⟨g, 2, none⟩ = some (.slice S2 q.x.length d2))
        (first | (with_reducible exact ⟨t0, t1, t2⟩) | (simp [go_sem, t0, t1, t2, hne, hne2]; done) | exact hS _ blw_)
        (first
          | (go_at_call 91; (with_reducible refine (implSweepCells_any _ q.store S2 q.x d2 _ (hrh.below blw_) (hrx.below blw_) (by omega)).mono ?_); rintro e w5 ⟨v5, rfl, ⟨F, f, F', f', os5, rfl, hm5, hO5, hlo5⟩, hB5⟩; (have z_hB5 := Below.size hB5); (try simp only [World.size_alloc, World.size_setCell, World.size_drew, World.heap_drewN] at z_hB5); have Y5 : Below w3.heap.size w3 w5 := blw_; obtain ⟨t0, t1, t2⟩ := hS w5 Y5; have e0 := cell_below s0 Y5; have e1 := cell_below s1 Y5; have ef0 := ((bcell Y5).2.1 _ _ zw3).trans (SF.out 0); have ef1 := ((bcell Y5).2.1 _ _ zw3).trans (SF.out 1); have zg5 : g < w5.heap.size := Nat.lt_of_lt_of_le hg3 Y5.size; have HM5 := Lib.hid hm5; have HO5 := Lib.hid hO5; have HLO5 := Lib.hid hlo5; clear hm5 hO5 hlo5))
      all_goals
        have hlo5 := HLO5.out
        try simp only [World.size_alloc, World.size_setCell, World.size_drew, World.heap_drewN, heap_drew_] at hlo5
        have X5 : Below w.heap.size w w5 := X3.trans (Y5.mono X3.size)
        have hbase : OH (w.heap.size + 2) w5 (.agg #[.slice F (sweepM q.store q.x).1.cells.length f, .slice F' (sweepM q.store q.x).1.roots.length f']) (sweepM q.store q.x).1 := ⟨F, f, F', f', os5, rfl, HM5.out, HO5.out, fun b hb => by have := hlo5 b hb; omega⟩
        go_wp2_with fail
        refine bodyPost_ret (v := .tuple #[.agg #[.slice F (sweepM q.store q.x).1.cells.length f, .slice F' (sweepM q.store q.x).1.roots.length f'], .int .i64 (sweepM q.store q.x).2]) (by simp [results, Try.results33, go_sem, e0, e1]) rfl ⟨_, by rw [HE.out], ?_, (X5.setCell (by simp) _).setCell (by simp) _⟩
        rw [HE.out]
        exact ((hbase.setlow (by simp) _).setlow (by simp) _).lo_ (by omega)
    · have HS := Lib.hid hs
      go_wp2_with fail
      refine (rstep_any w1.heap.size g q B B' S2 S3 d d' d2 d3 os _ hQ u4 u5 u1 u7).mono ?_
      rw [hs]
      rintro e w3 ⟨rfl, hP3, hOn3⟩
      have hB3 : Below w1.heap.size w1 w3 := hBr.trans (hOn3.below (by have := hBr.size; omega) hQ.los4)
      clear hs hQ u3 u4 u5 u6 u7
      go_wp2
      go_roundg (muS ((stepS q).1.x, (stepS q).1.y))
      case measure => exact stepS_mu HYX.out HS.out
      case rel => exact ⟨(stepS q).1, hP3, snapM_step HQV.out, (endS_next HYX.out).trans HQE.out, rfl, hB3⟩
set_option maxHeartbeats 4000000 in
theorem specSnapFinish_any (v : Value) (p : TwoM) (w : World) (hv : RTw w v p) :
    Calls Try.prog 34 #[v] w fun e w' => ∃ v', e = .returned (.tuple #[v', .int .i64 (snapFinM p).2]) ∧ OH w.heap.size w' v' (snapFinM p).1 ∧ Below w.heap.size w w' := by
  have hv0 := hv
  obtain ⟨A, c, A', c', A2, c2, A3, c3, rfl, -, -, -, -, -⟩ := hv
  have h0 : (((w.alloc (.cells #[.slice A p.store.cells.length c, .slice A' p.store.roots.length c', .slice A2 p.x.length c2, .slice A3 p.y.length c3] 29)).alloc (.cells #[.slice none 0 0, .slice none 0 0] 26))).cell? ⟨w.heap.size, 0, none⟩ = some (.slice A p.store.cells.length c) := by simp [go_sem]
  have h1 : (((w.alloc (.cells #[.slice A p.store.cells.length c, .slice A' p.store.roots.length c', .slice A2 p.x.length c2, .slice A3 p.y.length c3] 29)).alloc (.cells #[.slice none 0 0, .slice none 0 0] 26))).cell? ⟨w.heap.size, 1, none⟩ = some (.slice A' p.store.roots.length c') := by simp [go_sem]
  have h2 : (((w.alloc (.cells #[.slice A p.store.cells.length c, .slice A' p.store.roots.length c', .slice A2 p.x.length c2, .slice A3 p.y.length c3] 29)).alloc (.cells #[.slice none 0 0, .slice none 0 0] 26))).cell? ⟨w.heap.size, 2, none⟩ = some (.slice A2 p.x.length c2) := by simp [go_sem]
  have h3 : (((w.alloc (.cells #[.slice A p.store.cells.length c, .slice A' p.store.roots.length c', .slice A2 p.x.length c2, .slice A3 p.y.length c3] 29)).alloc (.cells #[.slice none 0 0, .slice none 0 0] 26))).cell? ⟨w.heap.size, 3, none⟩ = some (.slice A3 p.y.length c3) := by simp [go_sem]
  have n0 : (((w.alloc (.cells #[.slice A p.store.cells.length c, .slice A' p.store.roots.length c', .slice A2 p.x.length c2, .slice A3 p.y.length c3] 29)).alloc (.cells #[.slice none 0 0, .slice none 0 0] 26))).cell? ⟨w.heap.size + 1, 0, none⟩ = some (.slice none 0 0) := by simp [go_sem]
  have n1 : (((w.alloc (.cells #[.slice A p.store.cells.length c, .slice A' p.store.roots.length c', .slice A2 p.x.length c2, .slice A3 p.y.length c3] 29)).alloc (.cells #[.slice none 0 0, .slice none 0 0] 26))).cell? ⟨w.heap.size + 1, 1, none⟩ = some (.slice none 0 0) := by simp [go_sem]
  have nf : ∀ o, (((w.alloc (.cells #[.slice A p.store.cells.length c, .slice A' p.store.roots.length c', .slice A2 p.x.length c2, .slice A3 p.y.length c3] 29)).alloc (.cells #[.slice none 0 0, .slice none 0 0] 26))).frozen? ⟨w.heap.size + 1, o, none⟩ = false := fun o => by simp [go_sem]
  have z3 : w.heap.size + 1 < (((w.alloc (.cells #[.slice A p.store.cells.length c, .slice A' p.store.roots.length c', .slice A2 p.x.length c2, .slice A3 p.y.length c3] 29)).alloc (.cells #[.slice none 0 0, .slice none 0 0] 26))).heap.size := by simp
  have HW : Hid (Below w.heap.size w (((w.alloc (.cells #[.slice A p.store.cells.length c, .slice A' p.store.roots.length c', .slice A2 p.x.length c2, .slice A3 p.y.length c3] 29)).alloc (.cells #[.slice none 0 0, .slice none 0 0] 26)))) := by unfold Hid; exact blw_
  cases hva : snapM p
  · have HV := Lib.hid hva
    have HE := Lib.hid (snapFin_bad hva)
    clear hva
    go_enter Try.func34, Try.ntmps34
    go_wp2_with fail
    ((with_reducible refine (specSnapValid_any _ p _ (hv0.below blw_)).mono ?_); rw [HV.out]; rintro e w1 ⟨rfl, hB1⟩; have Y1 : Below (((w.alloc (.cells #[.slice A p.store.cells.length c, .slice A' p.store.roots.length c', .slice A2 p.x.length c2, .slice A3 p.y.length c3] 29)).alloc (.cells #[.slice none 0 0, .slice none 0 0] 26))).heap.size ((w.alloc (.cells #[.slice A p.store.cells.length c, .slice A' p.store.roots.length c', .slice A2 p.x.length c2, .slice A3 p.y.length c3] 29)).alloc (.cells #[.slice none 0 0, .slice none 0 0] 26)) w1 := blw_; have X1 : Below w.heap.size w w1 := HW.out.trans (Y1.mono HW.out.size); have sX1 := X1.size; have X1s : w.heap.size + 2 ≤ w1.heap.size := (by have := Y1.size; simpa using this); clear hB1; have a0 := cell_below h0 Y1; have a1 := cell_below h1 Y1; have a2 := cell_below h2 Y1; have a3 := cell_below h3 Y1; have r0 := cell_below n0 Y1; have r1 := cell_below n1 Y1; have RFZ : Hid (∀ o, w1.frozen? ⟨w.heap.size + 1, o, none⟩ = false) := (fun o => ((bcell Y1).2.1 _ _ z3).trans (nf o)); have rf0 := RFZ.out 0; have rf1 := RFZ.out 1)
    go_wp2_with fail
    refine bodyPost_ret (v := .tuple #[.agg #[.slice none 0 0, .slice none 0 0], .int .i64 (-1)]) (by simp [results, Try.results34, go_sem, r0, r1]) rfl ⟨_, by rw [HE.out], ?_, (X1.setCell (by simp) _).setCell (by simp) _⟩
    rw [HE.out]
    exact OH.zer
  obtain ⟨v1, v2, v3, v4, v5, v6, v7⟩ := snap_small hva
  have HV := Lib.hid hva
  have HV3 := Lib.hid v3
  have x40 : p.x.length ≤ 40 := by omega
  have y40 : p.y.length ≤ 40 := by omega
  clear hva v3 v4 v5 v6 v7
  go_enter Try.func34, Try.ntmps34
  go_wp2_with fail
  ((with_reducible refine (specSnapValid_any _ p _ (hv0.below blw_)).mono ?_); rw [HV.out]; rintro e w1 ⟨rfl, hB1⟩; have Y1 : Below (((w.alloc (.cells #[.slice A p.store.cells.length c, .slice A' p.store.roots.length c', .slice A2 p.x.length c2, .slice A3 p.y.length c3] 29)).alloc (.cells #[.slice none 0 0, .slice none 0 0] 26))).heap.size ((w.alloc (.cells #[.slice A p.store.cells.length c, .slice A' p.store.roots.length c', .slice A2 p.x.length c2, .slice A3 p.y.length c3] 29)).alloc (.cells #[.slice none 0 0, .slice none 0 0] 26)) w1 := blw_; have X1 : Below w.heap.size w w1 := HW.out.trans (Y1.mono HW.out.size); have sX1 := X1.size; have X1s : w.heap.size + 2 ≤ w1.heap.size := (by have := Y1.size; simpa using this); clear hB1; have a0 := cell_below h0 Y1; have a1 := cell_below h1 Y1; have a2 := cell_below h2 Y1; have a3 := cell_below h3 Y1; have r0 := cell_below n0 Y1; have r1 := cell_below n1 Y1; have RFZ : Hid (∀ o, w1.frozen? ⟨w.heap.size + 1, o, none⟩ = false) := (fun o => ((bcell Y1).2.1 _ _ z3).trans (nf o)); have rf0 := RFZ.out 0; have rf1 := RFZ.out 1)
  go_wp2_with fail
  (with_reducible refine (l19Copy_any _ p _ (hv0.below blw_) (by omega) (fun d hd => Nat.le_trans (HV3.out d hd) (by omega)) (by omega) (by omega) (by omega)).mono ?_)
  rintro e w2 ⟨v2, rfl, ho, hB2⟩
  obtain ⟨B, d, B', d', os, B2, d2, B3, d3, rfl, hm, hO, hX, hY, hnd, hlo, hxl, hyl⟩ := ho
  have Y2 : Below w1.heap.size w1 w2 := blw_
  have hz2 := Y2.size
  have hP := PTx.mk_ hm hO hX hY hnd hlo hxl hyl hz2 29
  have HP := Lib.hid hP
  have zw1 : w.heap.size + 1 < w1.heap.size := by omega
  have hne : w2.heap.size ≠ w.heap.size + 1 := by omega
  have hne2 : w.heap.size + 1 ≠ w2.heap.size := by omega
  have HY2 := Lib.hid Y2
  clear a0 a1 a2 a3 h0 h1 h2 h3 n0 n1 nf z3 Y1 HW hB2 hP rf0 rf1 hm hO hX hY hnd hlo Y2
  go_wp2
  go_loopg [5] (muS (p.x, p.y) + 1) (fun k s5 wr => ∃ (q : TwoM) (mo : Bool) (D : Option Addr) (e : Nat) (D' : Option Addr) (e' : Nat) (os2 : List OCell) (D2 : Option Addr) (e2 : Nat) (D3 : Option Addr) (e3 : Nat), s5 = .bool mo ∧ PTx w1.heap.size wr w2.heap.size q D e D' e' os2 D2 e2 D3 e3 ∧ Hid (snapM q = true) ∧ Hid (endS q = endS p) ∧ Hid (mo = false → (stepS q).2 = false) ∧ k = (if mo then muS (q.x, q.y) + 1 else 0) ∧ Below w1.heap.size w1 wr)
  case atStart => exact ⟨p, true, B, d, B', d', os, B2, d2, B3, d3, rfl, HP.out, HV.out, rfl, (fun h => by cases h), rfl, HY2.out.alloc hz2 _⟩
  case round =>
    obtain ⟨q, mo, D, e, D', e', os2, D2, e2, D3, e3, rfl, hQ, HQV, HQE, HMO, hk, hBr⟩ := hrel
    obtain ⟨u1, u2, u3, u4, u5, u6, u7⟩ := snap_small HQV.out
    have HQ := Lib.hid hQ
    have q0 := hQ.q0
    have q1 := hQ.q1
    have q2 := hQ.q2
    have q3 := hQ.q3
    have hqz := hQ.lt
    have HRD := Lib.hid hQ.opt.rt
    have q40 : q.x.length ≤ 40 := by omega
    have HYX : Hid (q.y.length = q.x.length) := by unfold Hid; omega
    have hbs := hBr.size
    clear u3 u4 u5 u6 u7
    rcases bool_ft mo with rfl | rfl
    · have HE := Lib.hid (snapFin_end HV.out HQE.out (HMO.out rfl))
      have hrh := (hQ.own.rhs hQ.map).rh e e'
      have hrx := hQ.xs.rf
      have s0 := (hBr.cell (p := ⟨w.heap.size + 1, 0, none⟩) zw1).trans r0
      have s1 := (hBr.cell (p := ⟨w.heap.size + 1, 1, none⟩) zw1).trans r1
      have SF : Hid (∀ o, wr.frozen? ⟨w.heap.size + 1, o, none⟩ = false) := fun o => (hBr.frozen (p := ⟨w.heap.size + 1, o, none⟩) zw1).trans (RFZ.out o)
      have X3 : Below w.heap.size w wr := X1.trans (hBr.mono sX1)
      have zw3 : w.heap.size + 1 < wr.heap.size := by omega
      clear hk hQ q3
      go_wp2_with fail
      (with_reducible refine (specSweepCells_any _ q.store D2 q.x e2 _ hrh hrx (by omega)).mono ?_)
      rintro e9 w5 ⟨v5, rfl, ⟨F, f, F', f', os5, rfl, hm5, hO5, hlo5⟩, hB5⟩
      have t0 := cell_below s0 hB5
      have t1 := cell_below s1 hB5
      have ef0 := ((bcell hB5).2.1 _ _ zw3).trans (SF.out 0)
      have ef1 := ((bcell hB5).2.1 _ _ zw3).trans (SF.out 1)
      have X5 : Below w.heap.size w w5 := X3.trans (hB5.mono X3.size)
      have hbase : OH (w.heap.size + 2) w5 (.agg #[.slice F (sweepM q.store q.x).1.cells.length f, .slice F' (sweepM q.store q.x).1.roots.length f']) (sweepM q.store q.x).1 := ⟨F, f, F', f', os5, rfl, hm5, hO5, fun b hb => by have := hlo5 b hb; omega⟩
      have HB := Lib.hid hbase
      clear hm5 hO5 hlo5 hbase hB5
      go_wp2_with fail
      refine bodyPost_ret (v := .tuple #[.agg #[.slice F (sweepM q.store q.x).1.cells.length f, .slice F' (sweepM q.store q.x).1.roots.length f'], .int .i64 (sweepM q.store q.x).2]) (by simp [results, Try.results34, go_sem, t0, t1]) rfl ⟨_, by rw [HE.out], ?_, (X5.setCell (by simp) _).setCell (by simp) _⟩
      rw [HE.out]
      exact ((HB.out.setlow (by simp) _).setlow (by simp) _).lo_ (by omega)
    · subst hk
      have hM : snapStepM q = stepS q := by unfold snapStepM; rw [HQV.out, if_pos rfl]
      have hspec := specSnapStep_any _ q _ HRD.out
      rw [hM] at hspec
      have qf := hQ.qf
      clear hM hQ
      go_wp2_with fail
      refine hspec.mono ?_
      rintro e5 w5 ⟨v5, rfl, ho5, hB5⟩
      obtain ⟨E, f, E', f', os5, E2, f2, E3, f3, rfl, hm5, hO5, hX5, hY5, hnd5, hlo5, hxl5, hyl5⟩ := ho5
      have hz5 := hB5.size
      have hx5 : w2.heap.size < w5.heap.size := by omega
      have x0 := cell_below q0 hB5
      have x1 := cell_below q1 hB5
      have x2 := cell_below q2 hB5
      have x3 := cell_below q3 hB5
      have xf : ∀ o, w5.frozen? ⟨w2.heap.size, o, none⟩ = false := fun o => ((bcell hB5).2.1 _ _ hqz).trans (qf o)
      have xf0 := xf 0
      have xf1 := xf 1
      have xf2 := xf 2
      have xf3 := xf 3
      have HM5 := Lib.hid hm5
      have HND5 := Lib.hid hnd5
      have HLO5 := Lib.hid hlo5
      have hw5 : Below w1.heap.size w1 w5 := hBr.trans (hB5.mono hbs)
      clear hspec hm5 hnd5 hlo5 xf qf q0 q1 q2 q3
      go_wp2
      go_roundg (if (stepS q).2 then muS ((stepS q).1.x, (stepS q).1.y) + 1 else 0)
      case measure =>
        split
        · have := stepS_mu HYX.out ‹_›; omega
        · omega
      case rel =>
        refine ⟨(stepS q).1, (stepS q).2, E, f, E', f', os5, E2, f2, E3, f3, rfl, ?_, snapM_step HQV.out, (endS_next HYX.out).trans HQE.out, fun h => by rw [stepS_same h]; exact h, rfl, ?_⟩
        · exact ((HQ.out.below hB5).over HM5.out hO5 hX5 hY5 HND5.out HLO5.out hxl5 hyl5 (by omega) hqz).below blw_
        · exact ((((hw5.setCell hz2 _).setCell hz2 _).setCell hz2 _).setCell hz2 _).alloc (by have := hw5.size; simp; omega) _
end Go.Proofs.Yteilaalababfpaa