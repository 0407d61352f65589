/- RunSnap of the program and of the reference return runSnapM, in new memory. -/
import Derived.Test.YteilaalababfpaaChecked
import Derived.Deep.DeepCutAuto
import Derived.Deep.RegionHeld3
import Derived.Test.YteilaalababfpaaCmdsV
import Derived.Test.YteilaalababfpaaSnapF
import Derived.Test.YteilaalababfpaaSnapD
import Derived.Test.YteilaalababfpaaSnapG
import Derived.Test.YteilaalababfpaaGrSnap
import Derived.Test.YteilaalababfpaaSnapStS
namespace Go.Proofs.Yteilaalababfpaa
open Go.RowKit
set_option maxRecDepth 100000
set_option linter.all false
theorem runS_bad {h : HeapM} {l : List CmdM} {n : Int} (hb : (validM h && cmdsOk l && inB 0 n 5) = false) : runSnapM h l n = zeroH := by unfold runSnapM; rw [hb]; rfl
theorem runS_ok {h : HeapM} {l : List CmdM} {n : Int} (h1 : validM h = true) (h2 : cmdsOk l = true) (h3 : inB 0 n 5 = true) : runSnapM h l n = (snapFinM (runS n.toNat (snapStartM h) l)).1 := by unfold runSnapM; rw [h1, h2, h3]; rfl
theorem PTx.overS {lo l2 : Nat} {w : World} {g : Nat} {q : TwoM} {B B' B2 B3 : Option Addr} {d d' d2 d3 : Nat} {os2 : List OCell} {v0 v1 v2 v3 : Value} (k0 : w.cell? ⟨g, 0, none⟩ = some v0) (k1 : w.cell? ⟨g, 1, none⟩ = some v1) (k2 : w.cell? ⟨g, 2, none⟩ = some v2) (k3 : w.cell? ⟨g, 3, none⟩ = some v3) (kf : ∀ o, w.frozen? ⟨g, o, none⟩ = false) (hm : os2.map (·.c) = q.store.cells) (ho : OHs w B d B' d' os2 q.store.roots) (hx : OF 4 fb w B2 d2 q.x) (hy : OF 4 fb w B3 d3 q.y)
    (hnd : (hblks B os2 B' ++ blk B2 ++ blk B3).Nodup) (hlo : ∀ b ∈ hblks B os2 B' ++ blk B2 ++ blk B3, l2 ≤ b) (hxl : q.x.length ≤ 9223372036854775807) (hyl : q.y.length ≤ 9223372036854775807) (hl2 : lo ≤ l2) (hlg : lo ≤ g) (hg : g < l2) :
    PTx lo ((((w.setCell ⟨g, 0, none⟩ (.slice B q.store.cells.length d)).setCell ⟨g, 1, none⟩ (.slice B' q.store.roots.length d')).setCell ⟨g, 2, none⟩ (.slice B2 q.x.length d2)).setCell ⟨g, 3, none⟩ (.slice B3 q.y.length d3)) g q B d B' d' os2 B2 d2 B3 d3 := by
  have hk : ∀ b ∈ hblks B os2 B' ++ blk B2 ++ blk B3, b ≠ g := fun b hb e => by have := hlo b hb; omega
  have hlt : g < w.heap.size := World.block_lt_of_cell? w _ k0
  refine ⟨by simp [go_sem, k0, k1, k2, k3], by simp [go_sem, k0, k1, k2, k3], by simp [go_sem, k0, k1, k2, k3], by simp [go_sem, k0, k1, k2, k3], fun o => by simp [go_sem, kf o], hlg, by simpa using hlt, fun hc => by have := hlo g hc; omega, hm, ?_, ?_, ?_, hnd, fun b hb => Nat.le_trans hl2 (hlo b hb), hxl, hyl⟩
  · exact ho.keep fun b hb => by have := hk b (List.mem_append.2 (.inl (List.mem_append.2 (.inl hb)))); rw [heap_setCell_ne _ _ _ this, heap_setCell_ne _ _ _ this, heap_setCell_ne _ _ _ this, heap_setCell_ne _ _ _ this]
  · exact hx.keep fun b hb => by have := hk b (List.mem_append.2 (.inl (List.mem_append.2 (.inr hb)))); rw [heap_setCell_ne _ _ _ this, heap_setCell_ne _ _ _ this, heap_setCell_ne _ _ _ this, heap_setCell_ne _ _ _ this]
  · exact hy.keep fun b hb => by have := hk b (List.mem_append.2 (.inr hb)); rw [heap_setCell_ne _ _ _ this, heap_setCell_ne _ _ _ this, heap_setCell_ne _ _ _ this, heap_setCell_ne _ _ _ this]
set_option maxHeartbeats 8000000 in
theorem implRunSnap_any (v : Value) (h : HeapM) (L : Option Addr) (l : List CmdM) (kl : Nat) (st : Int) (w : World) (hv : RH w v h) (hr0 : RO w L l) (hl : l.length ≤ 9223372036854775807) :
    Calls Try.prog 41 #[v, .slice L l.length kl, .int .i64 st] w fun e w' => ∃ v', e = .returned v' ∧ OH w.heap.size w' v' (runSnapM h l st) ∧ Below w.heap.size w w' := by
  have hv0 := hv
  obtain ⟨A, c, A', c', rfl, -, -, -, -⟩ := hv
  have h0 : (((w.alloc (.cells #[.slice A h.cells.length c, .slice A' h.roots.length c'] 26)).alloc (.cells #[.slice none 0 0, .slice none 0 0] 26))).cell? ⟨w.heap.size, 0, none⟩ = some (.slice A h.cells.length c) := by simp [go_sem]
  have h1 : (((w.alloc (.cells #[.slice A h.cells.length c, .slice A' h.roots.length c'] 26)).alloc (.cells #[.slice none 0 0, .slice none 0 0] 26))).cell? ⟨w.heap.size, 1, none⟩ = some (.slice A' h.roots.length c') := by simp [go_sem]
  have n0 : (((w.alloc (.cells #[.slice A h.cells.length c, .slice A' h.roots.length c'] 26)).alloc (.cells #[.slice none 0 0, .slice none 0 0] 26))).cell? ⟨w.heap.size + 1, 0, none⟩ = some (.slice none 0 0) := by simp [go_sem]
  have n1 : (((w.alloc (.cells #[.slice A h.cells.length c, .slice A' h.roots.length c'] 26)).alloc (.cells #[.slice none 0 0, .slice none 0 0] 26))).cell? ⟨w.heap.size + 1, 1, none⟩ = some (.slice none 0 0) := by simp [go_sem]
  have nf : ∀ o, (((w.alloc (.cells #[.slice A h.cells.length c, .slice A' h.roots.length c'] 26)).alloc (.cells #[.slice none 0 0, .slice none 0 0] 26))).frozen? ⟨w.heap.size + 1, o, none⟩ = false := fun o => by simp [go_sem]
  have z3 : w.heap.size + 1 < (((w.alloc (.cells #[.slice A h.cells.length c, .slice A' h.roots.length c'] 26)).alloc (.cells #[.slice none 0 0, .slice none 0 0] 26))).heap.size := by simp
  have HW : Hid (Below w.heap.size w (((w.alloc (.cells #[.slice A h.cells.length c, .slice A' h.roots.length c'] 26)).alloc (.cells #[.slice none 0 0, .slice none 0 0] 26)))) := by unfold Hid; exact blw_
  cases hva : validM h
  · have HV := Lib.hid hva
    have HE := Lib.hid (runS_bad (h := h) (l := l) (n := st) (by rw [hva]; rfl))
    clear hva
    go_enter Try.func41, Try.ntmps41
    go_wp2_with fail
    ((with_reducible refine (implHeapValid_any _ h _ (hv0.below blw_)).mono ?_); rw [HV.out]; rintro e w0 ⟨rfl, hB0⟩; have Y0 : Below (((w.alloc (.cells #[.slice A h.cells.length c, .slice A' h.roots.length c'] 26)).alloc (.cells #[.slice none 0 0, .slice none 0 0] 26))).heap.size ((w.alloc (.cells #[.slice A h.cells.length c, .slice A' h.roots.length c'] 26)).alloc (.cells #[.slice none 0 0, .slice none 0 0] 26)) w0 := blw_; have X0 : Below w.heap.size w w0 := HW.out.trans (Y0.mono HW.out.size); have sX0 := X0.size; have sY0 := Y0.size; clear hB0; have a0 := cell_below h0 Y0; have a1 := cell_below h1 Y0; have r0 := cell_below n0 Y0; have r1 := cell_below n1 Y0; have rf0 := ((bcell Y0).2.1 _ _ z3).trans (nf 0); have rf1 := ((bcell Y0).2.1 _ _ z3).trans (nf 1))
    go_wp2_with fail
    refine bodyPost_ret (v := .agg #[.slice none 0 0, .slice none 0 0]) (by simp [results, Try.results41, go_sem, r0, r1]) rfl ⟨_, rfl, ?_, (X0.setCell (by simp) _).setCell (by simp) _⟩
    rw [HE.out]
    exact OH.zero
  have HV := Lib.hid hva
  obtain ⟨v1, v2, v3⟩ := valid_small hva
  clear v2 v3
  cases hok : cmdsOk l
  · have HC := Lib.hid hok
    have HE := Lib.hid (runS_bad (h := h) (l := l) (n := st) (by rw [hva, hok]; rfl))
    clear hva hok
    go_enter Try.func41, Try.ntmps41
    go_wp2_with fail
    ((with_reducible refine (implHeapValid_any _ h _ (hv0.below blw_)).mono ?_); rw [HV.out]; rintro e w0 ⟨rfl, hB0⟩; have Y0 : Below (((w.alloc (.cells #[.slice A h.cells.length c, .slice A' h.roots.length c'] 26)).alloc (.cells #[.slice none 0 0, .slice none 0 0] 26))).heap.size ((w.alloc (.cells #[.slice A h.cells.length c, .slice A' h.roots.length c'] 26)).alloc (.cells #[.slice none 0 0, .slice none 0 0] 26)) w0 := blw_; have X0 : Below w.heap.size w w0 := HW.out.trans (Y0.mono HW.out.size); have sX0 := X0.size; have sY0 := Y0.size; clear hB0; have a0 := cell_below h0 Y0; have a1 := cell_below h1 Y0; have r0 := cell_below n0 Y0; have r1 := cell_below n1 Y0; have rf0 := ((bcell Y0).2.1 _ _ z3).trans (nf 0); have rf1 := ((bcell Y0).2.1 _ _ z3).trans (nf 1))
    go_wp2_with fail
    ((with_reducible refine (implCommandsValid_any L l kl _ (hr0.below blw_) hl).mono ?_); rw [HC.out]; rintro e w1 ⟨rfl, hB1⟩; have Y1 : Below (((w.alloc (.cells #[.slice A h.cells.length c, .slice A' h.roots.length c'] 26)).alloc (.cells #[.slice none 0 0, .slice none 0 0] 26))).heap.size ((w.alloc (.cells #[.slice A h.cells.length c, .slice A' h.roots.length c'] 26)).alloc (.cells #[.slice none 0 0, .slice none 0 0] 26)) w1 := blw_; have X1 : Below w.heap.size w w1 := HW.out.trans (Y1.mono HW.out.size); have sX1 := X1.size; have sY1 := Y1.size; have X1s : w.heap.size + 2 ≤ w1.heap.size := (by have := Y1.size; simpa using this); clear X0 Y0 a0 a1 r0 r1 rf0 rf1 hB1; have a0 := cell_below h0 Y1; have a1 := cell_below h1 Y1; have r0 := cell_below n0 Y1; have r1 := cell_below n1 Y1; have RFZ : Hid (∀ o, w1.frozen? ⟨w.heap.size + 1, o, none⟩ = false) := (fun o => ((bcell Y1).2.1 _ _ z3).trans (nf o)); have rf0 := RFZ.out 0; have rf1 := RFZ.out 1)
    go_wp2_with fail
    refine bodyPost_ret (v := .agg #[.slice none 0 0, .slice none 0 0]) (by simp [results, Try.results41, go_sem, r0, r1]) rfl ⟨_, rfl, ?_, (X1.setCell (by simp) _).setCell (by simp) _⟩
    rw [HE.out]
    exact OH.zero
  have HC := Lib.hid hok
  have hl40 : l.length ≤ 40 := by unfold cmdsOk at hok; simp only [Bool.and_eq_true, decide_eq_true_eq] at hok; exact hok.1
  cases hin : inB 0 st 5
  · have HE := Lib.hid (runS_bad (h := h) (l := l) (n := st) (by rw [hva, hok, hin]; rfl))
    have hst := inB_false.1 hin
    have HI := Lib.hid hin
    clear hva hok hin
    rcases (by omega : st < 0 ∨ 5 < st) with hs | hs
    all_goals
      have hs0 : ¬ (0 ≤ st ∧ st ≤ 5) := by omega
      go_enter Try.func41, Try.ntmps41
      go_wp2_with fail
      ((with_reducible refine (implHeapValid_any _ h _ (hv0.below blw_)).mono ?_); rw [HV.out]; rintro e w0 ⟨rfl, hB0⟩; have Y0 : Below (((w.alloc (.cells #[.slice A h.cells.length c, .slice A' h.roots.length c'] 26)).alloc (.cells #[.slice none 0 0, .slice none 0 0] 26))).heap.size ((w.alloc (.cells #[.slice A h.cells.length c, .slice A' h.roots.length c'] 26)).alloc (.cells #[.slice none 0 0, .slice none 0 0] 26)) w0 := blw_; have X0 : Below w.heap.size w w0 := HW.out.trans (Y0.mono HW.out.size); have sX0 := X0.size; have sY0 := Y0.size; clear hB0; have a0 := cell_below h0 Y0; have a1 := cell_below h1 Y0; have r0 := cell_below n0 Y0; have r1 := cell_below n1 Y0; have rf0 := ((bcell Y0).2.1 _ _ z3).trans (nf 0); have rf1 := ((bcell Y0).2.1 _ _ z3).trans (nf 1))
      go_wp2_with fail
      ((with_reducible refine (implCommandsValid_any L l kl _ (hr0.below blw_) hl).mono ?_); rw [HC.out]; rintro e w1 ⟨rfl, hB1⟩; have Y1 : Below (((w.alloc (.cells #[.slice A h.cells.length c, .slice A' h.roots.length c'] 26)).alloc (.cells #[.slice none 0 0, .slice none 0 0] 26))).heap.size ((w.alloc (.cells #[.slice A h.cells.length c, .slice A' h.roots.length c'] 26)).alloc (.cells #[.slice none 0 0, .slice none 0 0] 26)) w1 := blw_; have X1 : Below w.heap.size w w1 := HW.out.trans (Y1.mono HW.out.size); have sX1 := X1.size; have sY1 := Y1.size; have X1s : w.heap.size + 2 ≤ w1.heap.size := (by have := Y1.size; simpa using this); clear X0 Y0 a0 a1 r0 r1 rf0 rf1 hB1; have a0 := cell_below h0 Y1; have a1 := cell_below h1 Y1; have r0 := cell_below n0 Y1; have r1 := cell_below n1 Y1; have RFZ : Hid (∀ o, w1.frozen? ⟨w.heap.size + 1, o, none⟩ = false) := (fun o => ((bcell Y1).2.1 _ _ z3).trans (nf o)); have rf0 := RFZ.out 0; have rf1 := RFZ.out 1)
      go_wp2_with fail
      refine bodyPost_ret (v := .agg #[.slice none 0 0, .slice none 0 0]) (by simp [results, Try.results41, go_sem, r0, r1]) rfl ⟨_, rfl, ?_, (X1.setCell (by simp) _).setCell (by simp) _⟩
      rw [HE.out]
      exact OH.zero
  have HE := Lib.hid (runS_ok hva hok hin)
  obtain ⟨hs0, hs5⟩ := inB_iff.1 hin
  have HI := Lib.hid hin
  clear hva hok hin
  go_enter Try.func41, Try.ntmps41
  go_wp2_with fail
  ((with_reducible refine (implHeapValid_any _ h _ (hv0.below blw_)).mono ?_); rw [HV.out]; rintro e w0 ⟨rfl, hB0⟩; have Y0 : Below (((w.alloc (.cells #[.slice A h.cells.length c, .slice A' h.roots.length c'] 26)).alloc (.cells #[.slice none 0 0, .slice none 0 0] 26))).heap.size ((w.alloc (.cells #[.slice A h.cells.length c, .slice A' h.roots.length c'] 26)).alloc (.cells #[.slice none 0 0, .slice none 0 0] 26)) w0 := blw_; have X0 : Below w.heap.size w w0 := HW.out.trans (Y0.mono HW.out.size); have sX0 := X0.size; have sY0 := Y0.size; clear hB0; have a0 := cell_below h0 Y0; have a1 := cell_below h1 Y0; have r0 := cell_below n0 Y0; have r1 := cell_below n1 Y0; have rf0 := ((bcell Y0).2.1 _ _ z3).trans (nf 0); have rf1 := ((bcell Y0).2.1 _ _ z3).trans (nf 1))
  go_wp2_with fail
  ((with_reducible refine (implCommandsValid_any L l kl _ (hr0.below blw_) hl).mono ?_); rw [HC.out]; rintro e w1 ⟨rfl, hB1⟩; have Y1 : Below (((w.alloc (.cells #[.slice A h.cells.length c, .slice A' h.roots.length c'] 26)).alloc (.cells #[.slice none 0 0, .slice none 0 0] 26))).heap.size ((w.alloc (.cells #[.slice A h.cells.length c, .slice A' h.roots.length c'] 26)).alloc (.cells #[.slice none 0 0, .slice none 0 0] 26)) w1 := blw_; have X1 : Below w.heap.size w w1 := HW.out.trans (Y1.mono HW.out.size); have sX1 := X1.size; have sY1 := Y1.size; have X1s : w.heap.size + 2 ≤ w1.heap.size := (by have := Y1.size; simpa using this); clear X0 Y0 a0 a1 r0 r1 rf0 rf1 hB1; have a0 := cell_below h0 Y1; have a1 := cell_below h1 Y1; have r0 := cell_below n0 Y1; have r1 := cell_below n1 Y1; have RFZ : Hid (∀ o, w1.frozen? ⟨w.heap.size + 1, o, none⟩ = false) := (fun o => ((bcell Y1).2.1 _ _ z3).trans (nf o)); have rf0 := RFZ.out 0; have rf1 := RFZ.out 1)
  have zq0 : w.heap.size < w1.heap.size := by omega
  have zq1 : w.heap.size + 1 < w1.heap.size := by omega
  clear h0 h1 n0 n1 nf z3 Y1 HW
  go_wp2_with fail
  (with_reducible refine (implSnapStart_any _ h _ (hv0.below blw_)).mono ?_)
  rintro e w2 ⟨v2, rfl, ho, hB2⟩
  obtain ⟨B, d, B', d', os, B2, d2, B3, d3, rfl, hm, hO, hX, hY, hnd, hlo, hxl, hyl⟩ := ho
  have Y2 : Below w1.heap.size w1 w2 := blw_
  have hz2 := Y2.size
  have hlo' : ∀ b ∈ hblks B os B' ++ blk B2 ++ blk B3, w1.heap.size ≤ b := hlo
  have HP := Lib.hid (PTx.mk_ hm hO hX hY hnd hlo' hxl hyl hz2 29)
  have HY2 := Lib.hid Y2
  have hne : w2.heap.size ≠ w.heap.size + 1 := by omega
  have hne2 : w.heap.size + 1 ≠ w2.heap.size := by omega
  clear a0 a1 hB2 hm hO hX hY hnd hlo hlo' Y2 rf0 rf1
  go_wp2
  go_loopw [33] (fun i wr => ∃ (k : Nat) (q : TwoM) (D : Option Addr) (e : Nat) (D' : Option Addr) (e' : Nat) (os2 : List OCell) (D2 : Option Addr) (e2 : Nat) (D3 : Option Addr) (e3 : Nat), k ≤ l.length ∧ i = .int .i64 k ∧ Hid (q = runS st.toNat (snapStartM h) (l.take k)) ∧ PTx w1.heap.size wr w2.heap.size q D e D' e' os2 D2 e2 D3 e3 ∧ Below w1.heap.size w1 wr) (fun i _ => l.length - (intOf i).toNat)
  case atStart => exact ⟨0, snapStartM h, B, d, B', d', os, B2, d2, B3, d3, by omega, rfl, rfl, HP.out, HY2.out.alloc hz2 _⟩
  case round =>
    obtain ⟨k, q, D, e, D', e', os2, D2, e2, D3, e3, hk, rfl, HR, hQ, hBr⟩ := hrel
    have hbs := hBr.size
    have Xr : Below w.heap.size w wr := X1.trans (hBr.mono sX1)
    have q0 := hQ.q0
    have q1 := hQ.q1
    have q2 := hQ.q2
    have q3 := hQ.q3
    have hqz := hQ.lt
    have HQ := Lib.hid hQ
    clear hQ
    by_cases hlt : k < l.length
    · obtain ⟨b, o, x, rfl, gx, c1, c2, c3, c4, hb⟩ := (hr0.below Xr).at_ hlt
      have HN := Lib.hid (runS_snoc (n := st.toNat) (p := snapStartM h) gx)
      have hlt' : (k : Int) < (l.length : Int) := by omega
      clear gx
      obtain ⟨wo, rfl⟩ : ∃ wo, wo = wr := ⟨_, rfl⟩
      have hzc : wo.heap.size ≠ w2.heap.size := by omega
      have hzc2 : w2.heap.size ≠ wo.heap.size := by omega
      go_wp2
      go_loopw [38] (fun i wr => ∃ (j : Nat) (q2 : TwoM) (F : Option Addr) (f : Nat) (F' : Option Addr) (f' : Nat) (os4 : List OCell) (F2 : Option Addr) (f2 : Nat) (F3 : Option Addr) (f3 : Nat), j ≤ st.toNat ∧ i = .int .i64 j ∧ Hid (q2 = stepsS j q) ∧ PTx w1.heap.size wr w2.heap.size q2 F f F' f' os4 F2 f2 F3 f3 ∧ wr.cell? ⟨wo.heap.size, 0, none⟩ = some (.int .i64 x.op) ∧ wr.cell? ⟨wo.heap.size, 1, none⟩ = some (.int .i64 x.a) ∧ wr.cell? ⟨wo.heap.size, 2, none⟩ = some (.int .i64 x.b) ∧ wr.cell? ⟨wo.heap.size, 3, none⟩ = some (.int .i64 x.c) ∧ Below w1.heap.size w1 wr) (fun i _ => st.toNat - (intOf i).toNat)
      case atStart => exact ⟨0, q, D, e, D', e', os2, D2, e2, D3, e3, by omega, rfl, rfl, HQ.out.below blw_, by simp [go_sem], by simp [go_sem], by simp [go_sem], by simp [go_sem], hBr.alloc hbs _⟩
      case round =>
        obtain ⟨j, y, F, f, F', f', os4, F2, f2, F3, f3, hj, rfl, HR2, hQ2, m0, m1, m2, m3, hBi⟩ := hrel
        have p0 := hQ2.q0
        have p1 := hQ2.q1
        have p2 := hQ2.q2
        have p3 := hQ2.q3
        have hqi := hQ2.lt
        have hbi := hBi.size
        have pf := hQ2.qf
        have hrt := hQ2.opt.rt
        have HQ2 := Lib.hid hQ2
        have hzi : wo.heap.size < wr.heap.size := World.block_lt_of_cell? wr _ m0
        clear hQ2
        by_cases hlt2 : j < st.toNat
        · have hltI : (j : Int) < st := by omega
          have HN2 : Hid ((snapStepM y).1 = stepsS (j + 1) q) := by unfold Hid; rw [HR2.out]; rfl
          go_wp2_with fail
          (with_reducible refine (implSnapStep_any _ y _ hrt).mono ?_)
          rintro e5 w5 ⟨v5, rfl, ⟨E, g, E', g', os5, E2, g2, E3, g3, rfl, hm5, hO5, hX5, hY5, hnd5, hlo5, hxl5, hyl5⟩, hB5⟩
          have x0 := cell_below p0 hB5
          have x1 := cell_below p1 hB5
          have x2 := cell_below p2 hB5
          have x3 := cell_below p3 hB5
          have xf : ∀ o, w5.frozen? ⟨w2.heap.size, o, none⟩ = false := fun o => ((bcell hB5).2.1 _ _ hqi).trans (pf o)
          have xf0 := xf 0
          have xf1 := xf 1
          have xf2 := xf 2
          have xf3 := xf 3
          have hx5 : w2.heap.size < w5.heap.size := World.block_lt_of_cell? w5 _ x0
          have hw5 : Below w1.heap.size w1 w5 := hBi.trans (hB5.mono hbi)
          have e0 := cell_below m0 hB5
          have e1 := cell_below m1 hB5
          have e2 := cell_below m2 hB5
          have e3 := cell_below m3 hB5
          have HM5 := Lib.hid hm5
          have HND5 := Lib.hid hnd5
          have HLO5 := Lib.hid hlo5
          have HO5 := Lib.hid hO5
          have HX5 := Lib.hid hX5
          have HY5 := Lib.hid hY5
          have H5 := Lib.hid (HQ2.out.below hB5)
          clear hm5 hnd5 hlo5 hO5 hX5 hY5 hB5 xf pf p0 p1 p2 p3 hrt
          go_wp2
          go_roundw
          case rel =>
            refine ⟨j + 1, (snapStepM y).1, E, g, E', g', os5, E2, g2, E3, g3, by omega, by go_num, HN2, ?_, by simp [go_sem, e0, hzc, hzc2], by simp [go_sem, e1, hzc, hzc2], by simp [go_sem, e2, hzc, hzc2], by simp [go_sem, e3, hzc, hzc2], ?_⟩
            · exact H5.out.over HM5.out HO5.out HX5.out HY5.out HND5.out HLO5.out hxl5 hyl5 (by omega) hqi
            · exact (((hw5.setCell hz2 _).setCell hz2 _).setCell hz2 _).setCell hz2 _
          case measure => simp [intOf]; omega
        · have hje : j = st.toNat := by omega
          have hgeI : ¬ (j : Int) < st := by omega
          have HN3 : Hid ((snapCmdM y x).1 = runS st.toNat (snapStartM h) (l.take (k + 1))) := by unfold Hid; rw [HN.out, ← HR.out, HR2.out, hje]
          clear hje HR2
          go_wp2_with fail
          (with_reducible refine (implSnapCommand_any _ y x _ hrt).mono ?_)
          rintro e5 w5 ⟨v5, rfl, ⟨E, g, E', g', os5, E2, g2, E3, g3, rfl, hm5, hO5, hX5, hY5, hnd5, hlo5, hxl5, hyl5⟩, hB5⟩
          have x0 := cell_below p0 hB5
          have x1 := cell_below p1 hB5
          have x2 := cell_below p2 hB5
          have x3 := cell_below p3 hB5
          have xf : ∀ o, w5.frozen? ⟨w2.heap.size, o, none⟩ = false := fun o => ((bcell hB5).2.1 _ _ hqi).trans (pf o)
          have xf0 := xf 0
          have xf1 := xf 1
          have xf2 := xf 2
          have xf3 := xf 3
          have hx5 : w2.heap.size < w5.heap.size := World.block_lt_of_cell? w5 _ x0
          have hw5 : Below w1.heap.size w1 w5 := hBi.trans (hB5.mono hbi)
          have HM5 := Lib.hid hm5
          have HND5 := Lib.hid hnd5
          have HLO5 := Lib.hid hlo5
          have HO5 := Lib.hid hO5
          have HX5 := Lib.hid hX5
          have HY5 := Lib.hid hY5
          have H5 := Lib.hid (HQ2.out.below hB5)
          clear hm5 hnd5 hlo5 hO5 hX5 hY5 hB5 xf pf p0 p1 p2 p3 hrt
          go_wp2
          go_roundw
          case rel =>
            refine ⟨k + 1, (snapCmdM y x).1, E, g, E', g', os5, E2, g2, E3, g3, by omega, by go_num, HN3, ?_, ?_⟩
            · exact H5.out.over HM5.out HO5.out HX5.out HY5.out HND5.out HLO5.out hxl5 hyl5 (by omega) hqi
            · exact (((hw5.setCell hz2 _).setCell hz2 _).setCell hz2 _).setCell hz2 _
          case measure => simp [intOf]; omega
    · have hke : k = l.length := by omega
      have hge : ¬ (k : Int) < (l.length : Int) := by omega
      have HM : Hid (runSnapM h l st = (snapFinM q).1) := by unfold Hid; rw [HE.out, HR.out, hke, List.take_length]
      have hrt := HQ.out.opt.rt
      have s0 := (hBr.cell (p := ⟨w.heap.size + 1, 0, none⟩) zq1).trans r0
      have s1 := (hBr.cell (p := ⟨w.heap.size + 1, 1, none⟩) zq1).trans r1
      have SF : Hid (∀ o, wr.frozen? ⟨w.heap.size + 1, o, none⟩ = false) := fun o => (hBr.frozen (p := ⟨w.heap.size + 1, o, none⟩) zq1).trans (RFZ.out o)
      have zq3 : w.heap.size + 1 < wr.heap.size := by omega
      clear hke HR
      go_wp2_with fail
      (with_reducible refine (implSnapFinish_any _ q _ hrt).mono ?_)
      rintro e9 w5 ⟨v5, rfl, ⟨G, g, G', g', os5, rfl, hm5, hO5, hlo5⟩, hB5⟩
      have t0 := cell_below s0 hB5
      have t1 := cell_below s1 hB5
      have ef0 := ((bcell hB5).2.1 _ _ zq3).trans (SF.out 0)
      have ef1 := ((bcell hB5).2.1 _ _ zq3).trans (SF.out 1)
      have X5 : Below w.heap.size w w5 := Xr.trans (hB5.mono Xr.size)
      have zq5 : w.heap.size + 1 < w5.heap.size := by have := hB5.size; omega
      have hbase : OH (w.heap.size + 2) w5 (.agg #[.slice G (snapFinM q).1.cells.length g, .slice G' (snapFinM q).1.roots.length g']) (snapFinM q).1 := ⟨G, g, G', g', os5, rfl, hm5, hO5, fun b hb => by have := hlo5 b hb; omega⟩
      have HB := Lib.hid hbase
      clear hm5 hO5 hlo5 hbase hB5
      go_wp2_with fail
      refine bodyPost_ret (v := .agg #[.slice G (snapFinM q).1.cells.length g, .slice G' (snapFinM q).1.roots.length g']) (by simp [results, Try.results41, go_sem, t0, t1, zq5]) rfl ⟨_, rfl, ?_, blw_⟩
      rw [HM.out]
      exact OH.lo_ (lo := w.heap.size + 2) (OH.below (OH.setlt (OH.setlt HB.out (by simp) _) (by simp) _) ((Below.refl _ _).alloc (Nat.le_refl _) _)) (by omega)
set_option maxHeartbeats 8000000 in
theorem specRunSnap_any (v : Value) (h : HeapM) (L : Option Addr) (l : List CmdM) (kl : Nat) (st : Int) (w : World) (hv : RH w v h) (hr0 : RO w L l) (hl : l.length ≤ 9223372036854775807) :
    Calls Try.prog 43 #[v, .slice L l.length kl, .int .i64 st] w fun e w' => ∃ v', e = .returned v' ∧ OH w.heap.size w' v' (runSnapM h l st) ∧ Below w.heap.size w w' := by
  have hv0 := hv
  obtain ⟨A, c, A', c', rfl, -, -, -, -⟩ := hv
  have h0 : (((w.alloc (.cells #[.slice A h.cells.length c, .slice A' h.roots.length c'] 26)).alloc (.cells #[.slice none 0 0, .slice none 0 0] 26))).cell? ⟨w.heap.size, 0, none⟩ = some (.slice A h.cells.length c) := by simp [go_sem]
  have h1 : (((w.alloc (.cells #[.slice A h.cells.length c, .slice A' h.roots.length c'] 26)).alloc (.cells #[.slice none 0 0, .slice none 0 0] 26))).cell? ⟨w.heap.size, 1, none⟩ = some (.slice A' h.roots.length c') := by simp [go_sem]
  have n0 : (((w.alloc (.cells #[.slice A h.cells.length c, .slice A' h.roots.length c'] 26)).alloc (.cells #[.slice none 0 0, .slice none 0 0] 26))).cell? ⟨w.heap.size + 1, 0, none⟩ = some (.slice none 0 0) := by simp [go_sem]
  have n1 : (((w.alloc (.cells #[.slice A h.cells.length c, .slice A' h.roots.length c'] 26)).alloc (.cells #[.slice none 0 0, .slice none 0 0] 26))).cell? ⟨w.heap.size + 1, 1, none⟩ = some (.slice none 0 0) := by simp [go_sem]
  have nf : ∀ o, (((w.alloc (.cells #[.slice A h.cells.length c, .slice A' h.roots.length c'] 26)).alloc (.cells #[.slice none 0 0, .slice none 0 0] 26))).frozen? ⟨w.heap.size + 1, o, none⟩ = false := fun o => by simp [go_sem]
  have z3 : w.heap.size + 1 < (((w.alloc (.cells #[.slice A h.cells.length c, .slice A' h.roots.length c'] 26)).alloc (.cells #[.slice none 0 0, .slice none 0 0] 26))).heap.size := by simp
  have HW : Hid (Below w.heap.size w (((w.alloc (.cells #[.slice A h.cells.length c, .slice A' h.roots.length c'] 26)).alloc (.cells #[.slice none 0 0, .slice none 0 0] 26)))) := by unfold Hid; exact blw_
  cases hva : validM h
  · have HV := Lib.hid hva
    have HE := Lib.hid (runS_bad (h := h) (l := l) (n := st) (by rw [hva]; rfl))
    clear hva
    go_enter Try.func43, Try.ntmps43
    go_wp2_with fail
    ((with_reducible refine (specHeapValid_any _ h _ (hv0.below blw_)).mono ?_); rw [HV.out]; rintro e w0 ⟨rfl, hB0⟩; have Y0 : Below (((w.alloc (.cells #[.slice A h.cells.length c, .slice A' h.roots.length c'] 26)).alloc (.cells #[.slice none 0 0, .slice none 0 0] 26))).heap.size ((w.alloc (.cells #[.slice A h.cells.length c, .slice A' h.roots.length c'] 26)).alloc (.cells #[.slice none 0 0, .slice none 0 0] 26)) w0 := blw_; have X0 : Below w.heap.size w w0 := HW.out.trans (Y0.mono HW.out.size); have sX0 := X0.size; have sY0 := Y0.size; clear hB0; have a0 := cell_below h0 Y0; have a1 := cell_below h1 Y0; have r0 := cell_below n0 Y0; have r1 := cell_below n1 Y0; have rf0 := ((bcell Y0).2.1 _ _ z3).trans (nf 0); have rf1 := ((bcell Y0).2.1 _ _ z3).trans (nf 1))
    go_wp2_with fail
    refine bodyPost_ret (v := .agg #[.slice none 0 0, .slice none 0 0]) (by simp [results, Try.results43, go_sem, r0, r1]) rfl ⟨_, rfl, ?_, (X0.setCell (by simp) _).setCell (by simp) _⟩
    rw [HE.out]
    exact OH.zero
  have HV := Lib.hid hva
  obtain ⟨v1, v2, v3⟩ := valid_small hva
  clear v2 v3
  cases hok : cmdsOk l
  · have HC := Lib.hid hok
    have HE := Lib.hid (runS_bad (h := h) (l := l) (n := st) (by rw [hva, hok]; rfl))
    clear hva hok
    go_enter Try.func43, Try.ntmps43
    go_wp2_with fail
    ((with_reducible refine (specHeapValid_any _ h _ (hv0.below blw_)).mono ?_); rw [HV.out]; rintro e w0 ⟨rfl, hB0⟩; have Y0 : Below (((w.alloc (.cells #[.slice A h.cells.length c, .slice A' h.roots.length c'] 26)).alloc (.cells #[.slice none 0 0, .slice none 0 0] 26))).heap.size ((w.alloc (.cells #[.slice A h.cells.length c, .slice A' h.roots.length c'] 26)).alloc (.cells #[.slice none 0 0, .slice none 0 0] 26)) w0 := blw_; have X0 : Below w.heap.size w w0 := HW.out.trans (Y0.mono HW.out.size); have sX0 := X0.size; have sY0 := Y0.size; clear hB0; have a0 := cell_below h0 Y0; have a1 := cell_below h1 Y0; have r0 := cell_below n0 Y0; have r1 := cell_below n1 Y0; have rf0 := ((bcell Y0).2.1 _ _ z3).trans (nf 0); have rf1 := ((bcell Y0).2.1 _ _ z3).trans (nf 1))
    go_wp2_with fail
    ((with_reducible refine (specCommandsValid_any L l kl _ (hr0.below blw_) hl).mono ?_); rw [HC.out]; rintro e w1 ⟨rfl, hB1⟩; have Y1 : Below (((w.alloc (.cells #[.slice A h.cells.length c, .slice A' h.roots.length c'] 26)).alloc (.cells #[.slice none 0 0, .slice none 0 0] 26))).heap.size ((w.alloc (.cells #[.slice A h.cells.length c, .slice A' h.roots.length c'] 26)).alloc (.cells #[.slice none 0 0, .slice none 0 0] 26)) w1 := blw_; have X1 : Below w.heap.size w w1 := HW.out.trans (Y1.mono HW.out.size); have sX1 := X1.size; have sY1 := Y1.size; have X1s : w.heap.size + 2 ≤ w1.heap.size := (by have := Y1.size; simpa using this); clear X0 Y0 a0 a1 r0 r1 rf0 rf1 hB1; have a0 := cell_below h0 Y1; have a1 := cell_below h1 Y1; have r0 := cell_below n0 Y1; have r1 := cell_below n1 Y1; have RFZ : Hid (∀ o, w1.frozen? ⟨w.heap.size + 1, o, none⟩ = false) := (fun o => ((bcell Y1).2.1 _ _ z3).trans (nf o)); have rf0 := RFZ.out 0; have rf1 := RFZ.out 1)
    go_wp2_with fail
    refine bodyPost_ret (v := .agg #[.slice none 0 0, .slice none 0 0]) (by simp [results, Try.results43, go_sem, r0, r1]) rfl ⟨_, rfl, ?_, (X1.setCell (by simp) _).setCell (by simp) _⟩
    rw [HE.out]
    exact OH.zero
  have HC := Lib.hid hok
  have hl40 : l.length ≤ 40 := by unfold cmdsOk at hok; simp only [Bool.and_eq_true, decide_eq_true_eq] at hok; exact hok.1
  cases hin : inB 0 st 5
  · have HE := Lib.hid (runS_bad (h := h) (l := l) (n := st) (by rw [hva, hok, hin]; rfl))
    have hst := inB_false.1 hin
    have HI := Lib.hid hin
    clear hva hok hin
    rcases (by omega : st < 0 ∨ 5 < st) with hs | hs
    all_goals
      have hs0 : ¬ (0 ≤ st ∧ st ≤ 5) := by omega
      go_enter Try.func43, Try.ntmps43
      go_wp2_with fail
      ((with_reducible refine (specHeapValid_any _ h _ (hv0.below blw_)).mono ?_); rw [HV.out]; rintro e w0 ⟨rfl, hB0⟩; have Y0 : Below (((w.alloc (.cells #[.slice A h.cells.length c, .slice A' h.roots.length c'] 26)).alloc (.cells #[.slice none 0 0, .slice none 0 0] 26))).heap.size ((w.alloc (.cells #[.slice A h.cells.length c, .slice A' h.roots.length c'] 26)).alloc (.cells #[.slice none 0 0, .slice none 0 0] 26)) w0 := blw_; have X0 : Below w.heap.size w w0 := HW.out.trans (Y0.mono HW.out.size); have sX0 := X0.size; have sY0 := Y0.size; clear hB0; have a0 := cell_below h0 Y0; have a1 := cell_below h1 Y0; have r0 := cell_below n0 Y0; have r1 := cell_below n1 Y0; have rf0 := ((bcell Y0).2.1 _ _ z3).trans (nf 0); have rf1 := ((bcell Y0).2.1 _ _ z3).trans (nf 1))
      go_wp2_with fail
      ((with_reducible refine (specCommandsValid_any L l kl _ (hr0.below blw_) hl).mono ?_); rw [HC.out]; rintro e w1 ⟨rfl, hB1⟩; have Y1 : Below (((w.alloc (.cells #[.slice A h.cells.length c, .slice A' h.roots.length c'] 26)).alloc (.cells #[.slice none 0 0, .slice none 0 0] 26))).heap.size ((w.alloc (.cells #[.slice A h.cells.length c, .slice A' h.roots.length c'] 26)).alloc (.cells #[.slice none 0 0, .slice none 0 0] 26)) w1 := blw_; have X1 : Below w.heap.size w w1 := HW.out.trans (Y1.mono HW.out.size); have sX1 := X1.size; have sY1 := Y1.size; have X1s : w.heap.size + 2 ≤ w1.heap.size := (by have := Y1.size; simpa using this); clear X0 Y0 a0 a1 r0 r1 rf0 rf1 hB1; have a0 := cell_below h0 Y1; have a1 := cell_below h1 Y1; have r0 := cell_below n0 Y1; have r1 := cell_below n1 Y1; have RFZ : Hid (∀ o, w1.frozen? ⟨w.heap.size + 1, o, none⟩ = false) := (fun o => ((bcell Y1).2.1 _ _ z3).trans (nf o)); have rf0 := RFZ.out 0; have rf1 := RFZ.out 1)
      go_wp2_with (go_at_call 78; refine (l1In_any _ _ _ _).mono ?_; rw [HI.out]; rintro e w2 ⟨rfl, rfl⟩)
      refine bodyPost_ret (v := .agg #[.slice none 0 0, .slice none 0 0]) (by simp [results, Try.results43, go_sem, r0, r1]) rfl ⟨_, rfl, ?_, (X1.setCell (by simp) _).setCell (by simp) _⟩
      rw [HE.out]
      exact OH.zero
  have HE := Lib.hid (runS_ok hva hok hin)
  obtain ⟨hs0, hs5⟩ := inB_iff.1 hin
  have HI := Lib.hid hin
  clear hva hok hin
  go_enter Try.func43, Try.ntmps43
  go_wp2_with fail
  ((with_reducible refine (specHeapValid_any _ h _ (hv0.below blw_)).mono ?_); rw [HV.out]; rintro e w0 ⟨rfl, hB0⟩; have Y0 : Below (((w.alloc (.cells #[.slice A h.cells.length c, .slice A' h.roots.length c'] 26)).alloc (.cells #[.slice none 0 0, .slice none 0 0] 26))).heap.size ((w.alloc (.cells #[.slice A h.cells.length c, .slice A' h.roots.length c'] 26)).alloc (.cells #[.slice none 0 0, .slice none 0 0] 26)) w0 := blw_; have X0 : Below w.heap.size w w0 := HW.out.trans (Y0.mono HW.out.size); have sX0 := X0.size; have sY0 := Y0.size; clear hB0; have a0 := cell_below h0 Y0; have a1 := cell_below h1 Y0; have r0 := cell_below n0 Y0; have r1 := cell_below n1 Y0; have rf0 := ((bcell Y0).2.1 _ _ z3).trans (nf 0); have rf1 := ((bcell Y0).2.1 _ _ z3).trans (nf 1))
  go_wp2_with fail
  ((with_reducible refine (specCommandsValid_any L l kl _ (hr0.below blw_) hl).mono ?_); rw [HC.out]; rintro e w1 ⟨rfl, hB1⟩; have Y1 : Below (((w.alloc (.cells #[.slice A h.cells.length c, .slice A' h.roots.length c'] 26)).alloc (.cells #[.slice none 0 0, .slice none 0 0] 26))).heap.size ((w.alloc (.cells #[.slice A h.cells.length c, .slice A' h.roots.length c'] 26)).alloc (.cells #[.slice none 0 0, .slice none 0 0] 26)) w1 := blw_; have X1 : Below w.heap.size w w1 := HW.out.trans (Y1.mono HW.out.size); have sX1 := X1.size; have sY1 := Y1.size; have X1s : w.heap.size + 2 ≤ w1.heap.size := (by have := Y1.size; simpa using this); clear X0 Y0 a0 a1 r0 r1 rf0 rf1 hB1; have a0 := cell_below h0 Y1; have a1 := cell_below h1 Y1; have r0 := cell_below n0 Y1; have r1 := cell_below n1 Y1; have RFZ : Hid (∀ o, w1.frozen? ⟨w.heap.size + 1, o, none⟩ = false) := (fun o => ((bcell Y1).2.1 _ _ z3).trans (nf o)); have rf0 := RFZ.out 0; have rf1 := RFZ.out 1)
  have zq0 : w.heap.size < w1.heap.size := by omega
  have zq1 : w.heap.size + 1 < w1.heap.size := by omega
  clear h0 h1 n0 n1 nf z3 Y1 HW
  go_wp2_with (go_at_call 78; refine (l1In_any _ _ _ _).mono ?_; rw [HI.out]; rintro e w2 ⟨rfl, rfl⟩)
  (with_reducible refine (specSnapStart_any _ h _ (hv0.below blw_)).mono ?_)
  rintro e w2 ⟨v2, rfl, ho, hB2⟩
  obtain ⟨B, d, B', d', os, B2, d2, B3, d3, rfl, hm, hO, hX, hY, hnd, hlo, hxl, hyl⟩ := ho
  have Y2 : Below w1.heap.size w1 w2 := blw_
  have hz2 := Y2.size
  have hlo' : ∀ b ∈ hblks B os B' ++ blk B2 ++ blk B3, w1.heap.size ≤ b := hlo
  have HP := Lib.hid (PTx.mk_ hm hO hX hY hnd hlo' hxl hyl hz2 29)
  have HY2 := Lib.hid Y2
  have hne : w2.heap.size ≠ w.heap.size + 1 := by omega
  have hne2 : w.heap.size + 1 ≠ w2.heap.size := by omega
  clear a0 a1 hB2 hm hO hX hY hnd hlo hlo' Y2 rf0 rf1
  go_wp2
  go_loopw [8] (fun i wr => ∃ (k : Nat) (q : TwoM) (D : Option Addr) (e : Nat) (D' : Option Addr) (e' : Nat) (os2 : List OCell) (D2 : Option Addr) (e2 : Nat) (D3 : Option Addr) (e3 : Nat), k ≤ l.length ∧ i = .int .i64 k ∧ Hid (q = runS st.toNat (snapStartM h) (l.take k)) ∧ PTx w1.heap.size wr w2.heap.size q D e D' e' os2 D2 e2 D3 e3 ∧ Below w1.heap.size w1 wr) (fun i _ => l.length - (intOf i).toNat)
  case atStart => exact ⟨0, snapStartM h, B, d, B', d', os, B2, d2, B3, d3, by omega, rfl, rfl, HP.out, HY2.out.alloc hz2 _⟩
  case round =>
    obtain ⟨k, q, D, e, D', e', os2, D2, e2, D3, e3, hk, rfl, HR, hQ, hBr⟩ := hrel
    have hbs := hBr.size
    have Xr : Below w.heap.size w wr := X1.trans (hBr.mono sX1)
    have q0 := hQ.q0
    have q1 := hQ.q1
    have q2 := hQ.q2
    have q3 := hQ.q3
    have hqz := hQ.lt
    have HQ := Lib.hid hQ
    clear hQ
    by_cases hlt : k < l.length
    · obtain ⟨b, o, x, rfl, gx, c1, c2, c3, c4, hb⟩ := (hr0.below Xr).at_ hlt
      have HN := Lib.hid (runS_snoc (n := st.toNat) (p := snapStartM h) gx)
      have hlt' : (k : Int) < (l.length : Int) := by omega
      have HC1 : Hid (∀ W, Below w1.heap.size w1 W → W.cell? ⟨b, o + k * 4, none⟩ = some (.int .i64 x.op) ∧ W.cell? ⟨b, o + k * 4 + 1, none⟩ = some (.int .i64 x.a) ∧ W.cell? ⟨b, o + k * 4 + 2, none⟩ = some (.int .i64 x.b) ∧ W.cell? ⟨b, o + k * 4 + 3, none⟩ = some (.int .i64 x.c)) := fun W hW => by
        obtain ⟨b9, o9, x9, e9, g9, d1, d2, d3, d4, -⟩ := (hr0.below (X1.trans (hW.mono sX1))).at_ hlt
        injection e9 with e9; injection e9 with e91 e92; subst e91; subst e92
        rw [gx] at g9; injection g9 with g9; subst g9
        exact ⟨d1, d2, d3, d4⟩
      clear gx
      obtain ⟨wo, rfl⟩ : ∃ wo, wo = wr := ⟨_, rfl⟩
      go_wp2
      go_loopw [9] (fun i wr => ∃ (j : Nat) (q2 : TwoM) (F : Option Addr) (f : Nat) (F' : Option Addr) (f' : Nat) (os4 : List OCell) (F2 : Option Addr) (f2 : Nat) (F3 : Option Addr) (f3 : Nat), j ≤ st.toNat ∧ i = .int .i64 j ∧ Hid (q2 = stepsS j q) ∧ PTx w1.heap.size wr w2.heap.size q2 F f F' f' os4 F2 f2 F3 f3 ∧ True ∧ Below w1.heap.size w1 wr) (fun i _ => st.toNat - (intOf i).toNat)
      case atStart => exact ⟨0, q, D, e, D', e', os2, D2, e2, D3, e3, by omega, rfl, rfl, HQ.out, trivial, hBr⟩
      case round =>
        obtain ⟨j, y, F, f, F', f', os4, F2, f2, F3, f3, hj, rfl, HR2, hQ2, -, hBi⟩ := hrel
        have p0 := hQ2.q0
        have p1 := hQ2.q1
        have p2 := hQ2.q2
        have p3 := hQ2.q3
        have hqi := hQ2.lt
        have hbi := hBi.size
        have pf := hQ2.qf
        have hrt := hQ2.opt.rt
        have HQ2 := Lib.hid hQ2
        clear hQ2
        by_cases hlt2 : j < st.toNat
        · have hltI : (j : Int) < st := by omega
          have HN2 : Hid ((snapStepM y).1 = stepsS (j + 1) q) := by unfold Hid; rw [HR2.out]; rfl
          go_wp2_with fail
          (with_reducible refine (specSnapStep_any _ y _ hrt).mono ?_)
          rintro e5 w5 ⟨v5, rfl, ⟨E, g, E', g', os5, E2, g2, E3, g3, rfl, hm5, hO5, hX5, hY5, hnd5, hlo5, hxl5, hyl5⟩, hB5⟩
          have x0 := cell_below p0 hB5
          have x1 := cell_below p1 hB5
          have x2 := cell_below p2 hB5
          have x3 := cell_below p3 hB5
          have xf : ∀ o, w5.frozen? ⟨w2.heap.size, o, none⟩ = false := fun o => ((bcell hB5).2.1 _ _ hqi).trans (pf o)
          have xf0 := xf 0
          have xf1 := xf 1
          have xf2 := xf 2
          have xf3 := xf 3
          have hx5 : w2.heap.size < w5.heap.size := World.block_lt_of_cell? w5 _ x0
          have hw5 : Below w1.heap.size w1 w5 := hBi.trans (hB5.mono hbi)
          have HM5 := Lib.hid hm5
          have HND5 := Lib.hid hnd5
          have HLO5 := Lib.hid hlo5
          have HO5 := Lib.hid hO5
          have HX5 := Lib.hid hX5
          have HY5 := Lib.hid hY5
          have H5 := Lib.hid (HQ2.out.below hB5)
          clear hm5 hnd5 hlo5 hO5 hX5 hY5 hB5 xf pf p0 p1 p2 p3 hrt
          go_wp2
          go_roundw
          case rel =>
            refine ⟨j + 1, (snapStepM y).1, E, g, E', g', os5, E2, g2, E3, g3, by omega, by go_num, HN2, ?_, trivial, ?_⟩
            · exact (H5.out.over HM5.out HO5.out HX5.out HY5.out HND5.out HLO5.out hxl5 hyl5 (by omega) hqi).below blw_
            · exact ((((hw5.setCell hz2 _).setCell hz2 _).setCell hz2 _).setCell hz2 _).alloc (by have := hw5.size; simp; omega) _
          case measure => simp [intOf]; omega
        · have hje : j = st.toNat := by omega
          have hgeI : ¬ (j : Int) < st := by omega
          have HN3 : Hid ((snapCmdM y x).1 = runS st.toNat (snapStartM h) (l.take (k + 1))) := by unfold Hid; rw [HN.out, ← HR.out, HR2.out, hje]
          clear hje HR2
          have hS : ∀ W, Below wr.heap.size wr W → W.cell? ⟨w2.heap.size, 0, none⟩ = some (.slice F y.store.cells.length f) ∧ W.cell? ⟨w2.heap.size, 1, none⟩ = some (.slice F' y.store.roots.length f') ∧ W.cell? ⟨w2.heap.size, 2, none⟩ = some (.slice F2 y.x.length f2) ∧ W.cell? ⟨w2.heap.size, 3, none⟩ = some (.slice F3 y.y.length f3) ∧ W.cell? ⟨b, o + k * 4, none⟩ = some (.int .i64 x.op) ∧ W.cell? ⟨b, o + k * 4 + 1, none⟩ = some (.int .i64 x.a) ∧ W.cell? ⟨b, o + k * 4 + 2, none⟩ = some (.int .i64 x.b) ∧ W.cell? ⟨b, o + k * 4 + 3, none⟩ = some (.int .i64 x.c) := fun W hW => by
            obtain ⟨d1, d2, d3, d4⟩ := HC1.out W (hBi.trans (hW.mono hbi))
            exact ⟨cell_below p0 hW, cell_below p1 hW, cell_below p2 hW, cell_below p3 hW, d1, d2, d3, d4⟩
          go_wp2_with fail
          go_region_held3 (fun w' => w'.cell? ⟨w2.heap.size, 0, none⟩ = some (.slice F y.store.cells.length f) ∧ w'.cell? ⟨w2.heap.size, 1, none⟩ = some (.slice F' y.store.roots.length f') ∧ w'.cell? ⟨w2.heap.size, 2, none⟩ = some (.slice F2 y.x.length f2) ∧ w'.cell? ⟨w2.heap.size, 3, none⟩ = some (.slice F3 y.y.length f3) ∧ w'.cell? ⟨b, o + k * 4, none⟩ = some (.int .i64 x.op) ∧ w'.cell? ⟨b, o + k * 4 + 1, none⟩ = some (.int .i64 x.a) ∧ w'.cell? ⟨b, o + k * 4 + 2, none⟩ = some (.int .i64 x.b) ∧ w'.cell? ⟨b, o + k * 4 + 3, none⟩ = some (.int .i64 x.c))
            (first | exact hS _ blw_)
            (first
              | (go_at_call 30; (with_reducible refine (specSnapCommand_any _ y x _ (hrt.below blw_)).mono ?_); rintro e5 w5 ⟨v5, rfl, ⟨E, g, E', g', os5, E2, g2, E3, g3, rfl, hm5, hO5, hX5, hY5, hnd5, hlo5, hxl5, hyl5⟩, hB5⟩; (have z_hB5 := Below.size hB5); (try simp only [World.size_alloc, World.size_setCell, World.size_drew, World.heap_drewN] at z_hB5); obtain ⟨hbc, hbf, -⟩ := bcell hB5; have Y5 : Below wr.heap.size wr w5 := blw_; (first | (have zl5 : wr.heap.size < w5.heap.size := Nat.lt_of_lt_of_le (Nat.lt_succ_self _) z_hB5) | skip); have HO5 := Lib.hid hO5; have HX5 := Lib.hid hX5; have HY5 := Lib.hid hY5; clear hO5 hX5 hY5))
          all_goals
            have x0 := cell_below p0 Y5
            have x1 := cell_below p1 Y5
            have x2 := cell_below p2 Y5
            have x3 := cell_below p3 Y5
            have xf : ∀ o, w5.frozen? ⟨w2.heap.size, o, none⟩ = false := fun o => ((bcell Y5).2.1 _ _ hqi).trans (pf o)
            have xf0 := xf 0
            have xf1 := xf 1
            have xf2 := xf 2
            have xf3 := xf 3
            have hx5 : w2.heap.size < w5.heap.size := World.block_lt_of_cell? w5 _ x0
            try simp only [World.size_alloc, World.size_setCell, World.size_drew, World.heap_drewN, heap_drew_] at hlo5
            have hw5 : Below w1.heap.size w1 w5 := hBi.trans (Y5.mono hbi)
            have hwn : wr.heap.size ≠ w2.heap.size := by omega
            have hwn' : w2.heap.size ≠ wr.heap.size := by omega
            have hwm : w5.heap.size ≠ w2.heap.size := by omega
            have hwm' : w2.heap.size ≠ w5.heap.size := by omega
            have HM5 := Lib.hid hm5
            have HND5 := Lib.hid hnd5
            have HLO5 := Lib.hid hlo5
            have H5 := Lib.hid (HQ2.out.below Y5)
            have XF := Lib.hid xf
            have X0 := Lib.hid x0
            have X1_ := Lib.hid x1
            have X2_ := Lib.hid x2
            have X3_ := Lib.hid x3
            have wf0 := pf 0
            have wf1 := pf 1
            have wf2 := pf 2
            have wf3 := pf 3
            clear hm5 hnd5 hlo5 hB5 xf pf p0 p1 p2 p3 hrt hS
            go_wp2
            go_roundw
            case rel =>
              refine ⟨k + 1, (snapCmdM y x).1, E, g, E', g', os5, E2, g2, E3, g3, by omega, by go_num, HN3, ?_, ?_⟩
              · first
                | (have zl5_ := zl5; exact PTx.overS (l2 := wr.heap.size + 1) (by simp [go_sem, hwn, hwn', X0.out]; rfl) (by simp [go_sem, hwn, hwn', X1_.out]; rfl) (by simp [go_sem, hwn, hwn', X2_.out]; rfl) (by simp [go_sem, hwn, hwn', X3_.out]; rfl) (fun o => by simp [go_sem, XF.out o]) HM5.out (HO5.out.keep fun b hb => by have h9 := HLO5.out b (List.mem_append_left _ (List.mem_append_left _ hb)); rw [heap_setCell_ne _ _ _ sz_, heap_setCell_ne _ _ _ sz_, heap_setCell_ne _ _ _ sz_, heap_setCell_ne _ _ _ sz_]) (HX5.out.keep fun b hb => by have h9 := HLO5.out b (List.mem_append_left _ (List.mem_append_right _ hb)); rw [heap_setCell_ne _ _ _ sz_, heap_setCell_ne _ _ _ sz_, heap_setCell_ne _ _ _ sz_, heap_setCell_ne _ _ _ sz_]) (HY5.out.keep fun b hb => by have h9 := HLO5.out b (List.mem_append_right _ hb); rw [heap_setCell_ne _ _ _ sz_, heap_setCell_ne _ _ _ sz_, heap_setCell_ne _ _ _ sz_, heap_setCell_ne _ _ _ sz_]) HND5.out (fun b hb => by have h9 := HLO5.out b hb; omega) hxl5 hyl5 (by omega) (by omega) (by omega))
                | exact (PTx.overS X0.out X1_.out X2_.out X3_.out XF.out HM5.out HO5.out HX5.out HY5.out HND5.out HLO5.out hxl5 hyl5 (by omega) (by omega) (by omega)).below ((Below.refl _ _).alloc (Nat.le_refl _) _)
              · exact blw_
            case measure => simp [intOf]; omega
    · have hke : k = l.length := by omega
      have hge : ¬ (k : Int) < (l.length : Int) := by omega
      have HM : Hid (runSnapM h l st = (snapFinM q).1) := by unfold Hid; rw [HE.out, HR.out, hke, List.take_length]
      have hrt := HQ.out.opt.rt
      have s0 := (hBr.cell (p := ⟨w.heap.size + 1, 0, none⟩) zq1).trans r0
      have s1 := (hBr.cell (p := ⟨w.heap.size + 1, 1, none⟩) zq1).trans r1
      have SF : Hid (∀ o, wr.frozen? ⟨w.heap.size + 1, o, none⟩ = false) := fun o => (hBr.frozen (p := ⟨w.heap.size + 1, o, none⟩) zq1).trans (RFZ.out o)
      have zq3 : w.heap.size + 1 < wr.heap.size := by omega
      clear hke HR
      go_wp2_with fail
      (with_reducible refine (specSnapFinish_any _ q _ hrt).mono ?_)
      rintro e9 w5 ⟨v5, rfl, ⟨G, g, G', g', os5, rfl, hm5, hO5, hlo5⟩, hB5⟩
      have t0 := cell_below s0 hB5
      have t1 := cell_below s1 hB5
      have ef0 := ((bcell hB5).2.1 _ _ zq3).trans (SF.out 0)
      have ef1 := ((bcell hB5).2.1 _ _ zq3).trans (SF.out 1)
      have X5 : Below w.heap.size w w5 := Xr.trans (hB5.mono Xr.size)
      have zq5 : w.heap.size + 1 < w5.heap.size := by have := hB5.size; omega
      have hbase : OH (w.heap.size + 2) w5 (.agg #[.slice G (snapFinM q).1.cells.length g, .slice G' (snapFinM q).1.roots.length g']) (snapFinM q).1 := ⟨G, g, G', g', os5, rfl, hm5, hO5, fun b hb => by have := hlo5 b hb; omega⟩
      have HB := Lib.hid hbase
      clear hm5 hO5 hlo5 hbase hB5
      go_wp2_with fail
      refine bodyPost_ret (v := .agg #[.slice G (snapFinM q).1.cells.length g, .slice G' (snapFinM q).1.roots.length g']) (by simp [results, Try.results43, go_sem, t0, t1, zq5]) rfl ⟨_, rfl, ?_, blw_⟩
      rw [HM.out]
      exact OH.lo_ (lo := w.heap.size + 2) (OH.below (OH.setlt (OH.setlt HB.out (by simp) _) (by simp) _) ((Below.refl _ _).alloc (Nat.le_refl _) _)) (by omega)
end Go.Proofs.Yteilaalababfpaa