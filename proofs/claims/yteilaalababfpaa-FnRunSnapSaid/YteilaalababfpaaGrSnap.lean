/- Texts of one family, one behind the other: SnapSt, Tw, SnapStp, SnapE. -/
import Derived.Test.YteilaalababfpaaChecked
import Derived.Deep.RegionHeld3
import Derived.Deep.DeepCutAuto
import Derived.Test.YteilaalababfpaaGrCopy
import Derived.Test.YteilaalababfpaaGrHeap
import Derived.Test.YteilaalababfpaaMeet
import Derived.Test.YteilaalababfpaaGrSz
import Derived.Test.YteilaalababfpaaSnapV
import Derived.Deep.RegionLaw
import Derived.Test.YteilaalababfpaaGrData
import Derived.Test.YteilaalababfpaaGrExec
/- SnapStart: the program's and the reference's both return snapStartM, in new memory. -/
namespace Go.Proofs.Yteilaalababfpaa
open Go.RowKit
set_option maxRecDepth 100000
set_option linter.all false
theorem OTw.zero {lo : Nat} {w : World} : OTw lo w (.agg #[.slice none 0 0, .slice none 0 0, .slice none 0 0, .slice none 0 0]) zeroT :=
  ⟨none, 0, none, 0, [], none, 0, none, 0, rfl, rfl, ⟨OC.nil_, OF.nil, by simp [blk, blks], by simp, by simp [zeroT, zeroH]⟩, OF.nil, OF.nil, by simp [hblks, blk, blks], by simp [hblks, blk, blks], by simp [zeroT], by simp [zeroT]⟩
theorem RTw.mk_ {w : World} {A A' A2 A3 : Option Addr} {c c' c2 c3 n m : Nat} {h : HeapM} {xs ys : List Bool} (h1 : RHs w A A' h) (h2 : RF fb w A2 xs) (h3 : RF fb w A3 ys) (hn : n = xs.length) (hm : m = ys.length) (h4 : n ≤ 9223372036854775807) (h5 : m ≤ 9223372036854775807) :
    RTw w (.agg #[.slice A h.cells.length c, .slice A' h.roots.length c', .slice A2 n c2, .slice A3 m c3]) ⟨h, xs, ys⟩ := by
  subst hn; subst hm
  exact ⟨A, c, A', c', A2, c2, A3, c3, rfl, h1, h2, h4, h3, h5⟩
set_option maxHeartbeats 4000000 in
theorem implSnapStart_any (v : Value) (h : HeapM) (w : World) (hv : RH w v h) :
    Calls Try.prog 20 #[v] w fun e w' => ∃ v', e = .returned v' ∧ OTw w.heap.size w' v' (snapStartM h) ∧ Below w.heap.size w w' := by
  have hv0 := hv
  obtain ⟨A, c, A', c', rfl, hc, hr, hl1, hl2⟩ := hv
  cases hva : validM h
  · have HV := Lib.hid hva
    go_enter Try.func20, Try.ntmps20
    go_wp2_with (go_at_call 35; refine (implHeapValid_any _ h _ (hv0.below blw_)).mono ?_; rw [HV.out]; rintro e w1 ⟨rfl, hB1⟩; obtain ⟨hbc, hbf, hbz⟩ := bcell hB1; have z0w1 : w.heap.size < w1.heap.size := (by (try simp at hbz); omega); have z1w1 : w.heap.size + 1 < w1.heap.size := (by (try simp at hbz); omega))
    refine bodyPost_ret (v := .agg #[.slice none 0 0, .slice none 0 0, .slice none 0 0, .slice none 0 0]) (by simp [results, Try.results20, go_sem, hbc]) rfl ⟨_, rfl, ?_, blw_⟩
    unfold snapStartM
    rw [HV.out]
    exact OTw.zero
  · obtain ⟨v1, v2, v3⟩ := valid_small hva
    have hmk := mk_bools h.cells.length (by omega)
    have HV := Lib.hid hva
    have v2' : h.roots.length ≤ 4 := by omega
    have HVL := Lib.hid (validM_lt hva).2
    clear hva v2
    go_enter Try.func20, Try.ntmps20
    go_wp2_with (go_at_call 35; refine (implHeapValid_any _ h _ (hv0.below blw_)).mono ?_; rw [HV.out]; rintro e w1 ⟨rfl, hB1⟩; obtain ⟨hbc, hbf, hbz⟩ := bcell hB1; have z0w1 : w.heap.size < w1.heap.size := (by (try simp at hbz); omega); have z1w1 : w.heap.size + 1 < w1.heap.size := (by (try simp at hbz); omega); have k0 : w1.cell? ⟨w.heap.size, 0, none⟩ = some (.slice A h.cells.length c) := (by rw [hbc _ _ sz_]; simp [go_sem]); have k1 : w1.cell? ⟨w.heap.size, 1, none⟩ = some (.slice A' h.roots.length c') := (by rw [hbc _ _ sz_]; simp [go_sem]); have HB1 : Below w.heap.size w w1 := blw_; have MC : Hid (∀ o, o < 4 → w1.cell? ⟨w.heap.size + 1, o, none⟩ = some (.slice none 0 0)) := (fun o ho => by rw [hbc _ _ sz_]; rcases (by omega : o = 0 ∨ o = 1 ∨ o = 2 ∨ o = 3) with rfl | rfl | rfl | rfl <;> simp [go_sem]); have MF : Hid (∀ o, w1.frozen? ⟨w.heap.size + 1, o, none⟩ = false) := (fun o => by rw [hbf _ _ sz_]; simp [go_sem]))
    have hS : ∀ W, Below w1.heap.size w1 W → W.cell? ⟨w.heap.size, 0, none⟩ = some (.slice A h.cells.length c) ∧ W.cell? ⟨w.heap.size, 1, none⟩ = some (.slice A' h.roots.length c') := fun W hW => ⟨cell_below k0 hW, cell_below k1 hW⟩
    go_region_held3 (fun w' => w'.cell? ⟨w.heap.size, 0, none⟩ = some (.slice A h.cells.length c) ∧ w'.cell? ⟨w.heap.size, 1, none⟩ = some (.slice A' h.roots.length c'))
      (first | exact hS _ blw_)
      (first
        | (go_at_call 73; (with_reducible refine (recording_any _ ⟨h, List.replicate h.cells.length false, List.replicate h.cells.length false⟩ _ (RTw.mk_ (RHs.below ⟨hc, hr, hl1, hl2⟩ blw_) (OF.rf (OF.of_blk (T := 4) (by (repeat (first | rw [heap_drew_] | exact heap_alloc_at _ _ _ sz_ | rw [heap_setCell_ne _ _ _ sz_] | rw [Below.block HB1 _ sz_] | rw [Only.block HB1 _ sz_ (fun hc => by have := mem_blk_some hc; first | omega | (simp at this; done) | (simp at this; omega))] | rw [Below.heap_alloc _ _ _ sz_]))) (by simp only [maxLen, List.length_replicate]; omega))) (OF.rf (OF.of_blk (T := 4) (by (repeat (first | rw [heap_drew_] | exact heap_alloc_at _ _ _ sz_ | rw [heap_setCell_ne _ _ _ sz_] | rw [Below.block HB1 _ sz_] | rw [Only.block HB1 _ sz_ (fun hc => by have := mem_blk_some hc; first | omega | (simp at this; done) | (simp at this; omega))] | rw [Below.heap_alloc _ _ _ sz_]))) (by simp only [maxLen, List.length_replicate]; omega))) (by simp) (by simp) (by omega) (by omega)) (by show h.cells.length ≤ _; omega) (fun d hd => Nat.le_trans (v3 d hd) (by omega)) (by show h.roots.length ≤ _; omega) (by simp; omega) (by simp; omega)).mono ?_); rintro e w2 ⟨g, rfl, hP, hB2⟩; (have z_hB2 := Below.size hB2); (try simp only [World.size_alloc, World.size_setCell, World.size_drew, World.heap_drewN] at z_hB2)))
    all_goals
      obtain ⟨B, d, B', d', os, S2, d2, S3, d3, q0, q1, q2, q3, qf, hgl, hgw, hgn, hm, ho, hx, hy, hnd, hlo, -, -⟩ := hP
      have kk := (hS w2 blw_).2
      have HM := Lib.hid hm
      have hw12 : Below w1.heap.size w1 w2 := blw_
      have hw2 : Below w.heap.size w w2 := HB1.trans (hw12.mono HB1.size)
      simp only [World.size_alloc, World.size_setCell, World.size_drew, World.heap_drewN, heap_drew_] at hgl hlo
      have hlo2 : ∀ b ∈ blk S2 ++ blk S3, w.heap.size ≤ b := fun b hb => by
        have := hlo b (by simp only [List.mem_append] at hb ⊢; rcases hb with hb | hb; exact .inl (.inr hb); exact .inr hb)
        omega
      have hroots : ∀ W, Only (blk S2 ++ blk S3) w2.drew W → RF fi W A' h.roots := fun W hW => hr.below (hw2.drew.trans (hW.below (by have := hw2.size; simpa using this) hlo2))
      have hg2 : g ∉ blk S2 := fun hc => hgn (List.mem_append.2 (.inl (List.mem_append.2 (.inr hc))))
      have hg3 : g ∉ blk S3 := fun hc => hgn (List.mem_append.2 (.inr hc))
      have hg4 : g ∉ blk S2 ++ blk S3 := fun hc => (List.mem_append.1 hc).elim hg2 hg3
      have HND := Lib.hid hnd
      have HLO := Lib.hid hlo
      have hds : ∀ b ∈ blk S3, b ∉ blk S2 := fun b hb hc => by
        have := HND.out
        simp only [List.nodup_append] at this
        exact this.2.2 b (List.mem_append.2 (.inr hc)) b hb rfl
      have hps : ∀ b ∈ hblks B os B', b ∉ blk S2 ++ blk S3 := fun b hb hc => by
        have := HND.out
        simp only [List.nodup_append] at this
        rcases List.mem_append.1 hc with hc | hc
        · exact this.1.2.2 b hb b hc rfl
        · exact this.2.2 b (List.mem_append.2 (.inl hb)) b hc rfl
      have HPS := Lib.hid hps
      have HRO := Lib.hid hroots
      have qf0 := qf 0
      clear hm hnd hlo hlo2 hgn hps hroots hS k0 k1 hmk hB1
      go_upto_region 4 with fail
      go_still_tail 5, (by kernel_rfl)
      change wpList _ _ _ _ _ w2.drew
      go_wp2_with fail
      ((refine (meet_any g S2 S3 A' d2 d3 c' (List.replicate h.cells.length false) (List.replicate h.cells.length false) h.roots w2.drew q2 q3 hx.drew hy.drew rfl hg2 hg3 hds HRO.out (by omega) (by rw [List.length_replicate]; exact HVL.out) (by rw [List.length_replicate]; omega)).mono ?_); rintro e w3 ⟨rfl, hx3, hy3, hOn⟩; have p0 := hOn.cell (p := ⟨g, 0, none⟩) q0 hg4; have p1 := hOn.cell (p := ⟨g, 1, none⟩) q1 hg4; have p2 := hOn.cell (p := ⟨g, 2, none⟩) q2 hg4; have p3 := hOn.cell (p := ⟨g, 3, none⟩) q3 hg4)
      have e1 : (meetL (List.replicate h.cells.length false, List.replicate h.cells.length false) h.roots).1.length = h.cells.length := by rw [(meetL_len _ _).1, List.length_replicate]
      have e2 : (meetL (List.replicate h.cells.length false, List.replicate h.cells.length false) h.roots).2.length = h.cells.length := by rw [(meetL_len _ _).2, List.length_replicate]
      have E1 := Lib.hid e1
      have E2 := Lib.hid e2
      have hO3 := (ho.below (w' := w2.drew) (Below.refl _ _).drew).only hOn HPS.out
      have hz3 := hOn.size
      have hz2 := hw2.size
      have hw12s := hw12.size
      have hB13 : Below w1.heap.size w1 w3 := hw12.drew.trans (hOn.below hw12s (fun b hb => by have := HLO.out b (by simp only [List.mem_append] at hb ⊢; rcases hb with hb | hb; exact .inl (.inr hb); exact .inr hb); omega))
      have hB3 : Below w.heap.size w w3 := HB1.trans (hB13.mono HB1.size)
      have n0 := cell_below (MC.out 0 (by omega)) hB13
      have n1 := cell_below (MC.out 1 (by omega)) hB13
      have n2 := cell_below (MC.out 2 (by omega)) hB13
      have n3 := cell_below (MC.out 3 (by omega)) hB13
      have nf : ∀ o, w3.frozen? ⟨w.heap.size + 1, o, none⟩ = false := fun o => ((bcell hB13).2.1 _ _ (by omega)).trans (MF.out o)
      have nf0 := nf 0
      have nf1 := nf 1
      have nf2 := nf 2
      have nf3 := nf 3
      have hO3l := hO3.lt
      have hx3l := hx3.lt
      have hy3l := hy3.lt
      simp only [List.length_replicate] at p2 p3
      clear e1 e2 nf
      go_wp2_with fail
      refine bodyPost_ret (v := .agg #[.slice B h.cells.length d, .slice B' h.roots.length d', .slice S2 h.cells.length d2, .slice S3 h.cells.length d3]) (by simp [results, Try.results20, go_sem, n0, n1, n2, n3]) rfl ⟨_, rfl, ?_, (((hB3.setCell (by simp) _).setCell (by simp) _).setCell (by simp) _).setCell (by simp) _⟩
      unfold snapStartM
      rw [HV.out, if_pos rfl]
      refine ⟨B, d, B', d', os, S2, d2, S3, d3, ?_, HM.out, ?_, ?_, ?_, HND.out, fun b hb => by have := HLO.out b hb; omega, by rw [E1.out]; omega, by rw [E2.out]; omega⟩
      · rw [E1.out, E2.out]
      · exact hO3.keep fun b hb => by have := HLO.out b (by simp only [List.mem_append]; exact .inl (.inl hb)); (repeat (first | rw [heap_setCell_ne _ _ _ sz_] | rw [Below.block hB3 _ sz_] | rw [Below.heap_alloc _ _ _ sz_]))
      · exact hx3.keep fun b hb => by have := HLO.out b (by simp only [List.mem_append]; exact .inl (.inr hb)); (repeat (first | rw [heap_setCell_ne _ _ _ sz_] | rw [Below.block hB3 _ sz_] | rw [Below.heap_alloc _ _ _ sz_]))
      · exact hy3.keep fun b hb => by have := HLO.out b (by simp only [List.mem_append]; exact .inr hb); (repeat (first | rw [heap_setCell_ne _ _ _ sz_] | rw [Below.block hB3 _ sz_] | rw [Below.heap_alloc _ _ _ sz_]))
end Go.Proofs.Yteilaalababfpaa
/- Snapshots and aged heaps behind a pointer: what keeps them, and their small laws. No condition. -/
namespace Go.Proofs.Yteilaalababfpaa
open Go.RowKit
set_option maxRecDepth 100000
set_option linter.all false
section
variable {lo : Nat} {w w' : World} {g : Nat} {p : TwoM} {A A' A2 A3 : Option Addr} {c c' c2 c3 : Nat} {os : List OCell}
theorem PTx.opt (h : PTx lo w g p A c A' c' os A2 c2 A3 c3) : OTw lo w (.agg #[.slice A p.store.cells.length c, .slice A' p.store.roots.length c', .slice A2 p.x.length c2, .slice A3 p.y.length c3]) p :=
  ⟨A, c, A', c', os, A2, c2, A3, c3, rfl, h.map, h.own, h.xs, h.ys, h.nd, h.los, h.xl, h.yl⟩
theorem PTx.g2 (h : PTx lo w g p A c A' c' os A2 c2 A3 c3) : g ∉ blk A2 := fun hc => h.apart (List.mem_append.2 (.inl (List.mem_append.2 (.inr hc))))
theorem PTx.g3 (h : PTx lo w g p A c A' c' os A2 c2 A3 c3) : g ∉ blk A3 := fun hc => h.apart (List.mem_append.2 (.inr hc))
theorem PTx.g4 (h : PTx lo w g p A c A' c' os A2 c2 A3 c3) : g ∉ blk A2 ++ blk A3 := fun hc => (List.mem_append.1 hc).elim h.g2 h.g3
theorem PTx.d1 (h : PTx lo w g p A c A' c' os A2 c2 A3 c3) : ∀ b ∈ hblks A os A', b ∉ blk A2 ++ blk A3 := fun b hb hc => by
  have := h.nd
  simp only [List.nodup_append] at this
  rcases List.mem_append.1 hc with hc | hc
  · exact this.1.2.2 b hb b hc rfl
  · exact this.2.2 b (List.mem_append.2 (.inl hb)) b hc rfl
theorem PTx.d2 (h : PTx lo w g p A c A' c' os A2 c2 A3 c3) : ∀ b ∈ blk A3, b ∉ blk A2 := fun b hb hc => by
  have := h.nd
  simp only [List.nodup_append] at this
  exact this.2.2 b (List.mem_append.2 (.inr hc)) b hb rfl
theorem PTx.los4 (h : PTx lo w g p A c A' c' os A2 c2 A3 c3) : ∀ b ∈ blk A2 ++ blk A3, lo ≤ b := fun b hb => h.los b (by
  rcases List.mem_append.1 hb with hb | hb
  · exact List.mem_append.2 (.inl (List.mem_append.2 (.inr hb)))
  · exact List.mem_append.2 (.inr hb))
theorem PTx.below (h : PTx lo w g p A c A' c' os A2 c2 A3 c3) (hb : Below w.heap.size w w') : PTx lo w' g p A c A' c' os A2 c2 A3 c3 :=
  ⟨cell_below h.q0 hb, cell_below h.q1 hb, cell_below h.q2 hb, cell_below h.q3 hb, fun o => ((bcell hb).2.1 g o h.lt).trans (h.qf o), h.lo_, Nat.lt_of_lt_of_le h.lt hb.size, h.apart, h.map, h.own.below hb, h.xs.below hb, h.ys.below hb, h.nd, h.los, h.xl, h.yl⟩
theorem PTx.lists (h : PTx lo w g p A c A' c' os A2 c2 A3 c3) {xs ys : List Bool} (hx : OF 4 fb w' A2 c2 xs) (hy : OF 4 fb w' A3 c3 ys) (hl : xs.length = p.x.length) (hl2 : ys.length = p.y.length) (hOn : Only (blk A2 ++ blk A3) w w') :
    PTx lo w' g ⟨p.store, xs, ys⟩ A c A' c' os A2 c2 A3 c3 :=
  ⟨hOn.cell h.q0 h.g4, hOn.cell h.q1 h.g4, by simp only [hl]; exact hOn.cell h.q2 h.g4, by simp only [hl2]; exact hOn.cell h.q3 h.g4, fun o => (hOn.frozenAt g o h.lt h.g4).trans (h.qf o), h.lo_, Nat.lt_of_lt_of_le h.lt hOn.size, h.apart, h.map, h.own.only hOn h.d1, hx, hy, h.nd, h.los, by simp only [hl]; exact h.xl, by simp only [hl2]; exact h.yl⟩
theorem PTx.mk_ (hm : os.map (·.c) = p.store.cells) (ho : OHs w A c A' c' os p.store.roots) (hx : OF 4 fb w A2 c2 p.x) (hy : OF 4 fb w A3 c3 p.y) (hnd : (hblks A os A' ++ blk A2 ++ blk A3).Nodup) (hlo : ∀ b ∈ hblks A os A' ++ blk A2 ++ blk A3, lo ≤ b) (hxl : p.x.length ≤ 9223372036854775807) (hyl : p.y.length ≤ 9223372036854775807) (hw : lo ≤ w.heap.size) (T : TypeId) :
    PTx lo (w.alloc (.cells #[.slice A p.store.cells.length c, .slice A' p.store.roots.length c', .slice A2 p.x.length c2, .slice A3 p.y.length c3] T)) w.heap.size p A c A' c' os A2 c2 A3 c3 := by
  refine ⟨by simp [go_sem], by simp [go_sem], by simp [go_sem], by simp [go_sem], fun o => by simp [go_sem], hw, by simp, fun hc' => ?_, hm, ho.below blw_, hx.below blw_, hy.below blw_, hnd, hlo, hxl, hyl⟩
  simp only [List.mem_append] at hc'
  rcases hc' with (h | h) | h
  · have := ho.lt _ h; omega
  · have := hx.lt _ h; omega
  · have := hy.lt _ h; omega
end
theorem OTw.lo_ {lo lo' : Nat} {w : World} {v : Value} {p : TwoM} (h : OTw lo w v p) (hl : lo' ≤ lo) : OTw lo' w v p := by
  obtain ⟨A, c, A', c', os, A2, c2, A3, c3, rfl, h1, h2, h3, h4, h5, h6, h7⟩ := h
  exact ⟨A, c, A', c', os, A2, c2, A3, c3, rfl, h1, h2, h3, h4, h5, fun b hb => Nat.le_trans hl (h6 b hb), h7⟩
theorem OTw.setlt {lo : Nat} {w : World} {v : Value} {p : TwoM} (h : OTw lo w v p) {a : Addr} (ha : a.block < lo) (u : Value) : OTw lo (w.setCell a u) v p := by
  obtain ⟨A, c, A', c', os, A2, c2, A3, c3, rfl, h1, h2, h3, h4, h5, h6, h7⟩ := h
  have hk : ∀ b ∈ hblks A os A' ++ blk A2 ++ blk A3, b ≠ a.block := fun b hb e => by have := h6 b hb; omega
  simp only [List.mem_append] at hk
  exact ⟨A, c, A', c', os, A2, c2, A3, c3, rfl, h1, h2.keep fun b hb => heap_setCell_ne _ _ _ (hk b (.inl (.inl hb))), h3.keep fun b hb => heap_setCell_ne _ _ _ (hk b (.inl (.inr hb))), h4.keep fun b hb => heap_setCell_ne _ _ _ (hk b (.inr hb)), h5, h6, h7⟩
theorem snapM_parts {p : TwoM} (h : snapM p = true) : validM p.store = true ∧ p.x.length = p.store.cells.length ∧ p.y.length = p.store.cells.length := by
  unfold snapM at h
  simp only [Bool.and_eq_true, decide_eq_true_eq] at h
  grind
theorem snap_small {p : TwoM} (h : snapM p = true) : p.store.cells.length ≤ 40 ∧ p.store.roots.length ≤ 4 ∧ (∀ d ∈ p.store.cells, d.refs.length ≤ 3) ∧ p.x.length = p.store.cells.length ∧ p.y.length = p.store.cells.length ∧ (∀ r ∈ p.store.roots, r < p.store.cells.length) ∧ (∀ c ∈ p.store.cells, ∀ r ∈ c.refs, r < p.store.cells.length) := by
  obtain ⟨h1, h2, h3⟩ := snapM_parts h
  obtain ⟨a, b, c⟩ := valid_small h1
  obtain ⟨d, e⟩ := validM_lt h1
  exact ⟨a, by omega, c, h2, h3, e, d⟩
theorem stepS_none {p : TwoM} (h : noneB id p.y p.y.length) : stepS p = (p, false) := by unfold stepS; rw [firstB_none h]
theorem stepS_some {p : TwoM} {k : Nat} {c : CellM} (h : noneB id p.y k) (hk : p.y[k]? = some true) (hc : p.store.cells[k]? = some c) : stepS p = (⟨p.store, (meetL (p.x, p.y.set k false) c.refs).1, (meetL (p.x, p.y.set k false) c.refs).2⟩, true) := by
  unfold stepS; rw [firstB_some h hk rfl]; simp only [refsAt_of hc]
end Go.Proofs.Yteilaalababfpaa
/- SnapStep: the program's step and SnapStep, and the reference's SnapStep, do what stepS and snapStepM say. -/
namespace Go.Proofs.Yteilaalababfpaa
open Go.RowKit
set_option maxRecDepth 100000
set_option linter.all false
set_option maxHeartbeats 4000000 in
theorem rstep_any (lo g : Nat) (p : TwoM) (A A' A2 A3 : Option Addr) (c c' c2 c3 : Nat) (os : List OCell) (w : World) (h : PTx lo w g p A c A' c' os A2 c2 A3 c3) (hl : p.x.length = p.store.cells.length) (hl2 : p.y.length = p.store.cells.length) (hl40 : p.store.cells.length ≤ 40)
    (hlt : ∀ d ∈ p.store.cells, ∀ r ∈ d.refs, r < p.store.cells.length) :
    Calls Try.prog 81 #[.pointer (some ⟨g, 0, none⟩)] w fun e w' => e = .returned (.bool (stepS p).2) ∧ PTx lo w' g (stepS p).1 A c A' c' os A2 c2 A3 c3 ∧ Only (blk A2 ++ blk A3) w w' := by
  have q0 := h.q0
  have q3 := h.q3
  have hys := h.ys
  have H := Lib.hid h
  have HL := Lib.hid hl
  have HL2 := Lib.hid hl2
  have HLT := Lib.hid hlt
  have hrf := hys.rf
  have hyl : p.y.length ≤ 40 := by omega
  clear h hlt hl hl2
  go_enter Try.func81, Try.ntmps81
  go_wp2
  go_loop [11] (fun i => ∃ k : Nat, k ≤ p.y.length ∧ i = .int .i64 k ∧ Hid (noneB id p.y k)) (fun i => p.y.length - (intOf i).toNat)
  case atStart => exact ⟨0, by omega, rfl, noneB_zero _ _⟩
  case round =>
    obtain ⟨k, hk, rfl, HNB⟩ := hrel
    by_cases hlt : k < p.y.length
    · have hkc : k < os.length := by have := HL2.out; have := congrArg List.length H.out.map; simp at this; omega
      obtain ⟨b, o, x, hA3, gx, c1, hb⟩ := hrf.at_ hlt
      have c1' : w.cell? ⟨b, o + k, none⟩ = some (.bool x) := c1
      have hx : x = true ∨ x = false := by cases x <;> simp
      rcases hx with hx | hx
      · subst hx
        obtain ⟨gc, hA, d0, d1, d2, hgc⟩ := H.out.own.cells.at_ (List.getElem?_eq_getElem hkc)
        have hcell : p.store.cells[k]? = some os[k].c := by rw [← H.out.map, List.getElem?_map, List.getElem?_eq_getElem hkc]; rfl
        have HS := Lib.hid (stepS_some HNB.out gx hcell)
        have hmem : os[k] ∈ os := List.getElem_mem hkc
        obtain ⟨hro, hrl⟩ := H.out.own.cells.2 _ hmem
        have hltr := HLT.out _ (List.mem_of_getElem? hcell)
        have hdj : ∀ b' ∈ blk os[k].A, b' ∉ blk A2 ++ blk A3 := fun b' hb' => H.out.d1 b' (List.mem_append.2 (.inl (List.mem_append.2 (.inr (mem_blks hmem hb')))))
        have HR : Hid (∀ W, Only (blk A2 ++ blk A3) w W → RF fi W os[k].A os[k].c.refs) := fun W hW => (hro.only hW hdj).rf
        have HLTR := Lib.hid hltr
        have hg2 := H.out.g2
        have hg3 := H.out.g3
        have hg4 := H.out.g4
        have hd2 := H.out.d2
        have hgcd : gc ∉ blk A3 := fun hc => H.out.d1 gc (List.mem_append.2 (.inl (List.mem_append.2 (.inl (by rw [hA]; simp [blk]))))) (List.mem_append.2 (.inr hc))
        have hkc2 : k < p.store.cells.length := by have := HL2.out; omega
        obtain ⟨q2', hq2', hq2s⟩ := hys.some_ hlt
        rw [hA3] at hq2'
        injection hq2' with hq2'
        injection hq2' with hb' ho'
        subst hb'; subst ho'
        subst hA3; subst hA
        have c3' : w.cell? ⟨b, k, none⟩ = some (.bool true) := hys.cell gx
        have f3 := hys.frozen k
        have hgb : g ≠ b := fun e => hg3 (by rw [e]; simp [blk])
        have hgb2 : b ≠ g := fun e => hgb e.symm
        have hgcb : gc ≠ b := fun e => hgcd (by rw [e]; simp [blk])
        have hgcb2 : b ≠ gc := fun e => hgcb e.symm
        have q2 := H.out.q2
        have hOn0 : Only (blk A2 ++ blk (some ⟨b, 0, none⟩)) w (w.setCell ⟨b, k, none⟩ (.bool false)) := (Only.refl _ _).setCell (.inl (by simp [blk])) _
        have hx1 : OF 4 fb (w.setCell ⟨b, k, none⟩ (.bool false)) A2 c2 p.x := H.out.xs.ne_ (fun hc => hd2 b (by simp [blk]) hc)
        have hy1 : OF 4 fb (w.setCell ⟨b, k, none⟩ (.bool false)) (some ⟨b, 0, none⟩) c3 (p.y.set k false) := hys.set_ k false
        have q2s := hOn0.cell q2 hg4
        have q3s := hOn0.cell q3 hg4
        have hyl3 : (p.y.set k false).length = p.y.length := List.length_set
        have hyl4 : (p.y.set k false).length = p.x.length := by rw [hyl3, HL2.out, HL.out]
        have HR1 : Hid (∀ W, Only (blk A2 ++ blk (some ⟨b, 0, none⟩)) (w.setCell ⟨b, k, none⟩ (.bool false)) W → RF fi W os[k].A os[k].c.refs) := fun W hW => HR.out W (hOn0.trans hW)
        have hltx : ∀ r ∈ os[k].c.refs, r < p.x.length := by rw [HL.out]; exact HLTR.out
        have HLX := Lib.hid hltx
        have HYL := Lib.hid hyl4
        have HYL3 := Lib.hid hyl3
        rw [← hyl3] at q3s
        have hxl40 : p.x.length ≤ 9223372036854775807 := by have := HL.out; omega
        generalize os[k] = oo at *
        clear gx c1 hdj hmem hltr hcell hro hyl4 hyl3 hltx
        go_wp2_with fail
        refine (meet_any g A2 (some ⟨b, 0, none⟩) oo.A c2 c3 oo.cap p.x (p.y.set k false) oo.c.refs _ q2s q3s hx1 hy1 HYL.out hg2 hg3 hd2 HR1.out hrl HLX.out hxl40).mono ?_
        rintro e w1 ⟨rfl, hX, hY, hOn⟩
        go_wp2
        go_ret
        rw [HS.out]
        refine ⟨rfl, H.out.lists hX hY (meetL_len _ _).1 ((meetL_len _ _).2.trans HYL3.out) (hOn0.trans hOn), hOn0.trans hOn⟩
      · subst hx
        have HN2 : Hid (noneB id p.y (k + 1)) := noneB_succ HNB.out gx rfl
        rw [hA3] at q3
        clear gx c1
        go_wp2
        go_round
        case rel => exact ⟨k + 1, by omega, by go_num, HN2⟩
        case measure => simp [intOf]; omega
    · have hke : k = p.y.length := by omega
      have HNB2 := HNB.out
      rw [hke] at HNB2
      have HN := Lib.hid (stepS_none HNB2)
      clear hke HNB2
      go_wp2
      go_ret
      exact ⟨ret_bool (by rw [HN.out]), by rw [HN.out]; exact H.out, Only.refl _ _⟩
set_option maxHeartbeats 4000000 in
theorem implSnapStep_any (v : Value) (p : TwoM) (w : World) (hv : RTw w v p) :
    Calls Try.prog 26 #[v] w fun e w' => ∃ v', e = .returned (.tuple #[v', .bool (snapStepM p).2]) ∧ OTw w.heap.size w' v' (snapStepM p).1 ∧ Below w.heap.size w w' := by
  have hv0 := hv
  obtain ⟨A, c, A', c', A2, c2, A3, c3, rfl, -, -, -, -, -⟩ := hv
  cases hva : snapM p
  · have HV := Lib.hid hva
    go_enter Try.func26, Try.ntmps26
    go_wp2_with (go_at_call 16; refine (implSnapValid_any _ p _ (hv0.below blw_)).mono ?_; rw [HV.out]; rintro e w1 ⟨rfl, hB1⟩; obtain ⟨hbc, hbf, hbz⟩ := bcell hB1; have z0w1 : w.heap.size < w1.heap.size := (by (try simp at hbz); omega); have z1w1 : w.heap.size + 1 < w1.heap.size := (by (try simp at hbz); omega))
    refine bodyPost_ret (v := .tuple #[.agg #[.slice none 0 0, .slice none 0 0, .slice none 0 0, .slice none 0 0], .bool false]) (by simp [results, Try.results26, go_sem, hbc]) rfl ⟨_, by unfold snapStepM; rw [HV.out]; rfl, ?_, blw_⟩
    unfold snapStepM
    rw [HV.out]
    exact OTw.zero
  · obtain ⟨v1, v2, v3, v4, v5, v6, v7⟩ := snap_small hva
    have HV := Lib.hid hva
    have HV3 := Lib.hid v3
    have HV7 := Lib.hid v7
    have HV4 := Lib.hid v4
    have HV5 := Lib.hid v5
    have x40 : p.x.length ≤ 40 := by omega
    have y40 : p.y.length ≤ 40 := by omega
    clear hva v3 v4 v5 v6 v7
    go_enter Try.func26, Try.ntmps26
    go_wp2_with (go_at_call 16; refine (implSnapValid_any _ p _ (hv0.below blw_)).mono ?_; rw [HV.out]; rintro e w1 ⟨rfl, hB1⟩; obtain ⟨hbc, hbf, hbz⟩ := bcell hB1; have z0w1 : w.heap.size < w1.heap.size := (by (try simp at hbz); omega); have z1w1 : w.heap.size + 1 < w1.heap.size := (by (try simp at hbz); omega); have HB1 : Below w.heap.size w w1 := blw_; have MC : Hid (∀ o, o < 4 → w1.cell? ⟨w.heap.size + 1, o, none⟩ = some (.slice none 0 0)) := (fun o ho => by rw [hbc _ _ sz_]; rcases (by omega : o = 0 ∨ o = 1 ∨ o = 2 ∨ o = 3) with rfl | rfl | rfl | rfl <;> simp [go_sem]); have MF : Hid (∀ o, w1.frozen? ⟨w.heap.size + 1, o, none⟩ = false) := (fun o => by rw [hbf _ _ sz_]; simp [go_sem]))
    refine (recording_any _ p _ (hv0.below HB1) (by omega) (fun d hd => Nat.le_trans (HV3.out d hd) (by omega)) (by omega) (by omega) (by omega)).mono ?_
    rintro e w2 ⟨g, rfl, hP, hB2⟩
    obtain ⟨B, d, B', d', os, S2, d2, S3, d3, hP⟩ := hP
    have hz1 := HB1.size
    have hz2 := hB2.size
    have hgl := hP.lo_
    go_wp2_with fail
    refine (rstep_any w1.heap.size g p B B' S2 S3 d d' d2 d3 os _ hP HV4.out HV5.out v1 HV7.out).mono ?_
    rintro e w4 ⟨rfl, hP4, hOn⟩
    have hB4 : Below w1.heap.size w1 w4 := hB2.trans (hOn.below sz_ hP.los4)
    have n0 := cell_below (MC.out 0 (by omega)) hB4
    have n1 := cell_below (MC.out 1 (by omega)) hB4
    have n2 := cell_below (MC.out 2 (by omega)) hB4
    have n3 := cell_below (MC.out 3 (by omega)) hB4
    have nf : ∀ o, w4.frozen? ⟨w.heap.size + 1, o, none⟩ = false := fun o => ((bcell hB4).2.1 _ _ (by omega)).trans (MF.out o)
    have nf0 := nf 0
    have nf1 := nf 1
    have nf2 := nf 2
    have nf3 := nf 3
    have hw4 : Below w.heap.size w w4 := HB1.trans (hB4.mono hz1)
    have q0 := hP4.q0
    have q1 := hP4.q1
    have q2 := hP4.q2
    have q3 := hP4.q3
    have HP4 := Lib.hid hP4
    clear hB1 hbc hbf nf hP hP4 hB2 hOn
    go_wp2
    refine bodyPost_ret (v := .tuple #[.agg #[.slice B (stepS p).1.store.cells.length d, .slice B' (stepS p).1.store.roots.length d', .slice S2 (stepS p).1.x.length d2, .slice S3 (stepS p).1.y.length d3], .bool (stepS p).2]) (by simp [results, Try.results26, go_sem, n0, n1, n2, n3]) rfl ⟨_, by unfold snapStepM; rw [HV.out, if_pos rfl], ?_, (((hw4.setCell (by simp) _).setCell (by simp) _).setCell (by simp) _).setCell (by simp) _⟩
    unfold snapStepM
    rw [HV.out, if_pos rfl]
    exact (((((HP4.out.opt).setlt (by simp; omega) _).setlt (by simp; omega) _).setlt (by simp; omega) _).setlt (by simp; omega) _).lo_ (by omega)
set_option maxHeartbeats 4000000 in
theorem specSnapStep_any (v : Value) (p : TwoM) (w : World) (hv : RTw w v p) :
    Calls Try.prog 27 #[v] w fun e w' => ∃ v', e = .returned (.tuple #[v', .bool (snapStepM p).2]) ∧ OTw w.heap.size w' v' (snapStepM p).1 ∧ Below w.heap.size w w' := by
  have hv0 := hv
  obtain ⟨A, c, A', c', A2, c2, A3, c3, rfl, -, -, -, -, -⟩ := hv
  cases hva : snapM p
  · have HV := Lib.hid hva
    go_enter Try.func27, Try.ntmps27
    go_wp2_with (go_at_call 17; refine (specSnapValid_any _ p _ (hv0.below blw_)).mono ?_; rw [HV.out]; rintro e w1 ⟨rfl, hB1⟩; obtain ⟨hbc, hbf, hbz⟩ := bcell hB1; have z0w1 : w.heap.size < w1.heap.size := (by (try simp at hbz); omega); have z1w1 : w.heap.size + 1 < w1.heap.size := (by (try simp at hbz); omega))
    refine bodyPost_ret (v := .tuple #[.agg #[.slice none 0 0, .slice none 0 0, .slice none 0 0, .slice none 0 0], .bool false]) (by simp [results, Try.results27, go_sem, hbc]) rfl ⟨_, by unfold snapStepM; rw [HV.out]; rfl, ?_, blw_⟩
    unfold snapStepM
    rw [HV.out]
    exact OTw.zero
  · obtain ⟨v1, v2, v3, v4, v5, v6, v7⟩ := snap_small hva
    have HV := Lib.hid hva
    have HV3 := Lib.hid v3
    have HV7 := Lib.hid v7
    have HV4 := Lib.hid v4
    have HV5 := Lib.hid v5
    have x40 : p.x.length ≤ 40 := by omega
    have y40 : p.y.length ≤ 40 := by omega
    clear hva v3 v4 v5 v6 v7
    go_enter Try.func27, Try.ntmps27
    go_wp2_with (go_at_call 17; refine (specSnapValid_any _ p _ (hv0.below blw_)).mono ?_; rw [HV.out]; rintro e w1 ⟨rfl, hB1⟩; obtain ⟨hbc, hbf, hbz⟩ := bcell hB1; have z0w1 : w.heap.size < w1.heap.size := (by (try simp at hbz); omega); have z1w1 : w.heap.size + 1 < w1.heap.size := (by (try simp at hbz); omega); have HB1 : Below w.heap.size w w1 := blw_; have MC : Hid (∀ o, o < 4 → w1.cell? ⟨w.heap.size + 1, o, none⟩ = some (.slice none 0 0)) := (fun o ho => by rw [hbc _ _ sz_]; rcases (by omega : o = 0 ∨ o = 1 ∨ o = 2 ∨ o = 3) with rfl | rfl | rfl | rfl <;> simp [go_sem]); have MF : Hid (∀ o, w1.frozen? ⟨w.heap.size + 1, o, none⟩ = false) := (fun o => by rw [hbf _ _ sz_]; simp [go_sem]))
    refine (l19Copy_any _ p _ (hv0.below HB1) (by omega) (fun d hd => Nat.le_trans (HV3.out d hd) (by omega)) (by omega) (by omega) (by omega)).mono ?_
    rintro e w2 ⟨v2, rfl, ho, hB2⟩
    obtain ⟨B, d, B', d', os, B2, d2, B3, d3, rfl, hm, hO, hX, hY, hnd, hlo, hxl, hyl⟩ := ho
    have hz1 := HB1.size
    have hz2 := hB2.size
    have hP := PTx.mk_ hm hO hX hY hnd hlo hxl hyl hz2 29
    have hB3 : Below w1.heap.size w1 (w2.alloc (.cells #[.slice B p.store.cells.length d, .slice B' p.store.roots.length d', .slice B2 p.x.length d2, .slice B3 p.y.length d3] 29)) := blw_
    have q0 := hP.q0
    have q3 := hP.q3
    have hrf := hP.ys.rf
    have hpys := hP.ys
    have H := Lib.hid hP
    have hmapl : os.length = p.y.length := by have := congrArg List.length hm; have := HV5.out; simp at *; omega
    have HML := Lib.hid hmapl
    have HLO := Lib.hid hlo
    clear hP hO hX hY hnd hm hmapl hlo
    go_wp2
    go_loop [5] (fun i => ∃ k : Nat, k ≤ p.y.length ∧ i = .int .i64 k ∧ Hid (noneB id p.y k)) (fun i => p.y.length - (intOf i).toNat)
    case atStart => exact ⟨0, by omega, rfl, noneB_zero _ _⟩
    case round =>
      obtain ⟨k, hk, rfl, HNB⟩ := hrel
      by_cases hlt : k < p.y.length
      · obtain ⟨b, o, x, rfl, gx, c1, hb⟩ := hrf.at_ hlt
        obtain ⟨b', hb', hbs⟩ := hpys.some_ hlt
        injection hb' with hb'
        injection hb' with hb1 hb2
        subst hb1; subst hb2
        have c3 := hpys.cell gx
        have hx : x = true ∨ x = false := by cases x <;> simp
        rcases hx with hx | hx
        · subst hx
          have hkc : k < os.length := by rw [HML.out]; exact hlt
          obtain ⟨gc, rfl, d0, d1, d2', hgc⟩ := H.out.own.cells.at_ (List.getElem?_eq_getElem hkc)
          have c3' : ((w2.alloc (.cells #[.slice (some ⟨gc, 0, none⟩) p.store.cells.length d, .slice B' p.store.roots.length d', .slice B2 p.x.length d2, .slice (some ⟨b, 0, none⟩) p.y.length d3] 29))).cell? ⟨b, k, none⟩ = some (.bool true) := c3
          have hcell : p.store.cells[k]? = some os[k].c := by rw [← H.out.map, List.getElem?_map, List.getElem?_eq_getElem hkc]; rfl
          have HS := Lib.hid (stepS_some HNB.out gx hcell)
          have hmem : os[k] ∈ os := List.getElem_mem hkc
          obtain ⟨hro, hrl⟩ := H.out.own.cells.2 _ hmem
          have hltr := HV7.out _ (List.mem_of_getElem? hcell)
          have HRD : Hid (∀ b' ∈ blk os[k].A, b' ∉ blk B2 ++ blk (some ⟨b, 0, none⟩)) := fun b' hb' => H.out.d1 b' (List.mem_append.2 (.inl (List.mem_append.2 (.inr (mem_blks hmem hb')))))
          have HRO := Lib.hid hro
          have HLTR := Lib.hid hltr
          have hgcn : gc ∉ blk B2 ++ blk (some ⟨b, 0, none⟩) := H.out.d1 gc (List.mem_append.2 (.inl (List.mem_append.2 (.inl (by simp [blk])))))
          have hgcb : gc ≠ b := fun e => hgcn (List.mem_append.2 (.inr (by simp [blk, e])))
          have hgcb2 : b ≠ gc := fun e => hgcb e.symm
          have hg2b : w2.heap.size ≠ b := fun e => H.out.g3 (by simp [blk, e])
          have hg2b2 : b ≠ w2.heap.size := fun e => hg2b e.symm
          have f3 := hpys.frozen k
          have hkc2 : k < p.store.cells.length := by have := HV5.out; omega
          have hOn0 : Only (blk B2 ++ blk (some ⟨b, 0, none⟩)) ((w2.alloc (.cells #[.slice (some ⟨gc, 0, none⟩) p.store.cells.length d, .slice B' p.store.roots.length d', .slice B2 p.x.length d2, .slice (some ⟨b, 0, none⟩) p.y.length d3] 29))) (((w2.alloc (.cells #[.slice (some ⟨gc, 0, none⟩) p.store.cells.length d, .slice B' p.store.roots.length d', .slice B2 p.x.length d2, .slice (some ⟨b, 0, none⟩) p.y.length d3] 29))).setCell ⟨b, k, none⟩ (.bool false)) := (Only.refl _ _).setCell (.inl (by simp [blk])) _
          have hx1 : OF 4 fb (((w2.alloc (.cells #[.slice (some ⟨gc, 0, none⟩) p.store.cells.length d, .slice B' p.store.roots.length d', .slice B2 p.x.length d2, .slice (some ⟨b, 0, none⟩) p.y.length d3] 29))).setCell ⟨b, k, none⟩ (.bool false)) B2 d2 p.x := H.out.xs.ne_ (fun hc => H.out.d2 b (by simp [blk]) hc)
          have hy1 : OF 4 fb (((w2.alloc (.cells #[.slice (some ⟨gc, 0, none⟩) p.store.cells.length d, .slice B' p.store.roots.length d', .slice B2 p.x.length d2, .slice (some ⟨b, 0, none⟩) p.y.length d3] 29))).setCell ⟨b, k, none⟩ (.bool false)) (some ⟨b, 0, none⟩) d3 (p.y.set k false) := hpys.set_ k false
          have HX1 := Lib.hid hx1
          have HY1 := Lib.hid hy1
          have HO0 := Lib.hid hOn0
          generalize os[k] = oo at *
          clear gx c1 c3 hmem hltr hcell hro hx1 hy1 hOn0
          go_wp2
          go_loopw [6] (fun i wr => ∃ (j : Nat) (us vs : List Bool), j ≤ oo.c.refs.length ∧ i = .int .i64 j ∧ Hid ((us, vs) = meetL (p.x, p.y.set k false) (oo.c.refs.take j)) ∧ OF 4 fb wr B2 d2 us ∧ OF 4 fb wr (some ⟨b, 0, none⟩) d3 vs ∧ Only (blk B2 ++ blk (some ⟨b, 0, none⟩)) ((w2.alloc (.cells #[.slice (some ⟨gc, 0, none⟩) p.store.cells.length d, .slice B' p.store.roots.length d', .slice B2 p.x.length d2, .slice (some ⟨b, 0, none⟩) p.y.length d3] 29))) wr) (fun i _ => oo.c.refs.length - (intOf i).toNat)
          case atStart => exact ⟨0, _, _, by omega, rfl, rfl, HX1.out, HY1.out, HO0.out⟩
          case round =>
            obtain ⟨j, us, vs, hj, rfl, HY, hU, hV, hOn⟩ := hrel
            have hul : us.length = p.x.length := by rw [(meet_pair HY.out).1]; exact (meetL_len _ _).1
            have hvl : vs.length = p.y.length := by rw [(meet_pair HY.out).2, (meetL_len _ _).2, List.length_set]
            have hPr := H.out.lists hU hV hul hvl hOn
            have r0 := hPr.q0
            have r1 := hPr.q1
            have r2 := hPr.q2
            have r3 := hPr.q3
            have e2 := hOn.cell d2' hgcn
            have HUL : Hid (us.length = p.store.cells.length) := hul.trans HV4.out
            have hvu : vs.length = us.length := by rw [hvl, hul, HV4.out, HV5.out]
            have HVU := Lib.hid hvu
            have HPR := Lib.hid hPr
            have hB4 : Below w1.heap.size w1 wr := hB3.trans (hOn.below (by simp; omega) (fun b hb => H.out.los4 b hb))
            have hRF := (HRO.out.only hOn HRD.out).rf
            have hd2 := H.out.d2
            clear hul hvl hvu hPr
            by_cases hlt2 : j < oo.c.refs.length
            · obtain ⟨b2, o2, r, hAr, hr, e1, hb2⟩ := hRF.at_ hlt2
              rw [hAr] at e2
              have e1' : wr.cell? ⟨b2, o2 + j, none⟩ = some (.int .i64 r) := e1
              have hrx := HLTR.out r (List.mem_of_getElem? hr)
              have hrx2 : r < us.length := by rw [HUL.out]; exact hrx
              have hul2 : us.length ≤ 9223372036854775807 := by rw [HUL.out]; omega
              have HSN := Lib.hid (meetL_snoc (xy := (p.x, p.y.set k false)) hr)
              have i1 : (0 : Int) ≤ (j : Int) := by omega
              have i2 : (j : Int) < (oo.c.refs.length : Int) := by omega
              have i3 : (0 : Int) ≤ (k : Int) := by omega
              have i4 : (k : Int) < (p.store.cells.length : Int) := by omega
              have HAR := Lib.hid hAr
              clear hr e1 hRF hAr
              go_wp2_with fail
              go_still_tail 11, (by kernel_rfl)
              change wpList _ _ _ _ _ wr.drew
              go_wp2_with fail
              (with_reducible refine (l19Meet_any _ _ B2 (some ⟨b, 0, none⟩) _ _ d d' d2 d3 us vs r _ hU.drew hV.drew HVU.out hd2 hrx2 hul2).mono ?_)
              rintro e w5 ⟨rfl, hX5, hY5, hOn5⟩
              go_wp2
              go_roundw
              case rel => exact ⟨j + 1, _, _, by omega, by go_num, by unfold Hid; rw [HSN.out, ← HY.out], hX5, hY5, (hOn.drew).trans hOn5⟩
              case measure => simp [intOf]; omega
            · have hke : j = oo.c.refs.length := by omega
              have hY := HY.out
              rw [hke, List.take_length] at hY
              have n0 := cell_below (MC.out 0 (by omega)) hB4
              have n1 := cell_below (MC.out 1 (by omega)) hB4
              have n2 := cell_below (MC.out 2 (by omega)) hB4
              have n3 := cell_below (MC.out 3 (by omega)) hB4
              have nf : ∀ o, wr.frozen? ⟨w.heap.size + 1, o, none⟩ = false := fun o => ((bcell hB4).2.1 _ _ (by omega)).trans (MF.out o)
              have nf0 := nf 0
              have nf1 := nf 1
              have nf2 := nf 2
              have nf3 := nf 3
              have hw4 : Below w.heap.size w wr := HB1.trans (hB4.mono hz1)
              have HK := Lib.hid hke
              have HYY : Hid (stepS p = (⟨p.store, us, vs⟩, true)) := by unfold Hid; rw [HS.out, ← hY]
              clear hke hY nf hRF hB1 hbc hbf hB2
              go_wp2
              refine bodyPost_ret (v := .tuple #[.agg #[.slice (some ⟨gc, 0, none⟩) p.store.cells.length d, .slice B' p.store.roots.length d', .slice B2 us.length d2, .slice (some ⟨b, 0, none⟩) vs.length d3], .bool true]) (by simp [results, Try.results27, go_sem, n0, n1, n2, n3]) rfl ⟨_, by unfold snapStepM; rw [HV.out, if_pos rfl, HYY.out], ?_, (((hw4.setCell (by simp) _).setCell (by simp) _).setCell (by simp) _).setCell (by simp) _⟩
              unfold snapStepM
              rw [HV.out, if_pos rfl, HYY.out]
              exact (((((HPR.out.opt).setlt (by simp; omega) _).setlt (by simp; omega) _).setlt (by simp; omega) _).setlt (by simp; omega) _).lo_ (by omega)
        · subst hx
          have HN2 : Hid (noneB id p.y (k + 1)) := noneB_succ HNB.out gx rfl
          clear gx c1 
          go_wp2
          go_round
          case rel => exact ⟨k + 1, by omega, by go_num, HN2⟩
          case measure => simp [intOf]; omega
      · have hke : k = p.y.length := by omega
        have HNB2 := HNB.out
        rw [hke] at HNB2
        have HN := Lib.hid (stepS_none HNB2)
        have q1 := H.out.q1
        have q2 := H.out.q2
        have n0 := cell_below (MC.out 0 (by omega)) hB3
        have n1 := cell_below (MC.out 1 (by omega)) hB3
        have n2 := cell_below (MC.out 2 (by omega)) hB3
        have n3 := cell_below (MC.out 3 (by omega)) hB3
        have nf : ∀ o, ((w2.alloc (.cells #[.slice B p.store.cells.length d, .slice B' p.store.roots.length d', .slice B2 p.x.length d2, .slice B3 p.y.length d3] 29))).frozen? ⟨w.heap.size + 1, o, none⟩ = false := fun o => ((bcell hB3).2.1 _ _ (by omega)).trans (MF.out o)
        have nf0 := nf 0
        have nf1 := nf 1
        have nf2 := nf 2
        have nf3 := nf 3
        have hw4 := HB1.trans (hB3.mono hz1)
        clear hke HNB2 nf hrf hB1 hbc hbf hB2
        go_wp2
        refine bodyPost_ret (v := .tuple #[.agg #[.slice B p.store.cells.length d, .slice B' p.store.roots.length d', .slice B2 p.x.length d2, .slice B3 p.y.length d3], .bool false]) (by simp [results, Try.results27, go_sem, n0, n1, n2, n3]) rfl ⟨_, by unfold snapStepM; rw [HV.out, if_pos rfl, HN.out], ?_, (((hw4.setCell (by simp) _).setCell (by simp) _).setCell (by simp) _).setCell (by simp) _⟩
        unfold snapStepM
        rw [HV.out, if_pos rfl, HN.out]
        exact (((((H.out.opt).setlt (by simp; omega) _).setlt (by simp; omega) _).setlt (by simp; omega) _).setlt (by simp; omega) _).lo_ (by omega)
end Go.Proofs.Yteilaalababfpaa
/- Snapshots under instructions: the recorder's and the snapshotting's execute. -/
namespace Go.Proofs.Yteilaalababfpaa
open Go.RowKit
set_option maxRecDepth 100000
set_option linter.all false
section
variable {lo : Nat} {w w' : World} {g : Nat} {p : TwoM} {A A' A2 A3 : Option Addr} {c c' c2 c3 : Nat} {os : List OCell}
theorem mem3 {a b c : List Nat} {x : Nat} : x ∈ a ++ b ++ c ↔ x ∈ a ∨ x ∈ b ∨ x ∈ c := by simp only [List.mem_append]; exact or_assoc
theorem PTx.heap_ (h : PTx lo w g p A c A' c' os A2 c2 A3 c3) (hb : Below w.heap.size w w') {h' : HeapM} {B B' : Option Addr} {d d' : Nat} {os' : List OCell} (hm : os'.map (·.c) = h'.cells) (hO : OHs w' B d B' d' os' h'.roots) (hlo : ∀ b ∈ hblks B os' B', w.heap.size ≤ b) :
    PTx lo ((w'.setCell ⟨g, 0, none⟩ (.slice B h'.cells.length d)).setCell ⟨g, 1, none⟩ (.slice B' h'.roots.length d')) g ⟨h', p.x, p.y⟩ B d B' d' os' A2 c2 A3 c3 := by
  have hb' := h.below hb
  have hgl := h.lt
  have hgw := hb'.lt
  have k1 : ∀ b ∈ hblks B os' B', b ≠ g := fun b hb9 e => by have := hlo b hb9; omega
  have k2 : ∀ b ∈ blk A2, b ≠ g := fun b hb9 e => h.g2 (e ▸ hb9)
  have k3 : ∀ b ∈ blk A3, b ≠ g := fun b hb9 e => h.g3 (e ▸ hb9)
  refine ⟨by simp [go_sem, hgw, hb'.q0], by simp [go_sem, hgw, hb'.q1], by simp [go_sem, hb'.q2], by simp [go_sem, hb'.q3], fun o => by simp [go_sem, hb'.qf o], h.lo_, by simp; exact hgw, ?_, hm, ?_, ?_, ?_, ?_, ?_, h.xl, h.yl⟩
  · rw [mem3]
    rintro (h9 | h9 | h9)
    · exact k1 _ h9 rfl
    · exact k2 _ h9 rfl
    · exact k3 _ h9 rfl
  · exact hO.keep fun b hb9 => by rw [heap_setCell_ne _ _ _ (k1 b hb9), heap_setCell_ne _ _ _ (k1 b hb9)]
  · exact hb'.xs.keep fun b hb9 => by rw [heap_setCell_ne _ _ _ (k2 b hb9), heap_setCell_ne _ _ _ (k2 b hb9)]
  · exact hb'.ys.keep fun b hb9 => by rw [heap_setCell_ne _ _ _ (k3 b hb9), heap_setCell_ne _ _ _ (k3 b hb9)]
  · have hnd := h.nd
    have hx := h.xs.lt
    have hy := h.ys.lt
    refine nd3_of hO.nodup (blk_nodup _) (blk_nodup _) (fun b h1 h2 => ?_) (fun b h1 h2 => ?_) (fun b h1 h2 => ?_)
    · have := hx b h1; have := hlo b h2; omega
    · have := hy b h1; have := hlo b h2; omega
    · exact h.d2 b h1 h2
  · intro b hb9
    rcases mem3.1 hb9 with h9 | h9 | h9
    · have := hlo b h9; have := h.lo_; omega
    · exact h.los b (mem3.2 (.inr (.inl h9)))
    · exact h.los b (mem3.2 (.inr (.inr h9)))
theorem PTx.pushX (h : PTx lo w g p A c A' c' os A2 c2 A3 c3) {S : Option Addr} {cS : Nat} {b : Bool} (hO : OF 4 fb w' S cS (p.x ++ [b])) (hOn : Only (blk A2) w w') (hg : ∀ b ∈ blk S, b ∈ blk A2 ∨ w.heap.size ≤ b) (hl : p.x.length ≤ 1048576) {n : Nat} (hn : n = p.x.length + 1) :
    PTx lo (w'.setCell ⟨g, 2, none⟩ (.slice S n cS)) g ⟨p.store, p.x ++ [b], p.y⟩ A c A' c' os S cS A3 c3 := by
  rw [show n = (p.x ++ [b]).length from by simp [hn]]
  have hgl := h.lt
  have hgw : g < w'.heap.size := Nat.lt_of_lt_of_le hgl hOn.size
  have kS : ∀ b ∈ blk S, b ≠ g := fun b hb9 e => by rcases hg b hb9 with h9 | h9; exact h.g2 (e ▸ h9); omega
  have k3 : ∀ b ∈ blk A3, b ≠ g := fun b hb9 e => h.g3 (e ▸ hb9)
  have k1 : ∀ b ∈ hblks A os A', b ≠ g := fun b hb9 e => h.apart (mem3.2 (.inl (e ▸ hb9)))
  have n1 : ∀ b ∈ hblks A os A', b ∉ blk A2 := fun b hb9 hc => h.d1 b hb9 (List.mem_append.2 (.inl hc))
  have lt1 := h.own.lt
  have lt3 := h.ys.lt
  refine ⟨by simp [go_sem, hOn.cell h.q0 h.g2], by simp [go_sem, hOn.cell h.q1 h.g2], by simp [go_sem, hOn.cell h.q2 h.g2], by simp [go_sem, hOn.cell h.q3 h.g2], fun o => by simp [go_sem, (hOn.frozenAt g o hgl h.g2).trans (h.qf o)], h.lo_, by simp; exact hgw, ?_, h.map, ?_, ?_, ?_, ?_, ?_, by simp; omega, h.yl⟩
  · rw [mem3]
    rintro (h9 | h9 | h9)
    · exact k1 _ h9 rfl
    · exact kS _ h9 rfl
    · exact k3 _ h9 rfl
  · exact (h.own.only hOn n1).keep fun b hb9 => by rw [heap_setCell_ne _ _ _ (k1 b hb9)]
  · exact hO.keep fun b hb9 => by rw [heap_setCell_ne _ _ _ (kS b hb9)]
  · exact (h.ys.only hOn h.d2).keep fun b hb9 => by rw [heap_setCell_ne _ _ _ (k3 b hb9)]
  · refine nd3_of h.own.nodup (blk_nodup _) (blk_nodup _) (fun b h1 h2 => ?_) (fun b h1 h2 => ?_) (fun b h1 h2 => ?_)
    · rcases hg b h1 with h9 | h9
      · exact n1 b h2 h9
      · have := lt1 b h2; omega
    · exact h.d1 b h2 (List.mem_append.2 (.inr h1))
    · rcases hg b h2 with h9 | h9
      · exact h.d2 b h1 h9
      · have := lt3 b h1; omega
  · intro b hb9
    rcases mem3.1 hb9 with h9 | h9 | h9
    · exact h.los b (mem3.2 (.inl h9))
    · rcases hg b h9 with h8 | h8
      · exact h.los b (mem3.2 (.inr (.inl h8)))
      · have := h.lo_; omega
    · exact h.los b (mem3.2 (.inr (.inr h9)))
theorem PTx.pushY (h : PTx lo w g p A c A' c' os A2 c2 A3 c3) {S : Option Addr} {cS : Nat} {b : Bool} (hO : OF 4 fb w' S cS (p.y ++ [b])) (hOn : Only (blk A3) w w') (hg : ∀ b ∈ blk S, b ∈ blk A3 ∨ w.heap.size ≤ b) (hl : p.y.length ≤ 1048576) {n : Nat} (hn : n = p.y.length + 1) :
    PTx lo (w'.setCell ⟨g, 3, none⟩ (.slice S n cS)) g ⟨p.store, p.x, p.y ++ [b]⟩ A c A' c' os A2 c2 S cS := by
  rw [show n = (p.y ++ [b]).length from by simp [hn]]
  have hgl := h.lt
  have hgw : g < w'.heap.size := Nat.lt_of_lt_of_le hgl hOn.size
  have kS : ∀ b ∈ blk S, b ≠ g := fun b hb9 e => by rcases hg b hb9 with h9 | h9; exact h.g3 (e ▸ h9); omega
  have k2 : ∀ b ∈ blk A2, b ≠ g := fun b hb9 e => h.g2 (e ▸ hb9)
  have k1 : ∀ b ∈ hblks A os A', b ≠ g := fun b hb9 e => h.apart (mem3.2 (.inl (e ▸ hb9)))
  have n1 : ∀ b ∈ hblks A os A', b ∉ blk A3 := fun b hb9 hc => h.d1 b hb9 (List.mem_append.2 (.inr hc))
  have n2 : ∀ b ∈ blk A2, b ∉ blk A3 := fun b hb9 hc => h.d2 b hc hb9
  have lt1 := h.own.lt
  have lt2 := h.xs.lt
  refine ⟨by simp [go_sem, hOn.cell h.q0 h.g3], by simp [go_sem, hOn.cell h.q1 h.g3], by simp [go_sem, hOn.cell h.q2 h.g3], by simp [go_sem, hOn.cell h.q3 h.g3], fun o => by simp [go_sem, (hOn.frozenAt g o hgl h.g3).trans (h.qf o)], h.lo_, by simp; exact hgw, ?_, h.map, ?_, ?_, ?_, ?_, ?_, h.xl, by simp; omega⟩
  · rw [mem3]
    rintro (h9 | h9 | h9)
    · exact k1 _ h9 rfl
    · exact k2 _ h9 rfl
    · exact kS _ h9 rfl
  · exact (h.own.only hOn n1).keep fun b hb9 => by rw [heap_setCell_ne _ _ _ (k1 b hb9)]
  · exact (h.xs.only hOn n2).keep fun b hb9 => by rw [heap_setCell_ne _ _ _ (k2 b hb9)]
  · exact hO.keep fun b hb9 => by rw [heap_setCell_ne _ _ _ (kS b hb9)]
  · refine nd3_of h.own.nodup (blk_nodup _) (blk_nodup _) (fun b h1 h2 => ?_) (fun b h1 h2 => ?_) (fun b h1 h2 => ?_)
    · exact h.d1 b h2 (List.mem_append.2 (.inl h1))
    · rcases hg b h1 with h9 | h9
      · exact n1 b h2 h9
      · have := lt1 b h2; omega
    · rcases hg b h1 with h9 | h9
      · exact n2 b h2 h9
      · have := lt2 b h2; omega
  · intro b hb9
    rcases mem3.1 hb9 with h9 | h9 | h9
    · exact h.los b (mem3.2 (.inl h9))
    · exact h.los b (mem3.2 (.inr (.inl h9)))
    · rcases hg b h9 with h8 | h8
      · exact h.los b (mem3.2 (.inr (.inr h8)))
      · have := h.lo_; omega
theorem PTx.phx (h : PTx lo w g p A c A' c' os A2 c2 A3 c3) : PHx lo w g p.store A c A' c' os := ⟨h.q0, h.q1, h.qf, h.lo_, h.lt, fun hc => h.apart (mem3.2 (.inl hc)), h.map, h.own, fun b hb => h.los b (mem3.2 (.inl hb))⟩
theorem PTx.l2 (h : PTx lo w g p A c A' c' os A2 c2 A3 c3) : ∀ b ∈ blk A2, lo ≤ b := fun b hb => h.los4 b (List.mem_append.2 (.inl hb))
theorem PTx.l3 (h : PTx lo w g p A c A' c' os A2 c2 A3 c3) : ∀ b ∈ blk A3, lo ≤ b := fun b hb => h.los4 b (List.mem_append.2 (.inr hb))
end
def recDo (p : TwoM) (o : CmdM) : TwoM := if o.op = 1 then ⟨execM p.store o p.store.cells.length, p.x ++ [true], p.y ++ [false]⟩ else ⟨execM p.store o p.store.cells.length, p.x, p.y⟩
set_option maxHeartbeats 4000000 in
theorem rexec_any (lo g : Nat) (p : TwoM) (o : CmdM) (A A' A2 A3 : Option Addr) (c c' c2 c3 : Nat) (os : List OCell) (w : World) (h : PTx lo w g p A c A' c' os A2 c2 A3 c3) (hv : validM p.store = true) (hok : cmdOk o = true) (hps : possO p.store o = true) (hx : p.x.length ≤ 1048576) (hy : p.y.length ≤ 1048576) :
    Calls Try.prog 139 #[.pointer (some ⟨g, 0, none⟩), .agg #[.int .i64 o.op, .int .i64 o.a, .int .i64 o.b, .int .i64 o.c]] w fun e w' => e = .returned (.tuple #[]) ∧ (∃ B d B' d' os' B2 d2 B3 d3, PTx lo w' g (recDo p o) B d B' d' os' B2 d2 B3 d3) ∧ Below lo w w' := by
  have hb0 := h.below (w' := (w.alloc (.cells #[.int .i64 o.op, .int .i64 o.a, .int .i64 o.b, .int .i64 o.c] 42))) blw_
  have q0 := hb0.q0
  have q1 := hb0.q1
  have H := Lib.hid hb0
  have hgl := h.lt
  have hlo := h.lo_
  have hrhs := hb0.own.rhs hb0.map
  have g0 : ((w.alloc (.cells #[.int .i64 o.op, .int .i64 o.a, .int .i64 o.b, .int .i64 o.c] 42))).cell? ⟨w.heap.size, 0, none⟩ = some (.int .i64 o.op) := by simp [go_sem]
  have g1 : ((w.alloc (.cells #[.int .i64 o.op, .int .i64 o.a, .int .i64 o.b, .int .i64 o.c] 42))).cell? ⟨w.heap.size, 1, none⟩ = some (.int .i64 o.a) := by simp [go_sem]
  have g2 : ((w.alloc (.cells #[.int .i64 o.op, .int .i64 o.a, .int .i64 o.b, .int .i64 o.c] 42))).cell? ⟨w.heap.size, 2, none⟩ = some (.int .i64 o.b) := by simp [go_sem]
  have g3 : ((w.alloc (.cells #[.int .i64 o.op, .int .i64 o.a, .int .i64 o.b, .int .i64 o.c] 42))).cell? ⟨w.heap.size, 3, none⟩ = some (.int .i64 o.c) := by simp [go_sem]
  have HV := Lib.hid hv
  have HO := Lib.hid hok
  have HP := Lib.hid hps
  have HW : Hid (Below lo w (w.alloc (.cells #[.int .i64 o.op, .int .i64 o.a, .int .i64 o.b, .int .i64 o.c] 42))) := by unfold Hid; exact blw_
  obtain ⟨v1, v2, v3⟩ := valid_small hv
  have v2' : p.store.roots.length ≤ 4 := by omega
  clear v2 v3 hv hok hps h hb0
  have HQF : Hid (∀ q, ((w.alloc (.cells #[.int .i64 o.op, .int .i64 o.a, .int .i64 o.b, .int .i64 o.c] 42))).frozen? ⟨g, q, none⟩ = false) := H.out.qf
  have hne : g ≠ w.heap.size := by omega
  have hne' : w.heap.size ≠ g := by omega
  have hWs : w.heap.size < ((w.alloc (.cells #[.int .i64 o.op, .int .i64 o.a, .int .i64 o.b, .int .i64 o.c] 42))).heap.size := by simp
  go_enter Try.func139, Try.ntmps139
  go_upto_region 1 with fail
  generalize (w.alloc (.cells #[.int .i64 o.op, .int .i64 o.a, .int .i64 o.b, .int .i64 o.c] 42)) = W at *
  have hgW : g < W.heap.size := by omega
  go_cut [] (fun wx => ∃ B d B' d' os2, PTx lo wx g ⟨execM p.store o p.store.cells.length, p.x, p.y⟩ B d B' d' os2 A2 c2 A3 c3 ∧ wx.cell? ⟨w.heap.size, 0, none⟩ = some (.int .i64 o.op) ∧ Below lo w wx)
  case first =>
    go_region_law
      (first
        | (go_simp; go_at_call 90; (with_reducible refine (execute_any _ p.store o p.store.cells.length _ ((hrhs.below blw_).rh _ _) HV.out HO.out HP.out (Nat.le_refl _)).mono ?_); rintro e w2 ⟨v2, rfl, ⟨B, d, B', d', os2, rfl, hm2, hO2, hlo2⟩, hB2⟩
           have hB : Below W.heap.size W w2 := blw_
           have s0 := cell_below q0 hB
           have s1 := cell_below q1 hB
           have sf0 : w2.frozen? ⟨g, 0, none⟩ = false := (((bcell hB).2.1 g 0 hgW).trans (HQF.out 0))
           have sf1 : w2.frozen? ⟨g, 1, none⟩ = false := (((bcell hB).2.1 g 1 hgW).trans (HQF.out 1))
           have c0 := cell_below g0 hB
           have hg2w : g < w2.heap.size := Nat.lt_of_lt_of_le hgW hB.size
           have hlo2' : ∀ b ∈ hblks B os2 B', W.heap.size ≤ b := hlo2))
    all_goals
      have hPA := H.out.heap_ hB hm2 hO2 hlo2'
      have hBA : Below lo w ((w2.setCell ⟨g, 0, none⟩ (.slice B (execM p.store o p.store.cells.length).cells.length d)).setCell ⟨g, 1, none⟩ (.slice B' (execM p.store o p.store.cells.length).roots.length d')) := ((HW.out.trans (hB.mono (by have := HW.out.size; omega))).setCell hlo _).setCell hlo _
      have ca0 : ((w2.setCell ⟨g, 0, none⟩ (.slice B (execM p.store o p.store.cells.length).cells.length d)).setCell ⟨g, 1, none⟩ (.slice B' (execM p.store o p.store.cells.length).roots.length d')).cell? ⟨w.heap.size, 0, none⟩ = some (.int .i64 o.op) := by simp [go_sem, c0, hne, hne']
      go_wp2_with fail
      go_meet
      exact ⟨B, d, B', d', os2, hPA, ca0, hBA⟩
  case rest =>
    obtain ⟨B, d, B', d', os2, hPA, ca0, hBA⟩ := hcut
    obtain ⟨wa, rfl⟩ : ∃ x, x = wc := ⟨_, rfl⟩
    clear q0 q1 g0 g1 g2 g3 H HQF HW hrhs
    rcases Classical.em (o.op = 1) with h1 | h1
    · have hop : (o.op == 1) = true := by simp [h1]
      have H1 := Lib.hid h1
      have a2 : wa.cell? ⟨g, 2, none⟩ = some (.slice A2 p.x.length c2) := hPA.q2
      have a3 : wa.cell? ⟨g, 3, none⟩ = some (.slice A3 p.y.length c3) := hPA.q3
      have af2 := hPA.qf 2
      have af3 := hPA.qf 3
      have hga := hPA.lt
      have ng2 := hPA.g2
      have hl2 := hPA.l2
      have HPA := Lib.hid hPA
      clear hPA h1
      go_wp2_with (at_builtin; (first
        | (refine wpList_appb rfl (.tmp 30) (.tmp 31) rfl p.x rfl rfl (HPA.out.xs.below blw_) (RF.only_one (x := true) (by simp [go_sem, fb])) (by simp; omega) ?_
           intro S' cS' w3 hO3 hOn3 hg3
           have hP3 := ((HPA.out.below blw_).pushX hO3 hOn3 hg3 hx (n := p.x.length + 1) rfl)
           have b2 := hOn3.cell (cell_below a2 blw_) ng2
           have b3 := hOn3.cell (cell_below a3 blw_) ng2
           have bf2 : w3.frozen? ⟨g, 2, none⟩ = false := (hOn3.frozenAt g 2 (by simp; omega) ng2).trans (by simp [go_sem, af2, hga])
           have bf3 : w3.frozen? ⟨g, 3, none⟩ = false := (hOn3.frozenAt g 3 (by simp; omega) ng2).trans (by simp [go_sem, af3, hga])
           have hg3w : g < w3.heap.size := by have := hOn3.size; simp at this; omega
           have hB3 : Below lo w w3 := hBA.trans (Below.trans blw_ (hOn3.below (by simp; omega) hl2))
           have hys := hP3.ys
           have ng3 := hP3.g3
           have hl3 := hP3.l3
           have e3 := hP3.q3
           have HP3 := Lib.hid hP3
           clear hP3 hO3 hOn3 hg3 HPA hBA)
        | (refine wpList_appb rfl (.tmp 41) (.tmp 42) rfl p.y rfl rfl (hys.below blw_) (RF.only_one (x := false) (by simp [go_sem, fb])) (by simp; omega) ?_
           intro S4 cS4 w4 hO4 hOn4 hg4
           have hP4 := ((HP3.out.below blw_).pushY hO4 hOn4 hg4 hy (n := p.y.length + 1) rfl)
           have d3 := hOn4.cell (cell_below e3 blw_) ng3
           have df3 : w4.frozen? ⟨g, 3, none⟩ = false := (hOn4.frozenAt g 3 (by simp; omega) ng3).trans (by simp [go_sem, bf3, hg3w])
           have hg4w : g < w4.heap.size := by have := hOn4.size; simp at this; omega
           have hB4 : Below lo w w4 := by have h5 := hOn4.below (B := lo) (by simp; omega) hl3; exact Below.trans blw_ h5)))
      go_end0
      exact ⟨rfl, ⟨_, _, _, _, _, _, _, _, _, by unfold recDo; rw [if_pos H1.out]; exact hP4⟩, hB4.setCell hlo _⟩
    · have hop : (o.op == 1) = false := by simpa using h1
      go_wp2
      go_end0
      exact ⟨rfl, ⟨_, _, _, _, _, _, _, _, _, by unfold recDo; rw [if_neg h1]; exact hPA⟩, hBA⟩
end Go.Proofs.Yteilaalababfpaa