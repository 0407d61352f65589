/- SnapStart: the program's and the reference's both return snapStartM, in new memory. -/
import Derived.Test.YtdkhpmlimnfgpaaChecked
import Derived.Deep.RegionHeld3
import Derived.Deep.DeepCutAuto
import Derived.Test.YtdkhpmlimnfgpaaCopyI
import Derived.Test.YtdkhpmlimnfgpaaCopyS
import Derived.Test.YtdkhpmlimnfgpaaGrHeap
import Derived.Test.YtdkhpmlimnfgpaaMeet
namespace Go.Proofs.Ytdkhpmlimnfgpaa
open Go.RowKit
set_option maxRecDepth 100000
set_option linter.unusedSimpArgs false
set_option linter.unusedVariables false
theorem OTw.zero {lo : Nat} {w : World} : OTw lo w (.agg #[.slice none 0 0, .slice none 0 0, .slice none 0 0, .slice none 0 0]) zeroT :=
  ⟨none, 0, none, 0, [], none, 0, none, 0, rfl, rfl, ⟨OC.nil_, OF.nil, by simp [blk, blks], by simp, by simp [zeroT, zeroH]⟩, OF.nil, OF.nil, by simp [hblks, blk, blks], by simp [hblks, blk, blks], by simp [zeroT], by simp [zeroT]⟩
theorem RTw.mk_ {w : World} {A A' A2 A3 : Option Addr} {c c' c2 c3 n m : Nat} {h : HeapM} {xs ys : List Bool} (h1 : RHs w A A' h) (h2 : RF fb w A2 xs) (h3 : RF fb w A3 ys) (hn : n = xs.length) (hm : m = ys.length) (h4 : n ≤ 9223372036854775807) (h5 : m ≤ 9223372036854775807) :
    RTw w (.agg #[.slice A h.cells.length c, .slice A' h.roots.length c', .slice A2 n c2, .slice A3 m c3]) ⟨h, xs, ys⟩ := by
  subst hn; subst hm
  exact ⟨A, c, A', c', A2, c2, A3, c3, rfl, h1, h2, h4, h3, h5⟩
set_option maxHeartbeats 4000000 in
theorem implSnapStart_any (v : Value) (h : HeapM) (w : World) (hv : RH w v h) :
    Calls Try.prog 18 #[v] w fun e w' => ∃ v', e = .returned v' ∧ OTw w.heap.size w' v' (snapStartM h) ∧ Below w.heap.size w w' := by
  have hv0 := hv
  obtain ⟨A, c, A', c', rfl, hc, hr, hl1, hl2⟩ := hv
  cases hva : validM h
  · have HV := Lib.hid hva
    go_enter Try.func18, Try.ntmps18
    go_wp2_with (go_at_call 40; refine (implHeapValid_any _ h _ (hv0.below (by repeat (first | ((with_reducible refine Below.setc ?_ ?_ _); focus (first | omega | (simp; done) | (simp; omega))) | ((with_reducible refine Below.allocc ?_ ?_ _); focus (first | omega | (simp; done) | (simp; omega))) | (with_reducible refine Below.drew ?_) | (with_reducible refine Below.drewn ?_) | (with_reducible assumption) | (with_reducible exact Below.refl _ _) | ((with_reducible refine Below.stepp (by with_reducible assumption) ?_ ?_); focus (first | omega | (simp; done) | (simp; omega))))))).mono ?_; rw [HV.out]; rintro e w1 ⟨rfl, hB1⟩; obtain ⟨hbc, hbf, hbz⟩ := bcell hB1; have z0w1 : w.heap.size < w1.heap.size := (by (try simp at hbz); omega); have z1w1 : w.heap.size + 1 < w1.heap.size := (by (try simp at hbz); omega))
    refine bodyPost_ret (v := .agg #[.slice none 0 0, .slice none 0 0, .slice none 0 0, .slice none 0 0]) (by simp [results, Try.results18, go_sem, hbc]) rfl ⟨_, rfl, ?_, (by repeat (first | ((with_reducible refine Below.setc ?_ ?_ _); focus (first | omega | (simp; done) | (simp; omega))) | ((with_reducible refine Below.allocc ?_ ?_ _); focus (first | omega | (simp; done) | (simp; omega))) | (with_reducible refine Below.drew ?_) | (with_reducible refine Below.drewn ?_) | (with_reducible assumption) | (with_reducible exact Below.refl _ _) | ((with_reducible refine Below.stepp (by with_reducible assumption) ?_ ?_); focus (first | omega | (simp; done) | (simp; omega)))))⟩
    unfold snapStartM
    rw [HV.out]
    exact OTw.zero
  · obtain ⟨v1, v2, v3⟩ := valid_small hva
    have hmk := mk_bools h.cells.length (by omega)
    have HV := Lib.hid hva
    have v2' : h.roots.length ≤ 4 := by omega
    have HVL := Lib.hid (validM_lt hva).2
    clear hva v2
    go_enter Try.func18, Try.ntmps18
    go_wp2_with (go_at_call 40; refine (implHeapValid_any _ h _ (hv0.below (by repeat (first | ((with_reducible refine Below.setc ?_ ?_ _); focus (first | omega | (simp; done) | (simp; omega))) | ((with_reducible refine Below.allocc ?_ ?_ _); focus (first | omega | (simp; done) | (simp; omega))) | (with_reducible refine Below.drew ?_) | (with_reducible refine Below.drewn ?_) | (with_reducible assumption) | (with_reducible exact Below.refl _ _) | ((with_reducible refine Below.stepp (by with_reducible assumption) ?_ ?_); focus (first | omega | (simp; done) | (simp; omega))))))).mono ?_; rw [HV.out]; rintro e w1 ⟨rfl, hB1⟩; obtain ⟨hbc, hbf, hbz⟩ := bcell hB1; have z0w1 : w.heap.size < w1.heap.size := (by (try simp at hbz); omega); have z1w1 : w.heap.size + 1 < w1.heap.size := (by (try simp at hbz); omega); have k0 : w1.cell? ⟨w.heap.size, 0, none⟩ = some (.slice A h.cells.length c) := (by rw [hbc _ _ (by first | omega | (simp; done) | (simp; omega))]; simp [go_sem]); have k1 : w1.cell? ⟨w.heap.size, 1, none⟩ = some (.slice A' h.roots.length c') := (by rw [hbc _ _ (by first | omega | (simp; done) | (simp; omega))]; simp [go_sem]); have HB1 : Below w.heap.size w w1 := (by repeat (first | ((with_reducible refine Below.setc ?_ ?_ _); focus (first | omega | (simp; done) | (simp; omega))) | ((with_reducible refine Below.allocc ?_ ?_ _); focus (first | omega | (simp; done) | (simp; omega))) | (with_reducible refine Below.drew ?_) | (with_reducible refine Below.drewn ?_) | (with_reducible assumption) | (with_reducible exact Below.refl _ _) | ((with_reducible refine Below.stepp (by with_reducible assumption) ?_ ?_); focus (first | omega | (simp; done) | (simp; omega))))); have MC : Hid (∀ o, o < 4 → w1.cell? ⟨w.heap.size + 1, o, none⟩ = some (.slice none 0 0)) := (fun o ho => by rw [hbc _ _ (by first | omega | (simp; done) | (simp; omega))]; rcases (by omega : o = 0 ∨ o = 1 ∨ o = 2 ∨ o = 3) with rfl | rfl | rfl | rfl <;> simp [go_sem]); have MF : Hid (∀ o, w1.frozen? ⟨w.heap.size + 1, o, none⟩ = false) := (fun o => by rw [hbf _ _ (by first | omega | (simp; done) | (simp; omega))]; simp [go_sem]))
    have hS : ∀ W, Below w1.heap.size w1 W → W.cell? ⟨w.heap.size, 0, none⟩ = some (.slice A h.cells.length c) ∧ W.cell? ⟨w.heap.size, 1, none⟩ = some (.slice A' h.roots.length c') := fun W hW => ⟨cell_below k0 hW, cell_below k1 hW⟩
    go_region_held3 (fun w' => w'.cell? ⟨w.heap.size, 0, none⟩ = some (.slice A h.cells.length c) ∧ w'.cell? ⟨w.heap.size, 1, none⟩ = some (.slice A' h.roots.length c'))
      (first | exact hS _ (by repeat (first | ((with_reducible refine Below.setc ?_ ?_ _); focus (first | omega | (simp; done) | (simp; omega))) | ((with_reducible refine Below.allocc ?_ ?_ _); focus (first | omega | (simp; done) | (simp; omega))) | (with_reducible refine Below.drew ?_) | (with_reducible refine Below.drewn ?_) | (with_reducible assumption) | (with_reducible exact Below.refl _ _) | ((with_reducible refine Below.stepp (by with_reducible assumption) ?_ ?_); focus (first | omega | (simp; done) | (simp; omega))))))
      (first
        | (go_at_call 72; (with_reducible refine (recording_any _ ⟨h, List.replicate h.cells.length false, List.replicate h.cells.length false⟩ _ (RTw.mk_ (RHs.below ⟨hc, hr, hl1, hl2⟩ (by repeat (first | ((with_reducible refine Below.setc ?_ ?_ _); focus (first | omega | (simp; done) | (simp; omega))) | ((with_reducible refine Below.allocc ?_ ?_ _); focus (first | omega | (simp; done) | (simp; omega))) | (with_reducible refine Below.drew ?_) | (with_reducible refine Below.drewn ?_) | (with_reducible assumption) | (with_reducible exact Below.refl _ _) | ((with_reducible refine Below.stepp (by with_reducible assumption) ?_ ?_); focus (first | omega | (simp; done) | (simp; omega)))))) (OF.rf (OF.of_blk (T := 4) (by (repeat (first | rw [heap_drew_] | exact heap_alloc_at _ _ _ (by first | omega | (simp; done) | (simp; omega)) | rw [heap_setCell_ne _ _ _ (by first | omega | (simp; done) | (simp; omega))] | rw [Below.block HB1 _ (by first | omega | (simp; done) | (simp; omega))] | rw [Only.block HB1 _ (by first | omega | (simp; done) | (simp; omega)) (fun hc => by have := mem_blk_some hc; first | omega | (simp at this; done) | (simp at this; omega))] | rw [Below.heap_alloc _ _ _ (by first | omega | (simp; done) | (simp; omega))]))) (by simp only [maxLen, List.length_replicate]; omega))) (OF.rf (OF.of_blk (T := 4) (by (repeat (first | rw [heap_drew_] | exact heap_alloc_at _ _ _ (by first | omega | (simp; done) | (simp; omega)) | rw [heap_setCell_ne _ _ _ (by first | omega | (simp; done) | (simp; omega))] | rw [Below.block HB1 _ (by first | omega | (simp; done) | (simp; omega))] | rw [Only.block HB1 _ (by first | omega | (simp; done) | (simp; omega)) (fun hc => by have := mem_blk_some hc; first | omega | (simp at this; done) | (simp at this; omega))] | rw [Below.heap_alloc _ _ _ (by first | omega | (simp; done) | (simp; omega))]))) (by simp only [maxLen, List.length_replicate]; omega))) (by simp) (by simp) (by omega) (by omega)) (by show h.cells.length ≤ _; omega) (fun d hd => Nat.le_trans (v3 d hd) (by omega)) (by show h.roots.length ≤ _; omega) (by simp; omega) (by simp; omega)).mono ?_); rintro e w2 ⟨g, rfl, hP, hB2⟩; (have z_hB2 := Below.size hB2); (try simp only [World.size_alloc, World.size_setCell, World.size_drew, World.heap_drewN] at z_hB2)))
    all_goals
      obtain ⟨B, d, B', d', os, S2, d2, S3, d3, q0, q1, q2, q3, qf, hgl, hgw, hgn, hm, ho, hx, hy, hnd, hlo, -, -⟩ := hP
      have kk := (hS w2 (by repeat (first | ((with_reducible refine Below.setc ?_ ?_ _); focus (first | omega | (simp; done) | (simp; omega))) | ((with_reducible refine Below.allocc ?_ ?_ _); focus (first | omega | (simp; done) | (simp; omega))) | (with_reducible refine Below.drew ?_) | (with_reducible refine Below.drewn ?_) | (with_reducible assumption) | (with_reducible exact Below.refl _ _) | ((with_reducible refine Below.stepp (by with_reducible assumption) ?_ ?_); focus (first | omega | (simp; done) | (simp; omega)))))).2
      have HM := Lib.hid hm
      have hw12 : Below w1.heap.size w1 w2 := (by repeat (first | ((with_reducible refine Below.setc ?_ ?_ _); focus (first | omega | (simp; done) | (simp; omega))) | ((with_reducible refine Below.allocc ?_ ?_ _); focus (first | omega | (simp; done) | (simp; omega))) | (with_reducible refine Below.drew ?_) | (with_reducible refine Below.drewn ?_) | (with_reducible assumption) | (with_reducible exact Below.refl _ _) | ((with_reducible refine Below.stepp (by with_reducible assumption) ?_ ?_); focus (first | omega | (simp; done) | (simp; omega)))))
      have hw2 : Below w.heap.size w w2 := HB1.trans (hw12.mono HB1.size)
      simp only [World.size_alloc, World.size_setCell, World.size_drew, World.heap_drewN, heap_drew_] at hgl hlo
      have hlo2 : ∀ b ∈ blk S2 ++ blk S3, w.heap.size ≤ b := fun b hb => by
        have := hlo b (by simp only [List.mem_append] at hb ⊢; rcases hb with hb | hb; exact .inl (.inr hb); exact .inr hb)
        omega
      have hroots : ∀ W, Only (blk S2 ++ blk S3) w2.drew W → RF fi W A' h.roots := fun W hW => hr.below (hw2.drew.trans (hW.below (by have := hw2.size; simpa using this) hlo2))
      have hg2 : g ∉ blk S2 := fun hc => hgn (List.mem_append.2 (.inl (List.mem_append.2 (.inr hc))))
      have hg3 : g ∉ blk S3 := fun hc => hgn (List.mem_append.2 (.inr hc))
      have hg4 : g ∉ blk S2 ++ blk S3 := fun hc => (List.mem_append.1 hc).elim hg2 hg3
      have HND := Lib.hid hnd
      have HLO := Lib.hid hlo
      have hds : ∀ b ∈ blk S3, b ∉ blk S2 := fun b hb hc => by
        have := HND.out
        simp only [List.nodup_append] at this
        exact this.2.2 b (List.mem_append.2 (.inr hc)) b hb rfl
      have hps : ∀ b ∈ hblks B os B', b ∉ blk S2 ++ blk S3 := fun b hb hc => by
        have := HND.out
        simp only [List.nodup_append] at this
        rcases List.mem_append.1 hc with hc | hc
        · exact this.1.2.2 b hb b hc rfl
        · exact this.2.2 b (List.mem_append.2 (.inl hb)) b hc rfl
      have HPS := Lib.hid hps
      have HRO := Lib.hid hroots
      have qf0 := qf 0
      clear hm hnd hlo hlo2 hgn hps hroots hS k0 k1 hmk hB1
      go_upto_region 4 with fail
      go_still_tail 5, (by kernel_rfl)
      change wpList _ _ _ _ _ w2.drew
      go_wp2_with fail
      ((refine (meet_any g S2 S3 A' d2 d3 c' (List.replicate h.cells.length false) (List.replicate h.cells.length false) h.roots w2.drew q2 q3 hx.drew hy.drew rfl hg2 hg3 hds HRO.out (by omega) (by rw [List.length_replicate]; exact HVL.out) (by rw [List.length_replicate]; omega)).mono ?_); rintro e w3 ⟨rfl, hx3, hy3, hOn⟩; have p0 := hOn.cell (p := ⟨g, 0, none⟩) q0 hg4; have p1 := hOn.cell (p := ⟨g, 1, none⟩) q1 hg4; have p2 := hOn.cell (p := ⟨g, 2, none⟩) q2 hg4; have p3 := hOn.cell (p := ⟨g, 3, none⟩) q3 hg4)
      have e1 : (meetL (List.replicate h.cells.length false, List.replicate h.cells.length false) h.roots).1.length = h.cells.length := by rw [(meetL_len _ _).1, List.length_replicate]
      have e2 : (meetL (List.replicate h.cells.length false, List.replicate h.cells.length false) h.roots).2.length = h.cells.length := by rw [(meetL_len _ _).2, List.length_replicate]
      have E1 := Lib.hid e1
      have E2 := Lib.hid e2
      have hO3 := (ho.below (w' := w2.drew) (Below.refl _ _).drew).only hOn HPS.out
      have hz3 := hOn.size
      have hz2 := hw2.size
      have hw12s := hw12.size
      have hB13 : Below w1.heap.size w1 w3 := hw12.drew.trans (hOn.below hw12s (fun b hb => by have := HLO.out b (by simp only [List.mem_append] at hb ⊢; rcases hb with hb | hb; exact .inl (.inr hb); exact .inr hb); omega))
      have hB3 : Below w.heap.size w w3 := HB1.trans (hB13.mono HB1.size)
      have n0 := cell_below (MC.out 0 (by omega)) hB13
      have n1 := cell_below (MC.out 1 (by omega)) hB13
      have n2 := cell_below (MC.out 2 (by omega)) hB13
      have n3 := cell_below (MC.out 3 (by omega)) hB13
      have nf : ∀ o, w3.frozen? ⟨w.heap.size + 1, o, none⟩ = false := fun o => ((bcell hB13).2.1 _ _ (by omega)).trans (MF.out o)
      have nf0 := nf 0
      have nf1 := nf 1
      have nf2 := nf 2
      have nf3 := nf 3
      have hO3l := hO3.lt
      have hx3l := hx3.lt
      have hy3l := hy3.lt
      simp only [List.length_replicate] at p2 p3
      clear e1 e2 nf
      go_wp2_with fail
      refine bodyPost_ret (v := .agg #[.slice B h.cells.length d, .slice B' h.roots.length d', .slice S2 h.cells.length d2, .slice S3 h.cells.length d3]) (by simp [results, Try.results18, go_sem, n0, n1, n2, n3]) rfl ⟨_, rfl, ?_, (((hB3.setCell (by simp) _).setCell (by simp) _).setCell (by simp) _).setCell (by simp) _⟩
      unfold snapStartM
      rw [HV.out, if_pos rfl]
      refine ⟨B, d, B', d', os, S2, d2, S3, d3, ?_, HM.out, ?_, ?_, ?_, HND.out, fun b hb => by have := HLO.out b hb; omega, by rw [E1.out]; omega, by rw [E2.out]; omega⟩
      · rw [E1.out, E2.out]
      · exact hO3.keep fun b hb => by have := HLO.out b (by simp only [List.mem_append]; exact .inl (.inl hb)); (repeat (first | rw [heap_setCell_ne _ _ _ (by first | omega | (simp; done) | (simp; omega))] | rw [Below.block hB3 _ (by first | omega | (simp; done) | (simp; omega))] | rw [Below.heap_alloc _ _ _ (by first | omega | (simp; done) | (simp; omega))]))
      · exact hx3.keep fun b hb => by have := HLO.out b (by simp only [List.mem_append]; exact .inl (.inr hb)); (repeat (first | rw [heap_setCell_ne _ _ _ (by first | omega | (simp; done) | (simp; omega))] | rw [Below.block hB3 _ (by first | omega | (simp; done) | (simp; omega))] | rw [Below.heap_alloc _ _ _ (by first | omega | (simp; done) | (simp; omega))]))
      · exact hy3.keep fun b hb => by have := HLO.out b (by simp only [List.mem_append]; exact .inr hb); (repeat (first | rw [heap_setCell_ne _ _ _ (by first | omega | (simp; done) | (simp; omega))] | rw [Below.block hB3 _ (by first | omega | (simp; done) | (simp; omega))] | rw [Below.heap_alloc _ _ _ (by first | omega | (simp; done) | (simp; omega))]))
end Go.Proofs.Ytdkhpmlimnfgpaa
