/- The reference's copies of snapshots and of aged heaps. -/
import Derived.Test.YtdkhpmlimnfgpaaChecked
import Derived.Deep.RegionHeld3
import Derived.Deep.DeepCutAuto
import Derived.IntWalk
import Derived.Test.YtdkhpmlimnfgpaaCopyS
import Derived.Test.YtdkhpmlimnfgpaaCopyI
namespace Go.Proofs.Ytdkhpmlimnfgpaa
open Go.RowKit
set_option maxRecDepth 100000
set_option linter.unusedSimpArgs false
set_option linter.unusedVariables false
theorem OF.fresh0 {α : Type} {T : TypeId} {f : α → Value} {w : World} {q : Nat} (h : w.heap[q]? = some (.cells #[] T (0, 0))) : OF T f w (some ⟨q, 0, none⟩) 0 ([] : List α) :=
  ⟨by simp, .inr ⟨q, 0, #[], rfl, Nat.zero_le _, h, Nat.le_refl _, Nat.zero_le _, by simp, by simp⟩⟩
set_option maxHeartbeats 4000000 in
theorem l19Copy_any (v : Value) (p : TwoM) (w : World) (hv : RTw w v p) (hn : p.store.cells.length ≤ 1048576) (hr : ∀ d ∈ p.store.cells, d.refs.length ≤ 1048576) (hn2 : p.store.roots.length ≤ 1048576) (hn3 : p.x.length ≤ 1048576) (hn4 : p.y.length ≤ 1048576) :
    Calls Try.prog 120 #[v] w fun e w' => ∃ v', e = .returned v' ∧ OTw w.heap.size w' v' p ∧ Below w.heap.size w w' := by
  obtain ⟨A, c, A', c', A2, c2, A3, c3, rfl, hh, hx, -, hy, -⟩ := hv
  have k0 : ((w.alloc (.cells #[.slice A p.store.cells.length c, .slice A' p.store.roots.length c', .slice A2 p.x.length c2, .slice A3 p.y.length c3] 32)).alloc (.cells #[.slice none 0 0, .slice none 0 0, .slice none 0 0, .slice none 0 0] 32)).cell? ⟨w.heap.size, 0, none⟩ = some (.slice A p.store.cells.length c) := by simp [go_sem]
  have k1 : ((w.alloc (.cells #[.slice A p.store.cells.length c, .slice A' p.store.roots.length c', .slice A2 p.x.length c2, .slice A3 p.y.length c3] 32)).alloc (.cells #[.slice none 0 0, .slice none 0 0, .slice none 0 0, .slice none 0 0] 32)).cell? ⟨w.heap.size, 1, none⟩ = some (.slice A' p.store.roots.length c') := by simp [go_sem]
  have k2 : ((w.alloc (.cells #[.slice A p.store.cells.length c, .slice A' p.store.roots.length c', .slice A2 p.x.length c2, .slice A3 p.y.length c3] 32)).alloc (.cells #[.slice none 0 0, .slice none 0 0, .slice none 0 0, .slice none 0 0] 32)).cell? ⟨w.heap.size, 2, none⟩ = some (.slice A2 p.x.length c2) := by simp [go_sem]
  have k3 : ((w.alloc (.cells #[.slice A p.store.cells.length c, .slice A' p.store.roots.length c', .slice A2 p.x.length c2, .slice A3 p.y.length c3] 32)).alloc (.cells #[.slice none 0 0, .slice none 0 0, .slice none 0 0, .slice none 0 0] 32)).cell? ⟨w.heap.size, 3, none⟩ = some (.slice A3 p.y.length c3) := by simp [go_sem]
  have m0 : ((w.alloc (.cells #[.slice A p.store.cells.length c, .slice A' p.store.roots.length c', .slice A2 p.x.length c2, .slice A3 p.y.length c3] 32)).alloc (.cells #[.slice none 0 0, .slice none 0 0, .slice none 0 0, .slice none 0 0] 32)).cell? ⟨w.heap.size + 1, 0, none⟩ = some (.slice none 0 0) := by simp [go_sem]
  have m1 : ((w.alloc (.cells #[.slice A p.store.cells.length c, .slice A' p.store.roots.length c', .slice A2 p.x.length c2, .slice A3 p.y.length c3] 32)).alloc (.cells #[.slice none 0 0, .slice none 0 0, .slice none 0 0, .slice none 0 0] 32)).cell? ⟨w.heap.size + 1, 1, none⟩ = some (.slice none 0 0) := by simp [go_sem]
  have m2 : ((w.alloc (.cells #[.slice A p.store.cells.length c, .slice A' p.store.roots.length c', .slice A2 p.x.length c2, .slice A3 p.y.length c3] 32)).alloc (.cells #[.slice none 0 0, .slice none 0 0, .slice none 0 0, .slice none 0 0] 32)).cell? ⟨w.heap.size + 1, 2, none⟩ = some (.slice none 0 0) := by simp [go_sem]
  have m3 : ((w.alloc (.cells #[.slice A p.store.cells.length c, .slice A' p.store.roots.length c', .slice A2 p.x.length c2, .slice A3 p.y.length c3] 32)).alloc (.cells #[.slice none 0 0, .slice none 0 0, .slice none 0 0, .slice none 0 0] 32)).cell? ⟨w.heap.size + 1, 3, none⟩ = some (.slice none 0 0) := by simp [go_sem]
  have mf : ∀ o, ((w.alloc (.cells #[.slice A p.store.cells.length c, .slice A' p.store.roots.length c', .slice A2 p.x.length c2, .slice A3 p.y.length c3] 32)).alloc (.cells #[.slice none 0 0, .slice none 0 0, .slice none 0 0, .slice none 0 0] 32)).frozen? ⟨w.heap.size + 1, o, none⟩ = false := by intro o; simp [go_sem]
  have hS : ∀ W, Below ((w.alloc (.cells #[.slice A p.store.cells.length c, .slice A' p.store.roots.length c', .slice A2 p.x.length c2, .slice A3 p.y.length c3] 32)).alloc (.cells #[.slice none 0 0, .slice none 0 0, .slice none 0 0, .slice none 0 0] 32)).heap.size ((w.alloc (.cells #[.slice A p.store.cells.length c, .slice A' p.store.roots.length c', .slice A2 p.x.length c2, .slice A3 p.y.length c3] 32)).alloc (.cells #[.slice none 0 0, .slice none 0 0, .slice none 0 0, .slice none 0 0] 32)) W → W.cell? ⟨w.heap.size, 0, none⟩ = some (.slice A p.store.cells.length c) ∧ W.cell? ⟨w.heap.size, 1, none⟩ = some (.slice A' p.store.roots.length c') ∧ W.cell? ⟨w.heap.size, 2, none⟩ = some (.slice A2 p.x.length c2) ∧ W.cell? ⟨w.heap.size, 3, none⟩ = some (.slice A3 p.y.length c3) :=
    fun W hW => ⟨cell_below k0 hW, cell_below k1 hW, cell_below k2 hW, cell_below k3 hW⟩
  go_enter Try.func120, Try.ntmps120
  go_upto_region 1 with fail
  go_region_held3 (fun w' => w'.cell? ⟨w.heap.size, 0, none⟩ = some (.slice A p.store.cells.length c) ∧ w'.cell? ⟨w.heap.size, 1, none⟩ = some (.slice A' p.store.roots.length c') ∧ w'.cell? ⟨w.heap.size, 2, none⟩ = some (.slice A2 p.x.length c2) ∧ w'.cell? ⟨w.heap.size, 3, none⟩ = some (.slice A3 p.y.length c3))
    (first | (with_reducible exact ⟨s0, s1, s2, s3⟩) | (simp [go_sem, s0, s1, s2, s3]; done) | exact hS _ (by repeat (first | ((with_reducible refine Below.setc ?_ ?_ _); focus (first | omega | (simp; done) | (simp; omega))) | ((with_reducible refine Below.allocc ?_ ?_ _); focus (first | omega | (simp; done) | (simp; omega))) | (with_reducible refine Below.drew ?_) | (with_reducible refine Below.drewn ?_) | (with_reducible assumption) | (with_reducible exact Below.refl _ _) | ((with_reducible refine Below.stepp (by with_reducible assumption) ?_ ?_); focus (first | omega | (simp; done) | (simp; omega))))))
    (first
      | (go_at_call 68; (with_reducible refine (l7Copy_any _ p.store _ ((hh.below (by repeat (first | ((with_reducible refine Below.setc ?_ ?_ _); focus (first | omega | (simp; done) | (simp; omega))) | ((with_reducible refine Below.allocc ?_ ?_ _); focus (first | omega | (simp; done) | (simp; omega))) | (with_reducible refine Below.drew ?_) | (with_reducible refine Below.drewn ?_) | (with_reducible assumption) | (with_reducible exact Below.refl _ _) | ((with_reducible refine Below.stepp (by with_reducible assumption) ?_ ?_); focus (first | omega | (simp; done) | (simp; omega)))))).rh _ _) hn hr hn2).mono ?_); rintro e wh ⟨vh, rfl, ⟨B, d, B', d', os, rfl, hm, ho, hlo⟩, hBh⟩; (have z_hBh := Below.size hBh); (try simp only [World.size_alloc, World.size_setCell, World.size_drew, World.heap_drewN] at z_hBh); have HM := Lib.hid hm; clear hm; have HL := Lib.hid hlo; clear hlo; have HO := Lib.hid ho; clear ho)
      | (refine step_appb rfl (.tmp 6) (.tmp 8) rfl [] rfl rfl (OF.fresh0 (by (repeat (first | rw [heap_drew_] | exact heap_alloc_at _ _ _ (by first | omega | (simp; done) | (simp; omega)) | rw [heap_setCell_ne _ _ _ (by first | omega | (simp; done) | (simp; omega))] | rw [Below.block hBh _ (by first | omega | (simp; done) | (simp; omega))] | rw [Only.block hOn3 _ (by first | omega | (simp; done) | (simp; omega)) (fun hc => by have := mem_blk_some hc; first | omega | (simp at this; done) | (simp at this; omega))] | rw [Below.heap_alloc _ _ _ (by first | omega | (simp; done) | (simp; omega))])))) (hx.below (by repeat (first | ((with_reducible refine Below.setc ?_ ?_ _); focus (first | omega | (simp; done) | (simp; omega))) | ((with_reducible refine Below.allocc ?_ ?_ _); focus (first | omega | (simp; done) | (simp; omega))) | (with_reducible refine Below.drew ?_) | (with_reducible refine Below.drewn ?_) | (with_reducible assumption) | (with_reducible exact Below.refl _ _) | ((with_reducible refine Below.stepp (by with_reducible assumption) ?_ ?_); focus (first | omega | (simp; done) | (simp; omega)))))) (by simp; omega) ?_
         intro S2 d2 wb hS2 hOn2 hgS2
         rw [List.nil_append] at hS2
         have z2 := hOn2.size
         try simp only [World.size_alloc, World.size_setCell, World.size_drew, World.heap_drewN] at z2
         have hB2 : Below ((w.alloc (.cells #[.slice A p.store.cells.length c, .slice A' p.store.roots.length c', .slice A2 p.x.length c2, .slice A3 p.y.length c3] 32)).alloc (.cells #[.slice none 0 0, .slice none 0 0, .slice none 0 0, .slice none 0 0] 32)).heap.size ((w.alloc (.cells #[.slice A p.store.cells.length c, .slice A' p.store.roots.length c', .slice A2 p.x.length c2, .slice A3 p.y.length c3] 32)).alloc (.cells #[.slice none 0 0, .slice none 0 0, .slice none 0 0, .slice none 0 0] 32)) wb := Below.trans (by repeat (first | ((with_reducible refine Below.setc ?_ ?_ _); focus (first | omega | (simp; done) | (simp; omega))) | ((with_reducible refine Below.allocc ?_ ?_ _); focus (first | omega | (simp; done) | (simp; omega))) | (with_reducible refine Below.drew ?_) | (with_reducible refine Below.drewn ?_) | (with_reducible assumption) | (with_reducible exact Below.refl _ _) | ((with_reducible refine Below.stepp (by with_reducible assumption) ?_ ?_); focus (first | omega | (simp; done) | (simp; omega))))) (hOn2.below (by first | omega | (simp; done) | (simp; omega)) (fun g hg => by rw [mem_blk_some hg]; first | omega | (simp; done) | (simp; omega)))
         have s0 := cell_below k0 hB2
         have s1 := cell_below k1 hB2
         have s2 := cell_below k2 hB2
         have s3 := cell_below k3 hB2)
      | (refine step_appb rfl (.tmp 10) (.tmp 12) rfl [] rfl rfl (OF.fresh0 (by (repeat (first | rw [heap_drew_] | exact heap_alloc_at _ _ _ (by first | omega | (simp; done) | (simp; omega)) | rw [heap_setCell_ne _ _ _ (by first | omega | (simp; done) | (simp; omega))] | rw [Below.block hBh _ (by first | omega | (simp; done) | (simp; omega))] | rw [Only.block hOn2 _ (by first | omega | (simp; done) | (simp; omega)) (fun hc => by have := mem_blk_some hc; first | omega | (simp at this; done) | (simp at this; omega))] | rw [Below.heap_alloc _ _ _ (by first | omega | (simp; done) | (simp; omega))])))) (hy.below (by repeat (first | ((with_reducible refine Below.setc ?_ ?_ _); focus (first | omega | (simp; done) | (simp; omega))) | ((with_reducible refine Below.allocc ?_ ?_ _); focus (first | omega | (simp; done) | (simp; omega))) | (with_reducible refine Below.drew ?_) | (with_reducible refine Below.drewn ?_) | (with_reducible assumption) | (with_reducible exact Below.refl _ _) | ((with_reducible refine Below.stepp (by with_reducible assumption) ?_ ?_); focus (first | omega | (simp; done) | (simp; omega)))))) (by simp; omega) ?_
         intro S3 d3 wc hS3 hOn3 hgS3
         rw [List.nil_append] at hS3
         have z3 := hOn3.size
         try simp only [World.size_alloc, World.size_setCell, World.size_drew, World.heap_drewN] at z3
         have hB3 : Below ((w.alloc (.cells #[.slice A p.store.cells.length c, .slice A' p.store.roots.length c', .slice A2 p.x.length c2, .slice A3 p.y.length c3] 32)).alloc (.cells #[.slice none 0 0, .slice none 0 0, .slice none 0 0, .slice none 0 0] 32)).heap.size ((w.alloc (.cells #[.slice A p.store.cells.length c, .slice A' p.store.roots.length c', .slice A2 p.x.length c2, .slice A3 p.y.length c3] 32)).alloc (.cells #[.slice none 0 0, .slice none 0 0, .slice none 0 0, .slice none 0 0] 32)) wc := Below.trans (by repeat (first | ((with_reducible refine Below.setc ?_ ?_ _); focus (first | omega | (simp; done) | (simp; omega))) | ((with_reducible refine Below.allocc ?_ ?_ _); focus (first | omega | (simp; done) | (simp; omega))) | (with_reducible refine Below.drew ?_) | (with_reducible refine Below.drewn ?_) | (with_reducible assumption) | (with_reducible exact Below.refl _ _) | ((with_reducible refine Below.stepp (by with_reducible assumption) ?_ ?_); focus (first | omega | (simp; done) | (simp; omega))))) (hOn3.below (by first | omega | (simp; done) | (simp; omega)) (fun g hg => by rw [mem_blk_some hg]; first | omega | (simp; done) | (simp; omega)))
         have n0 := cell_below m0 hB3
         have n1 := cell_below m1 hB3
         have n2 := cell_below m2 hB3
         have n3 := cell_below m3 hB3
         have nf : ∀ o, wc.frozen? ⟨w.heap.size + 1, o, none⟩ = false := fun o => ((bcell hB3).2.1 (w.heap.size + 1) o (by simp)).trans (mf o)
         have nf0 := nf 0
         have nf1 := nf 1
         have nf2 := nf 2
         have nf3 := nf 3
         have s0 := cell_below k0 hB3
         have s1 := cell_below k1 hB3
         have s2 := cell_below k2 hB3
         have s3 := cell_below k3 hB3))
  all_goals
    have hL := HL.out
    try simp only [World.size_alloc, World.size_setCell, World.size_drew, World.heap_drewN, heap_drew_] at hL
    have hLt := HO.out.lt
    have hS2l := hS2.lt
    have hS3l := hS3.lt
    have g2 : ∀ g ∈ blk S2, w.heap.size + 2 ≤ g ∧ g ∉ hblks B os B' := fun g hg => by
      rcases hgS2 g hg with hh | hh
      · have := mem_blk_some hh
        exact ⟨by first | omega | (simp at this; omega), fun hc => by have h1 := hL g hc; have h2 := hLt g hc; first | omega | (simp at h1 this; omega)⟩
      · try simp at hh
        exact ⟨by omega, fun hc => by have := hLt g hc; omega⟩
    have g3 : ∀ g ∈ blk S3, w.heap.size + 2 ≤ g ∧ g ∉ hblks B os B' ∧ g ∉ blk S2 := fun g hg => by
      rcases hgS3 g hg with hh | hh
      · have := mem_blk_some hh
        refine ⟨by first | omega | (simp at this; omega), fun hc => by have h1 := hL g hc; have h2 := hLt g hc; first | omega | (simp at h1 this; omega), fun hc => ?_⟩
        have h3 := hS2l g hc
        rcases hgS2 g hc with h4 | h4
        · have h5 := mem_blk_some h4
          first | omega | (simp at this h5; omega)
        · first | omega | (simp at this h4; omega)
      · try simp at hh
        exact ⟨by omega, fun hc => by have := hLt g hc; omega, fun hc => by have := hS2l g hc; omega⟩
    go_wp2_with fail
    refine bodyPost_ret (v := .agg #[.slice B p.store.cells.length d, .slice B' p.store.roots.length d', .slice S2 p.x.length d2, .slice S3 p.y.length d3]) (by simp [results, Try.results120, go_sem, n0, n1, n2, n3]) rfl ⟨_, rfl, ⟨B, d, B', d', os, S2, d2, S3, d3, rfl, HM.out, ?_, ?_, ?_, ?_, ?_, by omega, by omega⟩, by have hBw : Below w.heap.size w wc := Below.trans (by repeat (first | ((with_reducible refine Below.setc ?_ ?_ _); focus (first | omega | (simp; done) | (simp; omega))) | ((with_reducible refine Below.allocc ?_ ?_ _); focus (first | omega | (simp; done) | (simp; omega))) | (with_reducible refine Below.drew ?_) | (with_reducible refine Below.drewn ?_) | (with_reducible assumption) | (with_reducible exact Below.refl _ _) | ((with_reducible refine Below.stepp (by with_reducible assumption) ?_ ?_); focus (first | omega | (simp; done) | (simp; omega))))) (hB3.mono (by simp; omega)); exact (((hBw.setCell (by simp) _).setCell (by simp) _).setCell (by simp) _).setCell (by simp) _⟩
    · refine HO.out.keep fun g hg => ?_
      have h1 := hL g hg
      have h2 := hLt g hg
      (repeat (first | rw [heap_drew_] | rw [heap_setCell_ne _ _ _ (by first | omega | (simp; done) | (simp; omega))] | rw [hOn3.block _ (by first | omega | (simp; done) | (simp; omega)) (fun hc => by have := mem_blk_some hc; first | omega | (simp at this; omega))] | rw [hOn2.block _ (by first | omega | (simp; done) | (simp; omega)) (fun hc => by have := mem_blk_some hc; first | omega | (simp at this; omega))] | rw [Below.heap_alloc _ _ _ (by first | omega | (simp; done) | (simp; omega))]))
    · refine hS2.keep fun g hg => ?_
      have h1 := (g2 g hg).1
      have h2 := hS2l g hg
      (repeat (first | rw [heap_drew_] | rw [heap_setCell_ne _ _ _ (by first | omega | (simp; done) | (simp; omega))] | rw [hOn3.block _ (by first | omega | (simp; done) | (simp; omega)) (fun hc => by have := mem_blk_some hc; rcases hgS2 g hg with h3 | h3; (have := mem_blk_some h3; first | omega | (simp at *; omega)); first | omega | (simp at *; omega))] | rw [Below.heap_alloc _ _ _ (by first | omega | (simp; done) | (simp; omega))]))
    · refine hS3.keep fun g hg => ?_
      have h1 := (g3 g hg).1
      (repeat (first | rw [heap_drew_] | rw [heap_setCell_ne _ _ _ (by first | omega | (simp; done) | (simp; omega))]))
    · exact nd3_of HO.out.nodup (blk_nodup _) (blk_nodup _) (fun b hb => (g2 b hb).2) (fun b hb => (g3 b hb).2.1) (fun b hb => (g3 b hb).2.2)
    · intro g hg
      simp only [List.mem_append] at hg
      rcases hg with (hg | hg) | hg
      · have := hL g hg
        first | omega | (simp at this; omega)
      · have := (g2 g hg).1
        omega
      · have := (g3 g hg).1
        omega
end Go.Proofs.Ytdkhpmlimnfgpaa
