/- Copies of painted heaps, of snapshots and of aged heaps. -/
import Derived.Test.YtopbngfghpgbnaaChecked
import Derived.Deep.RegionHeld3
import Derived.Deep.DeepCutAuto
import Derived.IntWalk
import Derived.Test.YtopbngfghpgbnaaGrCopy
namespace Go.Proofs.Ytopbngfghpgbnaa
open Go.RowKit
set_option maxRecDepth 100000
set_option linter.unusedSimpArgs false
set_option linter.unusedVariables false
set_option maxHeartbeats 4000000 in
theorem l18Copy_any (v : Value) (p : PaintM) (w : World) (hv : RPt w v p) (hn : p.store.cells.length ≤ 1048576) (hr : ∀ d ∈ p.store.cells, d.refs.length ≤ 1048576) (hn2 : p.store.roots.length ≤ 1048576) (hn3 : p.colours.length ≤ 1048576) :
    Calls Try.prog 68 #[v] w fun e w' => ∃ v', e = .returned v' ∧ OPt w.heap.size w' v' p ∧ Below w.heap.size w w' := by
  obtain ⟨A, c, A', c', A2, c2, rfl, hh, hx, -⟩ := hv
  have k0 : ((w.alloc (.cells #[.slice A p.store.cells.length c, .slice A' p.store.roots.length c', .slice A2 p.colours.length c2, .bool p.active] 28)).alloc (.cells #[.slice none 0 0, .slice none 0 0, .slice none 0 0, .bool false] 28)).cell? ⟨w.heap.size, 0, none⟩ = some (.slice A p.store.cells.length c) := by simp [go_sem]
  have k1 : ((w.alloc (.cells #[.slice A p.store.cells.length c, .slice A' p.store.roots.length c', .slice A2 p.colours.length c2, .bool p.active] 28)).alloc (.cells #[.slice none 0 0, .slice none 0 0, .slice none 0 0, .bool false] 28)).cell? ⟨w.heap.size, 1, none⟩ = some (.slice A' p.store.roots.length c') := by simp [go_sem]
  have k2 : ((w.alloc (.cells #[.slice A p.store.cells.length c, .slice A' p.store.roots.length c', .slice A2 p.colours.length c2, .bool p.active] 28)).alloc (.cells #[.slice none 0 0, .slice none 0 0, .slice none 0 0, .bool false] 28)).cell? ⟨w.heap.size, 2, none⟩ = some (.slice A2 p.colours.length c2) := by simp [go_sem]
  have k3 : ((w.alloc (.cells #[.slice A p.store.cells.length c, .slice A' p.store.roots.length c', .slice A2 p.colours.length c2, .bool p.active] 28)).alloc (.cells #[.slice none 0 0, .slice none 0 0, .slice none 0 0, .bool false] 28)).cell? ⟨w.heap.size, 3, none⟩ = some (.bool p.active) := by simp [go_sem]
  have m0 : ((w.alloc (.cells #[.slice A p.store.cells.length c, .slice A' p.store.roots.length c', .slice A2 p.colours.length c2, .bool p.active] 28)).alloc (.cells #[.slice none 0 0, .slice none 0 0, .slice none 0 0, .bool false] 28)).cell? ⟨w.heap.size + 1, 0, none⟩ = some (.slice none 0 0) := by simp [go_sem]
  have m1 : ((w.alloc (.cells #[.slice A p.store.cells.length c, .slice A' p.store.roots.length c', .slice A2 p.colours.length c2, .bool p.active] 28)).alloc (.cells #[.slice none 0 0, .slice none 0 0, .slice none 0 0, .bool false] 28)).cell? ⟨w.heap.size + 1, 1, none⟩ = some (.slice none 0 0) := by simp [go_sem]
  have m2 : ((w.alloc (.cells #[.slice A p.store.cells.length c, .slice A' p.store.roots.length c', .slice A2 p.colours.length c2, .bool p.active] 28)).alloc (.cells #[.slice none 0 0, .slice none 0 0, .slice none 0 0, .bool false] 28)).cell? ⟨w.heap.size + 1, 2, none⟩ = some (.slice none 0 0) := by simp [go_sem]
  have m3 : ((w.alloc (.cells #[.slice A p.store.cells.length c, .slice A' p.store.roots.length c', .slice A2 p.colours.length c2, .bool p.active] 28)).alloc (.cells #[.slice none 0 0, .slice none 0 0, .slice none 0 0, .bool false] 28)).cell? ⟨w.heap.size + 1, 3, none⟩ = some (.bool false) := by simp [go_sem]
  have mf : ∀ o, ((w.alloc (.cells #[.slice A p.store.cells.length c, .slice A' p.store.roots.length c', .slice A2 p.colours.length c2, .bool p.active] 28)).alloc (.cells #[.slice none 0 0, .slice none 0 0, .slice none 0 0, .bool false] 28)).frozen? ⟨w.heap.size + 1, o, none⟩ = false := by intro o; simp [go_sem]
  have hS : ∀ W, Below ((w.alloc (.cells #[.slice A p.store.cells.length c, .slice A' p.store.roots.length c', .slice A2 p.colours.length c2, .bool p.active] 28)).alloc (.cells #[.slice none 0 0, .slice none 0 0, .slice none 0 0, .bool false] 28)).heap.size ((w.alloc (.cells #[.slice A p.store.cells.length c, .slice A' p.store.roots.length c', .slice A2 p.colours.length c2, .bool p.active] 28)).alloc (.cells #[.slice none 0 0, .slice none 0 0, .slice none 0 0, .bool false] 28)) W → W.cell? ⟨w.heap.size, 0, none⟩ = some (.slice A p.store.cells.length c) ∧ W.cell? ⟨w.heap.size, 1, none⟩ = some (.slice A' p.store.roots.length c') ∧ W.cell? ⟨w.heap.size, 2, none⟩ = some (.slice A2 p.colours.length c2) ∧ W.cell? ⟨w.heap.size, 3, none⟩ = some (.bool p.active) :=
    fun W hW => ⟨cell_below k0 hW, cell_below k1 hW, cell_below k2 hW, cell_below k3 hW⟩
  go_enter Try.func68, Try.ntmps68
  go_upto_region 1 with fail
  go_region_held3? (fun w' => w'.cell? ⟨w.heap.size, 0, none⟩ = some (.slice A p.store.cells.length c) ∧ w'.cell? ⟨w.heap.size, 1, none⟩ = some (.slice A' p.store.roots.length c') ∧ w'.cell? ⟨w.heap.size, 2, none⟩ = some (.slice A2 p.colours.length c2) ∧ w'.cell? ⟨w.heap.size, 3, none⟩ = some (.bool p.active))
    (first | (with_reducible exact ⟨s0, s1, s2, s3⟩) | (simp [go_sem, s0, s1, s2, s3]; done) | exact hS _ blw_)
    (first
      | (go_at_call 118; refine (l7Copy_any _ p.store _ ((hh.below blw_).rh _ _) hn hr hn2).mono ?_; rintro e wh ⟨vh, rfl, ⟨B, d, B', d', os, rfl, hm, ho, hlo⟩, hBh⟩; (have z_hBh := Below.size hBh); (try simp only [World.size_alloc, World.size_setCell, World.size_drew, World.heap_drewN] at z_hBh); have HM := Lib.hid hm; clear hm; have HL := Lib.hid hlo; clear hlo; have HO := Lib.hid ho; clear ho)
      | (refine step_appi rfl (.tmp 6) (.tmp 8) rfl [] rfl rfl (by first | exact OF.fresh (by simp) | (refine OF.below ?_ hBh; exact OF.fresh (by simp))) (hx.below blw_) (by simp; omega) ?_
         intro S2 c3 wb hS2 hOn2 hgS2
         rw [List.nil_append] at hS2
         have z2 := hOn2.size
         try simp only [World.size_alloc, World.size_setCell, World.size_drew, World.heap_drewN] at z2
         have hB2 : Below (w.heap.size + 2) ((w.alloc (.cells #[.slice A p.store.cells.length c, .slice A' p.store.roots.length c', .slice A2 p.colours.length c2, .bool p.active] 28)).alloc (.cells #[.slice none 0 0, .slice none 0 0, .slice none 0 0, .bool false] 28)) wb := Below.trans blw_ (hOn2.below (by first | omega | (simp; done) | (simp; omega)) (fun g hg => by rw [mem_blk_some hg]; first | omega | (simp; done) | (simp; omega)))
         have n0 := cell_below m0 (hB2.mono (by simp))
         have n1 := cell_below m1 (hB2.mono (by simp))
         have n2 := cell_below m2 (hB2.mono (by simp))
         have n3 := cell_below m3 (hB2.mono (by simp))
         have nf : ∀ o, wb.frozen? ⟨w.heap.size + 1, o, none⟩ = false := fun o => ((bcell (hB2.mono (by simp))).2.1 (w.heap.size + 1) o (by simp)).trans (mf o)
         have nf0 := nf 0
         have nf1 := nf 1
         have nf2 := nf 2
         have nf3 := nf 3
         have s0 := cell_below k0 (hB2.mono (by simp))
         have s1 := cell_below k1 (hB2.mono (by simp))
         have s2 := cell_below k2 (hB2.mono (by simp))
         have s3 := cell_below k3 (hB2.mono (by simp))))
  all_goals
    have hL := HL.out
    try simp only [World.size_alloc, World.size_setCell, World.size_drew, World.heap_drewN, heap_drew_] at hL
    have hLt := HO.out.lt
    have hS2l := hS2.lt
    have g2 : ∀ g ∈ blk S2, w.heap.size + 2 ≤ g ∧ g ∉ hblks B os B' := fun g hg => by
      rcases hgS2 g hg with hh | hh
      · have := mem_blk_some hh
        exact ⟨by first | omega | (simp at this; omega), fun hc => by have h1 := hL g hc; have h2 := hLt g hc; first | omega | (simp at h1 this; omega)⟩
      · try simp at hh
        exact ⟨by omega, fun hc => by have := hLt g hc; omega⟩
    go_wp2_with fail
    refine bodyPost_ret (v := .agg #[.slice B p.store.cells.length d, .slice B' p.store.roots.length d', .slice S2 p.colours.length c3, .bool p.active]) (by simp [results, Try.results68, go_sem, n0, n1, n2, n3]) rfl ⟨_, rfl, ⟨B, d, B', d', os, S2, c3, rfl, HM.out, ?_, ?_, ?_, ?_, by omega⟩, by have hBw : Below w.heap.size w wb := Below.trans blw_ (hB2.mono (by omega)); exact (((hBw.setCell (by simp) _).setCell (by simp) _).setCell (by simp) _).setCell (by simp) _⟩
    · refine HO.out.keep fun g hg => ?_
      have h1 := hL g hg
      have h2 := hLt g hg
      (repeat (first | rw [heap_drew_] | rw [heap_setCell_ne _ _ _ (by first | omega | (simp; done) | (simp; omega))] | rw [hOn2.block _ (by first | omega | (simp; done) | (simp; omega)) (fun hc => by have := mem_blk_some hc; first | omega | (simp at this; omega))] | rw [Below.heap_alloc _ _ _ (by first | omega | (simp; done) | (simp; omega))]))
    · refine hS2.keep fun g hg => ?_
      have h1 := (g2 g hg).1
      (repeat (first | rw [heap_setCell_ne _ _ _ (by first | omega | (simp; done) | (simp; omega))]))
    · rw [List.nodup_append]
      exact ⟨HO.out.nodup, blk_nodup _, fun a ha b hb e => (g2 b hb).2 (e ▸ ha)⟩
    · intro g hg
      rcases List.mem_append.1 hg with hg | hg
      · have := hL g hg
        first | omega | (simp at this; omega)
      · have := (g2 g hg).1
        omega
end Go.Proofs.Ytopbngfghpgbnaa
