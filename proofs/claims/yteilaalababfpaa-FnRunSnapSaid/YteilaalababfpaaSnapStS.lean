/- The reference's SnapStart returns snapStartM, in new memory. -/
import Derived.Test.YteilaalababfpaaChecked
import Derived.Deep.RegionHeld3
import Derived.Deep.DeepCutAuto
import Derived.Test.YteilaalababfpaaGrSnap
namespace Go.Proofs.Yteilaalababfpaa
open Go.RowKit
set_option maxRecDepth 100000
set_option linter.all false
set_option maxHeartbeats 40000000 in
theorem specSnapStart_any (v : Value) (h : HeapM) (w : World) (hv : RH w v h) :
    Calls Try.prog 22 #[v] w fun e w' => ∃ v', e = .returned v' ∧ OTw w.heap.size w' v' (snapStartM h) ∧ Below w.heap.size w w' := by
  have hv0 := hv
  obtain ⟨A, c, A', c', rfl, hc, hr, hl1, hl2⟩ := hv
  cases hva : validM h
  · have HV := Lib.hid hva
    go_enter Try.func22, Try.ntmps22
    go_wp2_with (go_at_call 23; refine (specHeapValid_any _ h _ (hv0.below blw_)).mono ?_; rw [HV.out]; rintro e w1 ⟨rfl, hB1⟩; obtain ⟨hbc, hbf, hbz⟩ := bcell hB1; have z0w1 : w.heap.size < w1.heap.size := (by (try simp at hbz); omega); have z1w1 : w.heap.size + 1 < w1.heap.size := (by (try simp at hbz); omega))
    refine bodyPost_ret (v := .agg #[.slice none 0 0, .slice none 0 0, .slice none 0 0, .slice none 0 0]) (by simp [results, Try.results22, go_sem, hbc]) rfl ⟨_, rfl, ?_, blw_⟩
    unfold snapStartM
    rw [HV.out]
    exact OTw.zero
  · obtain ⟨v1, v2, v3⟩ := valid_small hva
    have hmk := mk_bools h.cells.length (by omega)
    have HV := Lib.hid hva
    have v2' : h.roots.length ≤ 4 := by omega
    have HVL := Lib.hid (validM_lt hva).2
    have HV3 := Lib.hid v3
    clear hva v2 v3
    go_enter Try.func22, Try.ntmps22
    go_wp2_with (go_at_call 23; refine (specHeapValid_any _ h _ (hv0.below blw_)).mono ?_; rw [HV.out]; rintro e w1 ⟨rfl, hB1⟩; obtain ⟨hbc, hbf, hbz⟩ := bcell hB1; have z0w1 : w.heap.size < w1.heap.size := (by (try simp at hbz); omega); have z1w1 : w.heap.size + 1 < w1.heap.size := (by (try simp at hbz); omega); have k0 : w1.cell? ⟨w.heap.size, 0, none⟩ = some (.slice A h.cells.length c) := (by rw [hbc _ _ sz_]; simp [go_sem]); have k1 : w1.cell? ⟨w.heap.size, 1, none⟩ = some (.slice A' h.roots.length c') := (by rw [hbc _ _ sz_]; simp [go_sem]); have HB1 : Below w.heap.size w w1 := blw_; have MC : Hid (∀ o, o < 4 → w1.cell? ⟨w.heap.size + 1, o, none⟩ = some (.slice none 0 0)) := (fun o ho => by rw [hbc _ _ sz_]; rcases (by omega : o = 0 ∨ o = 1 ∨ o = 2 ∨ o = 3) with rfl | rfl | rfl | rfl <;> simp [go_sem]); have MF : Hid (∀ o, w1.frozen? ⟨w.heap.size + 1, o, none⟩ = false) := (fun o => by rw [hbf _ _ sz_]; simp [go_sem]))
    have hS : ∀ W, Below w1.heap.size w1 W → W.cell? ⟨w.heap.size, 0, none⟩ = some (.slice A h.cells.length c) ∧ W.cell? ⟨w.heap.size, 1, none⟩ = some (.slice A' h.roots.length c') := fun W hW => ⟨cell_below k0 hW, cell_below k1 hW⟩
    have hh : RHs w A A' h := ⟨hc, hr, hl1, hl2⟩
    have hA1 : ∀ W, Below (w1.alloc (.cells #[.slice none 0 0, .slice none 0 0, .slice none 0 0, .slice none 0 0] 29)).drew.heap.size (w1.alloc (.cells #[.slice none 0 0, .slice none 0 0, .slice none 0 0, .slice none 0 0] 29)).drew W → W.cell? ⟨w1.heap.size, 0, none⟩ = some (.slice none 0 0) ∧ W.cell? ⟨w1.heap.size, 1, none⟩ = some (.slice none 0 0) ∧ W.cell? ⟨w1.heap.size, 2, none⟩ = some (.slice none 0 0) ∧ W.cell? ⟨w1.heap.size, 3, none⟩ = some (.slice none 0 0) ∧ (∀ o, W.frozen? ⟨w1.heap.size, o, none⟩ = false) ∧ w1.heap.size < W.heap.size := fun W hW => by
      have hs := hW.size
      simp only [World.size_alloc, World.size_drew] at hs
      exact ⟨cell_below (show (w1.alloc (.cells #[.slice none 0 0, .slice none 0 0, .slice none 0 0, .slice none 0 0] 29)).drew.cell? _ = _ from by simp [go_sem]) hW, cell_below (show (w1.alloc (.cells #[.slice none 0 0, .slice none 0 0, .slice none 0 0, .slice none 0 0] 29)).drew.cell? _ = _ from by simp [go_sem]) hW, cell_below (show (w1.alloc (.cells #[.slice none 0 0, .slice none 0 0, .slice none 0 0, .slice none 0 0] 29)).drew.cell? _ = _ from by simp [go_sem]) hW, cell_below (show (w1.alloc (.cells #[.slice none 0 0, .slice none 0 0, .slice none 0 0, .slice none 0 0] 29)).drew.cell? _ = _ from by simp [go_sem]) hW, fun o => ((bcell hW).2.1 _ _ (by (first | omega | (simp; done) | (simp; omega)))).trans (by simp [go_sem]), by (first | omega | (simp; done) | (simp; omega))⟩
    have hA2 : ∀ W, Below ((w1.alloc (.cells #[.slice none 0 0, .slice none 0 0, .slice none 0 0, .slice none 0 0] 29)).alloc (.cells (rowF fb (List.replicate h.cells.length false)) 4)).drew.heap.size ((w1.alloc (.cells #[.slice none 0 0, .slice none 0 0, .slice none 0 0, .slice none 0 0] 29)).alloc (.cells (rowF fb (List.replicate h.cells.length false)) 4)).drew W → W.cell? ⟨w1.heap.size, 0, none⟩ = some (.slice none 0 0) ∧ W.cell? ⟨w1.heap.size, 1, none⟩ = some (.slice none 0 0) ∧ W.cell? ⟨w1.heap.size, 2, none⟩ = some (.slice none 0 0) ∧ W.cell? ⟨w1.heap.size, 3, none⟩ = some (.slice none 0 0) ∧ (∀ o, W.frozen? ⟨w1.heap.size, o, none⟩ = false) ∧ w1.heap.size < W.heap.size := fun W hW => by
      have hs := hW.size
      simp only [World.size_alloc, World.size_drew] at hs
      exact ⟨cell_below (show ((w1.alloc (.cells #[.slice none 0 0, .slice none 0 0, .slice none 0 0, .slice none 0 0] 29)).alloc (.cells (rowF fb (List.replicate h.cells.length false)) 4)).drew.cell? _ = _ from by simp [go_sem]) hW, cell_below (show ((w1.alloc (.cells #[.slice none 0 0, .slice none 0 0, .slice none 0 0, .slice none 0 0] 29)).alloc (.cells (rowF fb (List.replicate h.cells.length false)) 4)).drew.cell? _ = _ from by simp [go_sem]) hW, cell_below (show ((w1.alloc (.cells #[.slice none 0 0, .slice none 0 0, .slice none 0 0, .slice none 0 0] 29)).alloc (.cells (rowF fb (List.replicate h.cells.length false)) 4)).drew.cell? _ = _ from by simp [go_sem]) hW, cell_below (show ((w1.alloc (.cells #[.slice none 0 0, .slice none 0 0, .slice none 0 0, .slice none 0 0] 29)).alloc (.cells (rowF fb (List.replicate h.cells.length false)) 4)).drew.cell? _ = _ from by simp [go_sem]) hW, fun o => ((bcell hW).2.1 _ _ (by (first | omega | (simp; done) | (simp; omega)))).trans (by simp [go_sem]), by (first | omega | (simp; done) | (simp; omega))⟩
    have hA3 : ∀ W, Below ((w1.alloc (.cells (rowF fb (List.replicate h.cells.length false)) 4)).alloc (.cells #[.slice none 0 0, .slice none 0 0, .slice none 0 0, .slice none 0 0] 29)).drew.heap.size ((w1.alloc (.cells (rowF fb (List.replicate h.cells.length false)) 4)).alloc (.cells #[.slice none 0 0, .slice none 0 0, .slice none 0 0, .slice none 0 0] 29)).drew W → W.cell? ⟨w1.heap.size + 1, 0, none⟩ = some (.slice none 0 0) ∧ W.cell? ⟨w1.heap.size + 1, 1, none⟩ = some (.slice none 0 0) ∧ W.cell? ⟨w1.heap.size + 1, 2, none⟩ = some (.slice none 0 0) ∧ W.cell? ⟨w1.heap.size + 1, 3, none⟩ = some (.slice none 0 0) ∧ (∀ o, W.frozen? ⟨w1.heap.size + 1, o, none⟩ = false) ∧ w1.heap.size + 1 < W.heap.size := fun W hW => by
      have hs := hW.size
      simp only [World.size_alloc, World.size_drew] at hs
      exact ⟨cell_below (show ((w1.alloc (.cells (rowF fb (List.replicate h.cells.length false)) 4)).alloc (.cells #[.slice none 0 0, .slice none 0 0, .slice none 0 0, .slice none 0 0] 29)).drew.cell? _ = _ from by simp [go_sem]) hW, cell_below (show ((w1.alloc (.cells (rowF fb (List.replicate h.cells.length false)) 4)).alloc (.cells #[.slice none 0 0, .slice none 0 0, .slice none 0 0, .slice none 0 0] 29)).drew.cell? _ = _ from by simp [go_sem]) hW, cell_below (show ((w1.alloc (.cells (rowF fb (List.replicate h.cells.length false)) 4)).alloc (.cells #[.slice none 0 0, .slice none 0 0, .slice none 0 0, .slice none 0 0] 29)).drew.cell? _ = _ from by simp [go_sem]) hW, cell_below (show ((w1.alloc (.cells (rowF fb (List.replicate h.cells.length false)) 4)).alloc (.cells #[.slice none 0 0, .slice none 0 0, .slice none 0 0, .slice none 0 0] 29)).drew.cell? _ = _ from by simp [go_sem]) hW, fun o => ((bcell hW).2.1 _ _ (by (first | omega | (simp; done) | (simp; omega)))).trans (by simp [go_sem]), by (first | omega | (simp; done) | (simp; omega))⟩
    have hA4 : ∀ W, Below (((w1.alloc (.cells #[.slice none 0 0, .slice none 0 0, .slice none 0 0, .slice none 0 0] 29)).alloc (.cells (rowF fb (List.replicate h.cells.length false)) 4)).alloc (.cells (rowF fb (List.replicate h.cells.length false)) 4)).drew.heap.size (((w1.alloc (.cells #[.slice none 0 0, .slice none 0 0, .slice none 0 0, .slice none 0 0] 29)).alloc (.cells (rowF fb (List.replicate h.cells.length false)) 4)).alloc (.cells (rowF fb (List.replicate h.cells.length false)) 4)).drew W → W.cell? ⟨w1.heap.size, 0, none⟩ = some (.slice none 0 0) ∧ W.cell? ⟨w1.heap.size, 1, none⟩ = some (.slice none 0 0) ∧ W.cell? ⟨w1.heap.size, 2, none⟩ = some (.slice none 0 0) ∧ W.cell? ⟨w1.heap.size, 3, none⟩ = some (.slice none 0 0) ∧ (∀ o, W.frozen? ⟨w1.heap.size, o, none⟩ = false) ∧ w1.heap.size < W.heap.size := fun W hW => by
      have hs := hW.size
      simp only [World.size_alloc, World.size_drew] at hs
      exact ⟨cell_below (show (((w1.alloc (.cells #[.slice none 0 0, .slice none 0 0, .slice none 0 0, .slice none 0 0] 29)).alloc (.cells (rowF fb (List.replicate h.cells.length false)) 4)).alloc (.cells (rowF fb (List.replicate h.cells.length false)) 4)).drew.cell? _ = _ from by simp [go_sem]) hW, cell_below (show (((w1.alloc (.cells #[.slice none 0 0, .slice none 0 0, .slice none 0 0, .slice none 0 0] 29)).alloc (.cells (rowF fb (List.replicate h.cells.length false)) 4)).alloc (.cells (rowF fb (List.replicate h.cells.length false)) 4)).drew.cell? _ = _ from by simp [go_sem]) hW, cell_below (show (((w1.alloc (.cells #[.slice none 0 0, .slice none 0 0, .slice none 0 0, .slice none 0 0] 29)).alloc (.cells (rowF fb (List.replicate h.cells.length false)) 4)).alloc (.cells (rowF fb (List.replicate h.cells.length false)) 4)).drew.cell? _ = _ from by simp [go_sem]) hW, cell_below (show (((w1.alloc (.cells #[.slice none 0 0, .slice none 0 0, .slice none 0 0, .slice none 0 0] 29)).alloc (.cells (rowF fb (List.replicate h.cells.length false)) 4)).alloc (.cells (rowF fb (List.replicate h.cells.length false)) 4)).drew.cell? _ = _ from by simp [go_sem]) hW, fun o => ((bcell hW).2.1 _ _ (by (first | omega | (simp; done) | (simp; omega)))).trans (by simp [go_sem]), by (first | omega | (simp; done) | (simp; omega))⟩
    have hA5 : ∀ W, Below (((w1.alloc (.cells (rowF fb (List.replicate h.cells.length false)) 4)).alloc (.cells #[.slice none 0 0, .slice none 0 0, .slice none 0 0, .slice none 0 0] 29)).alloc (.cells (rowF fb (List.replicate h.cells.length false)) 4)).drew.heap.size (((w1.alloc (.cells (rowF fb (List.replicate h.cells.length false)) 4)).alloc (.cells #[.slice none 0 0, .slice none 0 0, .slice none 0 0, .slice none 0 0] 29)).alloc (.cells (rowF fb (List.replicate h.cells.length false)) 4)).drew W → W.cell? ⟨w1.heap.size + 1, 0, none⟩ = some (.slice none 0 0) ∧ W.cell? ⟨w1.heap.size + 1, 1, none⟩ = some (.slice none 0 0) ∧ W.cell? ⟨w1.heap.size + 1, 2, none⟩ = some (.slice none 0 0) ∧ W.cell? ⟨w1.heap.size + 1, 3, none⟩ = some (.slice none 0 0) ∧ (∀ o, W.frozen? ⟨w1.heap.size + 1, o, none⟩ = false) ∧ w1.heap.size + 1 < W.heap.size := fun W hW => by
      have hs := hW.size
      simp only [World.size_alloc, World.size_drew] at hs
      exact ⟨cell_below (show (((w1.alloc (.cells (rowF fb (List.replicate h.cells.length false)) 4)).alloc (.cells #[.slice none 0 0, .slice none 0 0, .slice none 0 0, .slice none 0 0] 29)).alloc (.cells (rowF fb (List.replicate h.cells.length false)) 4)).drew.cell? _ = _ from by simp [go_sem]) hW, cell_below (show (((w1.alloc (.cells (rowF fb (List.replicate h.cells.length false)) 4)).alloc (.cells #[.slice none 0 0, .slice none 0 0, .slice none 0 0, .slice none 0 0] 29)).alloc (.cells (rowF fb (List.replicate h.cells.length false)) 4)).drew.cell? _ = _ from by simp [go_sem]) hW, cell_below (show (((w1.alloc (.cells (rowF fb (List.replicate h.cells.length false)) 4)).alloc (.cells #[.slice none 0 0, .slice none 0 0, .slice none 0 0, .slice none 0 0] 29)).alloc (.cells (rowF fb (List.replicate h.cells.length false)) 4)).drew.cell? _ = _ from by simp [go_sem]) hW, cell_below (show (((w1.alloc (.cells (rowF fb (List.replicate h.cells.length false)) 4)).alloc (.cells #[.slice none 0 0, .slice none 0 0, .slice none 0 0, .slice none 0 0] 29)).alloc (.cells (rowF fb (List.replicate h.cells.length false)) 4)).drew.cell? _ = _ from by simp [go_sem]) hW, fun o => ((bcell hW).2.1 _ _ (by (first | omega | (simp; done) | (simp; omega)))).trans (by simp [go_sem]), by (first | omega | (simp; done) | (simp; omega))⟩
    have hA6 : ∀ W, Below (((w1.alloc (.cells (rowF fb (List.replicate h.cells.length false)) 4)).alloc (.cells (rowF fb (List.replicate h.cells.length false)) 4)).alloc (.cells #[.slice none 0 0, .slice none 0 0, .slice none 0 0, .slice none 0 0] 29)).drew.heap.size (((w1.alloc (.cells (rowF fb (List.replicate h.cells.length false)) 4)).alloc (.cells (rowF fb (List.replicate h.cells.length false)) 4)).alloc (.cells #[.slice none 0 0, .slice none 0 0, .slice none 0 0, .slice none 0 0] 29)).drew W → W.cell? ⟨w1.heap.size + 1 + 1, 0, none⟩ = some (.slice none 0 0) ∧ W.cell? ⟨w1.heap.size + 1 + 1, 1, none⟩ = some (.slice none 0 0) ∧ W.cell? ⟨w1.heap.size + 1 + 1, 2, none⟩ = some (.slice none 0 0) ∧ W.cell? ⟨w1.heap.size + 1 + 1, 3, none⟩ = some (.slice none 0 0) ∧ (∀ o, W.frozen? ⟨w1.heap.size + 1 + 1, o, none⟩ = false) ∧ w1.heap.size + 1 + 1 < W.heap.size := fun W hW => by
      have hs := hW.size
      simp only [World.size_alloc, World.size_drew] at hs
      exact ⟨cell_below (show (((w1.alloc (.cells (rowF fb (List.replicate h.cells.length false)) 4)).alloc (.cells (rowF fb (List.replicate h.cells.length false)) 4)).alloc (.cells #[.slice none 0 0, .slice none 0 0, .slice none 0 0, .slice none 0 0] 29)).drew.cell? _ = _ from by simp [go_sem]) hW, cell_below (show (((w1.alloc (.cells (rowF fb (List.replicate h.cells.length false)) 4)).alloc (.cells (rowF fb (List.replicate h.cells.length false)) 4)).alloc (.cells #[.slice none 0 0, .slice none 0 0, .slice none 0 0, .slice none 0 0] 29)).drew.cell? _ = _ from by simp [go_sem]) hW, cell_below (show (((w1.alloc (.cells (rowF fb (List.replicate h.cells.length false)) 4)).alloc (.cells (rowF fb (List.replicate h.cells.length false)) 4)).alloc (.cells #[.slice none 0 0, .slice none 0 0, .slice none 0 0, .slice none 0 0] 29)).drew.cell? _ = _ from by simp [go_sem]) hW, cell_below (show (((w1.alloc (.cells (rowF fb (List.replicate h.cells.length false)) 4)).alloc (.cells (rowF fb (List.replicate h.cells.length false)) 4)).alloc (.cells #[.slice none 0 0, .slice none 0 0, .slice none 0 0, .slice none 0 0] 29)).drew.cell? _ = _ from by simp [go_sem]) hW, fun o => ((bcell hW).2.1 _ _ (by (first | omega | (simp; done) | (simp; omega)))).trans (by simp [go_sem]), by (first | omega | (simp; done) | (simp; omega))⟩
    go_cut [3, 10, 14, 18] (fun s3 s10 s14 s18 wx => ∃ b3 B d B' d' os g2 g3 l1 l2, s3 = .pointer (some ⟨b3, 0, none⟩) ∧ s10 = .agg #[.slice B h.cells.length d, .slice B' h.roots.length d'] ∧ s14 = .slice (some ⟨g2, 0, none⟩) h.cells.length h.cells.length ∧ s18 = .slice (some ⟨g3, 0, none⟩) h.cells.length h.cells.length ∧
      (wx.cell? ⟨b3, 0, none⟩ = some (.slice B h.cells.length d) ∧ wx.cell? ⟨b3, 1, none⟩ = some (.slice B' h.roots.length d') ∧ wx.cell? ⟨b3, 2, none⟩ = some (.slice (some ⟨g2, 0, none⟩) h.cells.length h.cells.length) ∧ wx.cell? ⟨b3, 3, none⟩ = some (.slice (some ⟨g3, 0, none⟩) h.cells.length h.cells.length)) ∧ (∀ o, wx.frozen? ⟨b3, o, none⟩ = false) ∧
      wx.heap[g2]? = some (.cells (rowF fb (List.replicate h.cells.length false)) 4 (0, 0)) ∧ wx.heap[g3]? = some (.cells (rowF fb (List.replicate h.cells.length false)) 4 (0, 0)) ∧ OHs wx B d B' d' os h.roots ∧ os.map (·.c) = h.cells ∧ (∀ b ∈ hblks B os B', l1 ≤ b ∧ b < l2) ∧
      (b3 ≠ g2 ∧ b3 ≠ g3 ∧ g2 ≠ g3 ∧ (b3 < l1 ∨ l2 ≤ b3) ∧ (g2 < l1 ∨ l2 ≤ g2) ∧ (g3 < l1 ∨ l2 ≤ g3) ∧ w1.heap.size ≤ b3 ∧ w1.heap.size ≤ g2 ∧ w1.heap.size ≤ g3 ∧ w1.heap.size ≤ l1) ∧ Below w1.heap.size w1 wx)
    case first =>
      go_region_held3 (fun w' => w'.cell? ⟨w.heap.size, 0, none⟩ = some (.slice A h.cells.length c) ∧ w'.cell? ⟨w.heap.size, 1, none⟩ = some (.slice A' h.roots.length c'))
        (first | exact hS _ blw_)
        (first
          | (go_at_call 76; (with_reducible refine (l7Copy_any _ h _ (RHs.rh (hh.below blw_) _ _) (by omega) (fun d hd => Nat.le_trans (HV3.out d hd) (by omega)) (by omega)).mono ?_); rintro e w2 ⟨v2, rfl, ⟨B, d, B', d', os, rfl, hm, ho, hlo⟩, hB2⟩; (have z_hB2 := Below.size hB2); (try simp only [World.size_alloc, World.size_setCell, World.size_drew, World.heap_drewN] at z_hB2); have hlt := ho.lt; have hHB : Below w1.heap.size w1 w2 := blw_
             (first
               | (have e1 : Below (w1.alloc (.cells #[.slice none 0 0, .slice none 0 0, .slice none 0 0, .slice none 0 0] 29)).drew.heap.size (w1.alloc (.cells #[.slice none 0 0, .slice none 0 0, .slice none 0 0, .slice none 0 0] 29)).drew w2 := hB2; obtain ⟨x0, x1, x2, x3, ff, zz⟩ := hA1 w2 e1; have f0 := ff 0; have f1 := ff 1; have f2 := ff 2; have f3 := ff 3)
               | (have e1 : Below ((w1.alloc (.cells #[.slice none 0 0, .slice none 0 0, .slice none 0 0, .slice none 0 0] 29)).alloc (.cells (rowF fb (List.replicate h.cells.length false)) 4)).drew.heap.size ((w1.alloc (.cells #[.slice none 0 0, .slice none 0 0, .slice none 0 0, .slice none 0 0] 29)).alloc (.cells (rowF fb (List.replicate h.cells.length false)) 4)).drew w2 := hB2; obtain ⟨x0, x1, x2, x3, ff, zz⟩ := hA2 w2 e1; have f0 := ff 0; have f1 := ff 1; have f2 := ff 2; have f3 := ff 3)
               | (have e1 : Below ((w1.alloc (.cells (rowF fb (List.replicate h.cells.length false)) 4)).alloc (.cells #[.slice none 0 0, .slice none 0 0, .slice none 0 0, .slice none 0 0] 29)).drew.heap.size ((w1.alloc (.cells (rowF fb (List.replicate h.cells.length false)) 4)).alloc (.cells #[.slice none 0 0, .slice none 0 0, .slice none 0 0, .slice none 0 0] 29)).drew w2 := hB2; obtain ⟨x0, x1, x2, x3, ff, zz⟩ := hA3 w2 e1; have f0 := ff 0; have f1 := ff 1; have f2 := ff 2; have f3 := ff 3)
               | (have e1 : Below (((w1.alloc (.cells #[.slice none 0 0, .slice none 0 0, .slice none 0 0, .slice none 0 0] 29)).alloc (.cells (rowF fb (List.replicate h.cells.length false)) 4)).alloc (.cells (rowF fb (List.replicate h.cells.length false)) 4)).drew.heap.size (((w1.alloc (.cells #[.slice none 0 0, .slice none 0 0, .slice none 0 0, .slice none 0 0] 29)).alloc (.cells (rowF fb (List.replicate h.cells.length false)) 4)).alloc (.cells (rowF fb (List.replicate h.cells.length false)) 4)).drew w2 := hB2; obtain ⟨x0, x1, x2, x3, ff, zz⟩ := hA4 w2 e1; have f0 := ff 0; have f1 := ff 1; have f2 := ff 2; have f3 := ff 3)
               | (have e1 : Below (((w1.alloc (.cells (rowF fb (List.replicate h.cells.length false)) 4)).alloc (.cells #[.slice none 0 0, .slice none 0 0, .slice none 0 0, .slice none 0 0] 29)).alloc (.cells (rowF fb (List.replicate h.cells.length false)) 4)).drew.heap.size (((w1.alloc (.cells (rowF fb (List.replicate h.cells.length false)) 4)).alloc (.cells #[.slice none 0 0, .slice none 0 0, .slice none 0 0, .slice none 0 0] 29)).alloc (.cells (rowF fb (List.replicate h.cells.length false)) 4)).drew w2 := hB2; obtain ⟨x0, x1, x2, x3, ff, zz⟩ := hA5 w2 e1; have f0 := ff 0; have f1 := ff 1; have f2 := ff 2; have f3 := ff 3)
               | (have e1 : Below (((w1.alloc (.cells (rowF fb (List.replicate h.cells.length false)) 4)).alloc (.cells (rowF fb (List.replicate h.cells.length false)) 4)).alloc (.cells #[.slice none 0 0, .slice none 0 0, .slice none 0 0, .slice none 0 0] 29)).drew.heap.size (((w1.alloc (.cells (rowF fb (List.replicate h.cells.length false)) 4)).alloc (.cells (rowF fb (List.replicate h.cells.length false)) 4)).alloc (.cells #[.slice none 0 0, .slice none 0 0, .slice none 0 0, .slice none 0 0] 29)).drew w2 := hB2; obtain ⟨x0, x1, x2, x3, ff, zz⟩ := hA6 w2 e1; have f0 := ff 0; have f1 := ff 1; have f2 := ff 2; have f3 := ff 3)
               | skip)))
      all_goals
        try simp only [World.size_alloc, World.size_setCell, World.size_drew, World.heap_drewN, heap_drew_] at hlo
        clear hbc hbf hS k0 k1 MC MF
        go_wp2_with fail
        go_meet
        refine ⟨_, B, d, B', d', os, _, _, _, _, rfl, rfl, rfl, rfl, ⟨by first | (simp [go_sem, x0, x1, x2, x3, zz]; done) | (simp [go_sem]; done), by first | (simp [go_sem, x0, x1, x2, x3, zz]; done) | (simp [go_sem]; done), by first | (simp [go_sem, x0, x1, x2, x3, zz]; done) | (simp [go_sem]; done), by first | (simp [go_sem, x0, x1, x2, x3, zz]; done) | (simp [go_sem]; done)⟩, fun o => by first | (simp [go_sem, ff, zz]; done) | (simp [go_sem]; done), by ((repeat (first | rw [heap_drew_] | rw [heap_setCell_ne _ _ _ sz_] | rw [Below.block hB2 _ sz_] | rw [Below.heap_alloc _ _ _ sz_])); exact heap_alloc_at _ _ _ sz_), by ((repeat (first | rw [heap_drew_] | rw [heap_setCell_ne _ _ _ sz_] | rw [Below.block hB2 _ sz_] | rw [Below.heap_alloc _ _ _ sz_])); exact heap_alloc_at _ _ _ sz_), ho.keep fun b hb => (by have h1 := hlo b hb; have h2 := hlt b hb; (repeat (first | rw [heap_setCell_ne _ _ _ sz_] | rw [Below.block hB2 _ sz_] | rw [Below.heap_alloc _ _ _ sz_]))), hm, fun b hb => ⟨hlo b hb, hlt b hb⟩, by refine ⟨?_, ?_, ?_, ?_, ?_, ?_, ?_, ?_, ?_, ?_⟩ <;> (first | omega | (simp; done) | (simp; omega)), blw_⟩
    case rest =>
      obtain ⟨b3, B, d, B', d', os, g2, g3, l1, l2, rfl, rfl, rfl, rfl, ⟨c0, c1, c2, c3⟩, cf, h2, h3, ho, hm, hr2, ⟨i1, i2, i3, i4, i5, i6, i7, i8, i9, i10⟩, hB⟩ := hcut
      have hP : PTx w1.heap.size wc b3 ⟨h, List.replicate h.cells.length false, List.replicate h.cells.length false⟩ B d B' d' os (some ⟨g2, 0, none⟩) h.cells.length (some ⟨g3, 0, none⟩) h.cells.length := by
        have hx2 : OF 4 fb wc (some ⟨g2, 0, none⟩) h.cells.length (List.replicate h.cells.length false) := OF.of_blkn (by simp) h2 (by simp only [maxLen, List.length_replicate]; omega)
        have hx3 : OF 4 fb wc (some ⟨g3, 0, none⟩) h.cells.length (List.replicate h.cells.length false) := OF.of_blkn (by simp) h3 (by simp only [maxLen, List.length_replicate]; omega)
        refine ⟨c0, c1, by simpa using c2, by simpa using c3, cf, i7, World.block_lt_of_cell? wc _ c0, ?_, hm, ho, hx2, hx3, nd3_of ho.nodup (blk_nodup _) (blk_nodup _) ?_ ?_ ?_, ?_, by simp; omega, by simp; omega⟩
        · intro hc
          simp only [List.mem_append] at hc
          rcases hc with (hc | hc) | hc
          · have := hr2 _ hc; omega
          · have := mem_blk_some hc; omega
          · have := mem_blk_some hc; omega
        · intro b hb hc
          have h5 := mem_blk_some hb
          have := hr2 _ hc
          omega
        · intro b hb hc
          have h5 := mem_blk_some hb
          have := hr2 _ hc
          omega
        · intro b hb hc
          have h5 := mem_blk_some hb
          have h6 := mem_blk_some hc
          omega
        · intro b hb
          simp only [List.mem_append] at hb
          rcases hb with (hb | hb) | hb
          · have := hr2 _ hb; omega
          · have := mem_blk_some hb; omega
          · have := mem_blk_some hb; omega
      clear c0 c1 c2 c3 cf h2 h3 ho hm hr2
      have k0c := cell_below k0 hB
      have k1c := cell_below k1 hB
      have n0 := MC.out 0 (by omega)
      have n1 := MC.out 1 (by omega)
      have n2 := MC.out 2 (by omega)
      have n3 := MC.out 3 (by omega)
      clear hS hbc hbf hmk k0 k1
      have hw1 : Below w.heap.size w wc := HB1.trans (hB.mono HB1.size)
      have HP := Lib.hid hP
      have hz1 := HB1.size
      have hzc := hB.size
      have hb3 := hP.lt
      have p0 := hP.q0
      have p1 := hP.q1
      have p2 := hP.q2
      have p3 := hP.q3
      have hxs := hP.xs
      have hys := hP.ys
      have z0w : w.heap.size < w1.heap.size := by omega
      have HRO : Hid (∀ W, Below w.heap.size w W → RF fi W A' h.roots) := fun W hW => hr.below hW
      clear hP
      go_wp2
      go_loopw [4] (fun i wr => ∃ (j : Nat) (us vs : List Bool), j ≤ h.roots.length ∧ i = .int .i64 j ∧ Hid ((us, vs) = meetL (List.replicate h.cells.length false, List.replicate h.cells.length false) (h.roots.take j)) ∧ OF 4 fb wr (some ⟨g2, 0, none⟩) h.cells.length us ∧ OF 4 fb wr (some ⟨g3, 0, none⟩) h.cells.length vs ∧ Only (blk (some ⟨g2, 0, none⟩) ++ blk (some ⟨g3, 0, none⟩)) wc wr) (fun i _ => h.roots.length - (intOf i).toNat)
      case atStart => exact ⟨0, _, _, by omega, rfl, rfl, hxs, hys, Only.refl _ _⟩
      case round =>
        obtain ⟨j, us, vs, hj, rfl, HY, hU, hV, hOn⟩ := hrel
        have hul : us.length = h.cells.length := by rw [(meet_pair HY.out).1, (meetL_len _ _).1, List.length_replicate]
        have hvl : vs.length = h.cells.length := by rw [(meet_pair HY.out).2, (meetL_len _ _).2, List.length_replicate]
        have hPr := HP.out.lists hU hV (by rw [hul]; simp) (by rw [hvl]; simp) hOn
        have hB2 : Below w1.heap.size wc wr := hOn.below hzc HP.out.los4
        have hBr : Below w1.heap.size w1 wr := hB.trans hB2
        have hwr : Below w.heap.size w wr := HB1.trans (hBr.mono hz1)
        have r0 := hPr.q0
        have r1 := hPr.q1
        have r2 := hPr.q2
        have r3 := hPr.q3
        have k1r : wr.cell? ⟨w.heap.size, 1, none⟩ = some (.slice A' h.roots.length c') := (hB2.cell (p := ⟨w.heap.size, 1, none⟩) z0w).trans k1c
        have hd2 := HP.out.d2
        have HVU : Hid (vs.length = us.length) := hvl.trans hul.symm
        have HUL := Lib.hid hul
        have HPR := Lib.hid hPr
        have hRF := HRO.out wr hwr
        clear hul hvl hPr
        by_cases hlt : j < h.roots.length
        · obtain ⟨b, o, r, rfl, gr, e1, hb⟩ := hRF.at_ hlt
          have e1' : wr.cell? ⟨b, o + j, none⟩ = some (.int .i64 r) := e1
          have hrx := HVL.out r (List.mem_of_getElem? gr)
          have hrx2 : r < us.length := by rw [HUL.out]; exact hrx
          have hul2 : us.length ≤ 9223372036854775807 := by rw [HUL.out]; omega
          have HSN := Lib.hid (meetL_snoc (xy := (List.replicate h.cells.length false, List.replicate h.cells.length false)) gr)
          have j1 : (0 : Int) ≤ (j : Int) := by omega
          have j2 : (j : Int) < (h.roots.length : Int) := by omega
          clear gr e1 hRF
          go_wp2_with fail
          go_still_tail 6, (by kernel_rfl)
          change wpList _ _ _ _ _ wr.drew
          go_wp2_with fail
          (with_reducible refine (l19Meet_any _ _ (some ⟨g2, 0, none⟩) (some ⟨g3, 0, none⟩) _ _ d d' _ _ us vs r _ hU.drew hV.drew HVU.out hd2 hrx2 hul2).mono ?_)
          rintro e w5 ⟨rfl, hX5, hY5, hOn5⟩
          go_wp2
          go_roundw
          case rel => exact ⟨j + 1, _, _, by omega, by go_num, by unfold Hid; rw [HSN.out, ← HY.out], hX5, hY5, (hOn.drew).trans hOn5⟩
          case measure => simp [intOf]; omega
        · have hke : j = h.roots.length := by omega
          have hY := HY.out
          rw [hke, List.take_length] at hY
          have m0 := cell_below n0 hBr
          have m1 := cell_below n1 hBr
          have m2 := cell_below n2 hBr
          have m3 := cell_below n3 hBr
          have nf : ∀ o, wr.frozen? ⟨w.heap.size + 1, o, none⟩ = false := fun o => ((bcell hBr).2.1 _ _ (by omega)).trans (MF.out o)
          have nf0 := nf 0
          have nf1 := nf 1
          have nf2 := nf 2
          have nf3 := nf 3
          have HYY : Hid (snapStartM h = ⟨h, us, vs⟩) := by unfold Hid snapStartM; rw [HV.out, if_pos rfl, ← hY]
          clear hke hY nf hRF n0 n1 n2 n3 hB1
          go_wp2
          refine bodyPost_ret (v := .agg #[.slice B h.cells.length d, .slice B' h.roots.length d', .slice (some ⟨g2, 0, none⟩) us.length h.cells.length, .slice (some ⟨g3, 0, none⟩) vs.length h.cells.length]) (by simp [results, Try.results22, go_sem, m0, m1, m2, m3]) rfl ⟨_, rfl, ?_, (((hwr.setCell (by simp) _).setCell (by simp) _).setCell (by simp) _).setCell (by simp) _⟩
          rw [HYY.out]
          exact (((((HPR.out.opt).setlt (by simp; omega) _).setlt (by simp; omega) _).setlt (by simp; omega) _).setlt (by simp; omega) _).lo_ (by omega)
end Go.Proofs.Yteilaalababfpaa