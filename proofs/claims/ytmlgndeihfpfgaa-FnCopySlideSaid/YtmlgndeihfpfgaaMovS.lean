/- CopyHeap and SlideHeap of the reference. -/
import Derived.Test.YtmlgndeihfpfgaaChecked
import Derived.Deep.RegionHeld3
import Derived.Deep.DeepCutAuto
import Derived.Test.YtmlgndeihfpfgaaGrMov
import Derived.Test.YtmlgndeihfpfgaaMov15
import Derived.Test.YtmlgndeihfpfgaaGrSnap
import Derived.Test.YtmlgndeihfpfgaaGrHeap
namespace Go.Proofs.Ytmlgndeihfpfgaa
open Go.RowKit
set_option maxRecDepth 100000
set_option linter.unusedSimpArgs false
set_option linter.unusedVariables false
set_option maxHeartbeats 4000000 in
theorem specCopyHeap_any (v : Value) (h : HeapM) (w : World) (hv : RH w v h) :
    Calls Try.prog 32 #[v] w fun e w' => ∃ v', e = .returned v' ∧ OH w.heap.size w' v' (copyHeapM h) ∧ Below w.heap.size w w' := by
  have hv00 := hv
  obtain ⟨A, c, A', c', rfl, -, -, -, -⟩ := hv
  have HG0 : Hid (∀ W, Below (((w.alloc (.cells #[.slice A h.cells.length c, .slice A' h.roots.length c'] 29)).alloc (.cells #[.slice none 0 0, .slice none 0 0] 29))).heap.size (((w.alloc (.cells #[.slice A h.cells.length c, .slice A' h.roots.length c'] 29)).alloc (.cells #[.slice none 0 0, .slice none 0 0] 29))) W → (W.cell? ⟨w.heap.size + 1, 0, none⟩ = some (.slice none 0 0) ∧ W.cell? ⟨w.heap.size + 1, 1, none⟩ = some (.slice none 0 0) ∧ ∀ o, W.frozen? ⟨w.heap.size + 1, o, none⟩ = false)) := fun W hW => ⟨cell_below (by simp [go_sem]) hW, cell_below (by simp [go_sem]) hW, fun o => ((bcell hW).2.1 _ _ (by simp)).trans (by simp [go_sem])⟩
  have HF0 : Hid (∀ W, Only [w.heap.size + 1] (((w.alloc (.cells #[.slice A h.cells.length c, .slice A' h.roots.length c'] 29)).alloc (.cells #[.slice none 0 0, .slice none 0 0] 29))) W → (W.cell? ⟨w.heap.size, 0, none⟩ = some (.slice A h.cells.length c) ∧ W.cell? ⟨w.heap.size, 1, none⟩ = some (.slice A' h.roots.length c'))) := fun W hW => ⟨hW.cell (by simp [go_sem]) (by simp), hW.cell (by simp [go_sem]) (by simp)⟩
  have hz0 : (((w.alloc (.cells #[.slice A h.cells.length c, .slice A' h.roots.length c'] 29)).alloc (.cells #[.slice none 0 0, .slice none 0 0] 29))).heap.size = w.heap.size + 2 := by simp
  have hW0 : Below w.heap.size w (((w.alloc (.cells #[.slice A h.cells.length c, .slice A' h.roots.length c'] 29)).alloc (.cells #[.slice none 0 0, .slice none 0 0] 29))) := blw_
  have hv0 := hv00.below hW0
  clear hv00
  cases hva : validM h
  · have HV := Lib.hid hva
    have HE := Lib.hid (copyHeap_no hva)
    clear hva
    go_enter Try.func32, Try.ntmps32; go_wp2_with fail; generalize (((w.alloc (.cells #[.slice A h.cells.length c, .slice A' h.roots.length c'] 29)).alloc (.cells #[.slice none 0 0, .slice none 0 0] 29))) = W0 at *; (with_reducible refine (specHeapValid_any _ h _ (hv0.below blw_)).mono ?_); rw [HV.out]; rintro e w1 ⟨rfl, hB⟩; (have z_hB := Below.size hB); (try simp only [World.size_alloc, World.size_setCell, World.size_drew, World.heap_drewN] at z_hB); have Y : Below W0.heap.size W0 w1 := blw_; clear hB; have sY := Y.size; obtain ⟨r0, r1, rf⟩ := HG0.out w1 Y; have rf0 := rf 0; have rf1 := rf 1; obtain ⟨a0, a1⟩ := HF0.out w1 (Only.of_below Y); go_wp2_with fail
    have X : Below w.heap.size w w1 := hW0.trans (Y.mono hW0.size)
    refine bodyPost_ret (v := .agg #[.slice none 0 0, .slice none 0 0]) (by simp [results, Try.results32, go_sem, r0, r1]) rfl ⟨_, rfl, ?_, blw_⟩
    rw [HE.out]
    exact OH.zero
  have HV := Lib.hid hva
  have HE := Lib.hid (copyHeap_yes hva)
  have HOK := Lib.hid (order_ok hva)
  clear hva
  go_enter Try.func32, Try.ntmps32; go_wp2_with fail; generalize (((w.alloc (.cells #[.slice A h.cells.length c, .slice A' h.roots.length c'] 29)).alloc (.cells #[.slice none 0 0, .slice none 0 0] 29))) = W0 at *; (with_reducible refine (specHeapValid_any _ h _ (hv0.below blw_)).mono ?_); rw [HV.out]; rintro e w1 ⟨rfl, hB⟩; (have z_hB := Below.size hB); (try simp only [World.size_alloc, World.size_setCell, World.size_drew, World.heap_drewN] at z_hB); have Y : Below W0.heap.size W0 w1 := blw_; clear hB; have sY := Y.size; obtain ⟨r0, r1, rf⟩ := HG0.out w1 Y; have rf0 := rf 0; have rf1 := rf 1; obtain ⟨a0, a1⟩ := HF0.out w1 (Only.of_below Y); go_wp2_with fail
  go_region_held3 (fun W => (W.cell? ⟨w.heap.size, 0, none⟩ = some (.slice A h.cells.length c) ∧ W.cell? ⟨w.heap.size, 1, none⟩ = some (.slice A' h.roots.length c'))) (first | with_reducible exact HF0.out _ (by repeat (first | (with_reducible refine Only.setCell ?_ (.inl (by simp)) _) | (with_reducible refine Only.drew ?_) | (with_reducible refine Only.alloc ?_ _) | (with_reducible assumption) | (with_reducible exact Only.refl _ _) | (with_reducible refine Only.trans ?_ (Only.of_below (by with_reducible assumption))))))
    (first
      | (go_at_call 71; (with_reducible refine (l9Order_any _ h _ (hv0.below blw_) HV.out).mono ?_); rintro e w3 ⟨S1, c1, rfl, hO1, hlo1, hB1⟩; (have z_hB1 := Below.size hB1); (try simp only [World.size_alloc, World.size_setCell, World.size_drew, World.heap_drewN] at z_hB1))
      | (go_at_call 70; (with_reducible refine (l15Move_any _ h S1 (orderM h) c1 _ (hv0.below blw_) HV.out (hO1.below blw_).rf HOK.out).mono ?_); rintro e w2 ⟨v2, rfl, ⟨B, d, B', d', os, rfl, o4⟩, hB2⟩; (have z_hB2 := Below.size hB2); (try simp only [World.size_alloc, World.size_setCell, World.size_drew, World.heap_drewN] at z_hB2); have Y2 : Below W0.heap.size W0 w2 := blw_; clear hB2; obtain ⟨r0, r1, rf⟩ := HG0.out w2 Y2; have rf0 := rf 0; have rf1 := rf 1))
  all_goals
    go_wp2_with fail
    have X2 : Below w.heap.size w w2 := hW0.trans (Y2.mono hW0.size)
    refine bodyPost_ret (v := .agg #[.slice B (gathM h (orderM h)).cells.length d, .slice B' (gathM h (orderM h)).roots.length d']) (by simp [results, Try.results32, go_sem, r0, r1]) rfl ⟨_, rfl, ?_, blw_⟩
    rw [HE.out]
    exact OH.lo_ (lo := w.heap.size + 2) (OH.setlt (OH.setlt (lo := w.heap.size + 2) ⟨B, d, B', d', os, rfl, o4.1, o4.2.1, fun b hb => by have h7 := o4.2.2 b hb; (try simp only [World.size_alloc, World.size_setCell, World.size_drew, World.heap_drewN] at h7); omega⟩ (by simp) _) (by simp) _) (by omega)
end Go.Proofs.Ytmlgndeihfpfgaa
