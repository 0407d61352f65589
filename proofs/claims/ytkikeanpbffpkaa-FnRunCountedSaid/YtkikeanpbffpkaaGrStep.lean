/- Texts of one family, one behind the other: CanS. -/
import Derived.Test.YtkikeanpbffpkaaChecked
import Derived.Deep.RegionHeld3
import Derived.Deep.DeepCutAuto
import Derived.Test.YtkikeanpbffpkaaGrCmd
import Derived.Test.YtkikeanpbffpkaaStepH
import Derived.Test.YtkikeanpbffpkaaPlace
/- canStep of the program is canF. -/
namespace Go.Proofs.Ytkikeanpbffpkaa
open Go.RowKit
set_option maxRecDepth 100000
set_option linter.unusedSimpArgs false
set_option linter.unusedVariables false
theorem canF_no {h : HeapM} {o : CmdM} (hp : possO h o = false) : canF h o = false := by unfold canF; rw [hp]; rfl
theorem canF_old {h : HeapM} {o : CmdM} (hp : possO h o = true) (hop : ¬ o.op = 1) : canF h o = true := by unfold canF; rw [hp]; simp [hop]
theorem canF_full {h : HeapM} {o : CmdM} (hop : o.op = 1) (hf : freeAt h.cells = 40) : canF h o = false := by unfold canF; simp [hop, hf]
theorem canF_room {h : HeapM} {o : CmdM} (hp : possO h o = true) (hf : freeAt h.cells ≠ 40) : canF h o = true := by unfold canF; rw [hp]; simp [hf]
set_option maxHeartbeats 4000000 in
theorem canStep_any (v : Value) (h : HeapM) (o : CmdM) (w : World) (hv : RH w v h) (hva : validM h = true) (hok : cmdOk o = true) :
    Calls Try.prog 26 #[v, .agg #[.int .i64 o.op, .int .i64 o.a, .int .i64 o.b, .int .i64 o.c]] w fun e w' => e = .returned (.bool (canF h o)) ∧ Below w.heap.size w w' := by
  have hv00 := hv
  obtain ⟨A, c, A', c', rfl, -, -, -, -⟩ := hv
  obtain ⟨op, oa, ob, oc⟩ := o
  dsimp only
  have HF0 : Hid (∀ W, Below (((w.alloc (.cells #[.slice A h.cells.length c, .slice A' h.roots.length c'] 26)).alloc (.cells #[.int .i64 op, .int .i64 oa, .int .i64 ob, .int .i64 oc] 30))).heap.size (((w.alloc (.cells #[.slice A h.cells.length c, .slice A' h.roots.length c'] 26)).alloc (.cells #[.int .i64 op, .int .i64 oa, .int .i64 ob, .int .i64 oc] 30))) W → (W.cell? ⟨w.heap.size, 0, none⟩ = some (.slice A h.cells.length c) ∧ W.cell? ⟨w.heap.size, 1, none⟩ = some (.slice A' h.roots.length c') ∧ W.cell? ⟨w.heap.size + 1, 0, none⟩ = some (.int .i64 op) ∧ W.cell? ⟨w.heap.size + 1, 1, none⟩ = some (.int .i64 oa) ∧ W.cell? ⟨w.heap.size + 1, 2, none⟩ = some (.int .i64 ob) ∧ W.cell? ⟨w.heap.size + 1, 3, none⟩ = some (.int .i64 oc))) := fun W hW => ⟨cell_below (by simp [go_sem]) hW, cell_below (by simp [go_sem]) hW, cell_below (by simp [go_sem]) hW, cell_below (by simp [go_sem]) hW, cell_below (by simp [go_sem]) hW, cell_below (by simp [go_sem]) hW⟩
  have hW0 : Below w.heap.size w (((w.alloc (.cells #[.slice A h.cells.length c, .slice A' h.roots.length c'] 26)).alloc (.cells #[.int .i64 op, .int .i64 oa, .int .i64 ob, .int .i64 oc] 30))) := blw_
  have hv0 := hv00.below hW0
  have h40 := (valid_small hva).1
  have hfl := freeAt_le h.cells
  clear hv00
  cases hps : possO h ⟨op, oa, ob, oc⟩
  · have HP := Lib.hid (possO_hid hps hva hok)
    have HE := Lib.hid (canF_no hps)
    clear hva hok hps
    go_enter Try.func26, Try.ntmps26; go_wp2_with fail; generalize (((w.alloc (.cells #[.slice A h.cells.length c, .slice A' h.roots.length c'] 26)).alloc (.cells #[.int .i64 op, .int .i64 oa, .int .i64 ob, .int .i64 oc] 30))) = W0 at *; have Y := Below.refl W0.heap.size W0; have sY := Y.size; obtain ⟨a0, a1, b0, b1, b2, b3⟩ := HF0.out _ Y
    ((with_reducible refine (implCommandPossible_any _ h ⟨op, oa, ob, oc⟩ _ (hv0.below blw_)).mono ?_); rw [HP.out]; rintro e w2 ⟨rfl, hB⟩; (have z_hB := Below.size hB); (try simp only [World.size_alloc, World.size_setCell, World.size_drew, World.heap_drewN] at z_hB); have Y2 : Below W0.heap.size W0 w2 := blw_; clear hB Y a0 a1 b0 b1 b2 b3; have Y := Y2; clear Y2; have sY := Y.size; obtain ⟨a0, a1, b0, b1, b2, b3⟩ := HF0.out _ Y)
    go_wp2_with fail
    go_ret; exact ⟨by rw [HE.out]; first | rfl | (simp [hfI]; done), hW0.trans (Y.mono hW0.size)⟩
  have HP := Lib.hid (possO_hid hps hva hok)
  rcases Classical.em (op = 1) with hop | hop
  · subst hop
    rcases Classical.em (freeAt h.cells = 40) with hf | hf
    · have HE := Lib.hid (canF_full (h := h) (o := ⟨1, oa, ob, oc⟩) rfl hf)
      have hfI : ¬ (freeAt h.cells : Int) < 40 := by omega
      clear hva hok hps hf
      go_enter Try.func26, Try.ntmps26; go_wp2_with fail; generalize (((w.alloc (.cells #[.slice A h.cells.length c, .slice A' h.roots.length c'] 26)).alloc (.cells #[.int .i64 1, .int .i64 oa, .int .i64 ob, .int .i64 oc] 30))) = W0 at *; have Y := Below.refl W0.heap.size W0; have sY := Y.size; obtain ⟨a0, a1, b0, b1, b2, b3⟩ := HF0.out _ Y
      ((with_reducible refine (implCommandPossible_any _ h ⟨1, oa, ob, oc⟩ _ (hv0.below blw_)).mono ?_); rw [HP.out]; rintro e w2 ⟨rfl, hB⟩; (have z_hB := Below.size hB); (try simp only [World.size_alloc, World.size_setCell, World.size_drew, World.heap_drewN] at z_hB); have Y2 : Below W0.heap.size W0 w2 := blw_; clear hB Y a0 a1 b0 b1 b2 b3; have Y := Y2; clear Y2; have sY := Y.size; obtain ⟨a0, a1, b0, b1, b2, b3⟩ := HF0.out _ Y)
      go_wp2_with fail
      ((with_reducible refine (freePlace_any _ h _ (hv0.below blw_) (by omega)).mono ?_); rintro e w2 ⟨rfl, hB⟩; (have z_hB := Below.size hB); (try simp only [World.size_alloc, World.size_setCell, World.size_drew, World.heap_drewN] at z_hB); have Y2 : Below W0.heap.size W0 w2 := blw_; clear hB Y a0 a1 b0 b1 b2 b3; have Y := Y2; clear Y2; have sY := Y.size; obtain ⟨a0, a1, b0, b1, b2, b3⟩ := HF0.out _ Y)
      go_wp2_with fail
      go_ret; exact ⟨by rw [HE.out]; first | rfl | (simp [hfI]; done), hW0.trans (Y.mono hW0.size)⟩
    · have HE := Lib.hid (canF_room (o := ⟨1, oa, ob, oc⟩) hps hf)
      have hfI : (freeAt h.cells : Int) < 40 := by omega
      clear hva hok hps hf
      go_enter Try.func26, Try.ntmps26; go_wp2_with fail; generalize (((w.alloc (.cells #[.slice A h.cells.length c, .slice A' h.roots.length c'] 26)).alloc (.cells #[.int .i64 1, .int .i64 oa, .int .i64 ob, .int .i64 oc] 30))) = W0 at *; have Y := Below.refl W0.heap.size W0; have sY := Y.size; obtain ⟨a0, a1, b0, b1, b2, b3⟩ := HF0.out _ Y
      ((with_reducible refine (implCommandPossible_any _ h ⟨1, oa, ob, oc⟩ _ (hv0.below blw_)).mono ?_); rw [HP.out]; rintro e w2 ⟨rfl, hB⟩; (have z_hB := Below.size hB); (try simp only [World.size_alloc, World.size_setCell, World.size_drew, World.heap_drewN] at z_hB); have Y2 : Below W0.heap.size W0 w2 := blw_; clear hB Y a0 a1 b0 b1 b2 b3; have Y := Y2; clear Y2; have sY := Y.size; obtain ⟨a0, a1, b0, b1, b2, b3⟩ := HF0.out _ Y)
      go_wp2_with fail
      ((with_reducible refine (freePlace_any _ h _ (hv0.below blw_) (by omega)).mono ?_); rintro e w2 ⟨rfl, hB⟩; (have z_hB := Below.size hB); (try simp only [World.size_alloc, World.size_setCell, World.size_drew, World.heap_drewN] at z_hB); have Y2 : Below W0.heap.size W0 w2 := blw_; clear hB Y a0 a1 b0 b1 b2 b3; have Y := Y2; clear Y2; have sY := Y.size; obtain ⟨a0, a1, b0, b1, b2, b3⟩ := HF0.out _ Y)
      go_wp2_with fail
      go_ret; exact ⟨by rw [HE.out]; first | rfl | (simp [hfI]; done), hW0.trans (Y.mono hW0.size)⟩
  · have HE := Lib.hid (canF_old hps hop)
    clear hva hok hps
    go_enter Try.func26, Try.ntmps26; go_wp2_with fail; generalize (((w.alloc (.cells #[.slice A h.cells.length c, .slice A' h.roots.length c'] 26)).alloc (.cells #[.int .i64 op, .int .i64 oa, .int .i64 ob, .int .i64 oc] 30))) = W0 at *; have Y := Below.refl W0.heap.size W0; have sY := Y.size; obtain ⟨a0, a1, b0, b1, b2, b3⟩ := HF0.out _ Y
    ((with_reducible refine (implCommandPossible_any _ h ⟨op, oa, ob, oc⟩ _ (hv0.below blw_)).mono ?_); rw [HP.out]; rintro e w2 ⟨rfl, hB⟩; (have z_hB := Below.size hB); (try simp only [World.size_alloc, World.size_setCell, World.size_drew, World.heap_drewN] at z_hB); have Y2 : Below W0.heap.size W0 w2 := blw_; clear hB Y a0 a1 b0 b1 b2 b3; have Y := Y2; clear Y2; have sY := Y.size; obtain ⟨a0, a1, b0, b1, b2, b3⟩ := HF0.out _ Y)
    go_wp2_with fail
    go_ret; exact ⟨by rw [HE.out]; first | rfl | (simp [hfI]; done), hW0.trans (Y.mono hW0.size)⟩
end Go.Proofs.Ytkikeanpbffpkaa
