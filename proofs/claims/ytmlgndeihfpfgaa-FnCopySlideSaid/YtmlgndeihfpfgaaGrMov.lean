/- Texts of one family, one behind the other: MovI, MovR, MovRI. -/
import Derived.Test.YtmlgndeihfpfgaaChecked
import Derived.Deep.RegionHeld3
import Derived.Deep.DeepCutAuto
import Derived.Test.YtmlgndeihfpfgaaGath
import Derived.Test.YtmlgndeihfpfgaaGrOrd
import Derived.Test.YtmlgndeihfpfgaaGrSnap
import Derived.Test.YtmlgndeihfpfgaaGrHeap
import Derived.Test.YtmlgndeihfpfgaaCmdsV
import Derived.Test.YtmlgndeihfpfgaaStepH
/- CopyHeap and SlideHeap of the program. -/
namespace Go.Proofs.Ytmlgndeihfpfgaa
open Go.RowKit
set_option maxRecDepth 100000
set_option linter.unusedSimpArgs false
set_option linter.unusedVariables false
theorem copyHeap_no {h : HeapM} (hv : validM h = false) : copyHeapM h = zeroH := by unfold copyHeapM; rw [hv]; rfl
theorem slideHeap_no {h : HeapM} (hv : validM h = false) : slideHeapM h = zeroH := by unfold slideHeapM; rw [hv]; rfl
theorem copyHeap_yes {h : HeapM} (hv : validM h = true) : copyHeapM h = gathM h (orderM h) := by unfold copyHeapM; rw [hv]; rfl
theorem slideHeap_yes {h : HeapM} (hv : validM h = true) : slideHeapM h = gathM h (slideM h) := by unfold slideHeapM; rw [hv]; rfl
theorem slide_ok2 {h : HeapM} (hv : validM h = true) : OrdOk h (slideM h) := slide_ok h
set_option maxHeartbeats 4000000 in
theorem implCopyHeap_any (v : Value) (h : HeapM) (w : World) (hv : RH w v h) :
    Calls Try.prog 28 #[v] w fun e w' => ∃ v', e = .returned v' ∧ OH w.heap.size w' v' (copyHeapM h) ∧ Below w.heap.size w w' := by
  have hv00 := hv
  obtain ⟨A, c, A', c', rfl, -, -, -, -⟩ := hv
  have HG0 : Hid (∀ W, Below (((w.alloc (.cells #[.slice A h.cells.length c, .slice A' h.roots.length c'] 29)).alloc (.cells #[.slice none 0 0, .slice none 0 0] 29))).heap.size (((w.alloc (.cells #[.slice A h.cells.length c, .slice A' h.roots.length c'] 29)).alloc (.cells #[.slice none 0 0, .slice none 0 0] 29))) W → (W.cell? ⟨w.heap.size + 1, 0, none⟩ = some (.slice none 0 0) ∧ W.cell? ⟨w.heap.size + 1, 1, none⟩ = some (.slice none 0 0) ∧ ∀ o, W.frozen? ⟨w.heap.size + 1, o, none⟩ = false)) := fun W hW => ⟨cell_below (by simp [go_sem]) hW, cell_below (by simp [go_sem]) hW, fun o => ((bcell hW).2.1 _ _ (by simp)).trans (by simp [go_sem])⟩
  have HF0 : Hid (∀ W, Only [w.heap.size + 1] (((w.alloc (.cells #[.slice A h.cells.length c, .slice A' h.roots.length c'] 29)).alloc (.cells #[.slice none 0 0, .slice none 0 0] 29))) W → (W.cell? ⟨w.heap.size, 0, none⟩ = some (.slice A h.cells.length c) ∧ W.cell? ⟨w.heap.size, 1, none⟩ = some (.slice A' h.roots.length c'))) := fun W hW => ⟨hW.cell (by simp [go_sem]) (by simp), hW.cell (by simp [go_sem]) (by simp)⟩
  have hz0 : (((w.alloc (.cells #[.slice A h.cells.length c, .slice A' h.roots.length c'] 29)).alloc (.cells #[.slice none 0 0, .slice none 0 0] 29))).heap.size = w.heap.size + 2 := by simp
  have hW0 : Below w.heap.size w (((w.alloc (.cells #[.slice A h.cells.length c, .slice A' h.roots.length c'] 29)).alloc (.cells #[.slice none 0 0, .slice none 0 0] 29))) := blw_
  have hv0 := hv00.below hW0
  clear hv00
  cases hva : validM h
  · have HV := Lib.hid hva
    have HE := Lib.hid (copyHeap_no hva)
    clear hva
    go_enter Try.func28, Try.ntmps28; go_wp2_with fail; generalize (((w.alloc (.cells #[.slice A h.cells.length c, .slice A' h.roots.length c'] 29)).alloc (.cells #[.slice none 0 0, .slice none 0 0] 29))) = W0 at *; (with_reducible refine (implHeapValid_any _ h _ (hv0.below blw_)).mono ?_); rw [HV.out]; rintro e w1 ⟨rfl, hB⟩; (have z_hB := Below.size hB); (try simp only [World.size_alloc, World.size_setCell, World.size_drew, World.heap_drewN] at z_hB); have Y : Below W0.heap.size W0 w1 := blw_; clear hB; have sY := Y.size; obtain ⟨r0, r1, rf⟩ := HG0.out w1 Y; have rf0 := rf 0; have rf1 := rf 1; obtain ⟨a0, a1⟩ := HF0.out w1 (Only.of_below Y); go_wp2_with fail
    have X : Below w.heap.size w w1 := hW0.trans (Y.mono hW0.size)
    refine bodyPost_ret (v := .agg #[.slice none 0 0, .slice none 0 0]) (by simp [results, Try.results28, go_sem, r0, r1]) rfl ⟨_, rfl, ?_, blw_⟩
    rw [HE.out]
    exact OH.zero
  have HV := Lib.hid hva
  have HE := Lib.hid (copyHeap_yes hva)
  have HOK := Lib.hid (order_ok hva)
  clear hva
  go_enter Try.func28, Try.ntmps28; go_wp2_with fail; generalize (((w.alloc (.cells #[.slice A h.cells.length c, .slice A' h.roots.length c'] 29)).alloc (.cells #[.slice none 0 0, .slice none 0 0] 29))) = W0 at *; (with_reducible refine (implHeapValid_any _ h _ (hv0.below blw_)).mono ?_); rw [HV.out]; rintro e w1 ⟨rfl, hB⟩; (have z_hB := Below.size hB); (try simp only [World.size_alloc, World.size_setCell, World.size_drew, World.heap_drewN] at z_hB); have Y : Below W0.heap.size W0 w1 := blw_; clear hB; have sY := Y.size; obtain ⟨r0, r1, rf⟩ := HG0.out w1 Y; have rf0 := rf 0; have rf1 := rf 1; obtain ⟨a0, a1⟩ := HF0.out w1 (Only.of_below Y); go_wp2_with fail
  go_region_held3 (fun W => (W.cell? ⟨w.heap.size, 0, none⟩ = some (.slice A h.cells.length c) ∧ W.cell? ⟨w.heap.size, 1, none⟩ = some (.slice A' h.roots.length c'))) (first | with_reducible exact HF0.out _ (by repeat (first | (with_reducible refine Only.setCell ?_ (.inl (by simp)) _) | (with_reducible refine Only.drew ?_) | (with_reducible refine Only.alloc ?_ _) | (with_reducible assumption) | (with_reducible exact Only.refl _ _) | (with_reducible refine Only.trans ?_ (Only.of_below (by with_reducible assumption))))))
    (first
      | (go_at_call 67; (with_reducible refine (metOrder_any _ h _ (hv0.below blw_) HV.out).mono ?_); rintro e w3 ⟨S1, c1, rfl, hO1, hlo1, hB1⟩; (have z_hB1 := Below.size hB1); (try simp only [World.size_alloc, World.size_setCell, World.size_drew, World.heap_drewN] at z_hB1))
      | (go_at_call 66; (with_reducible refine (gathered_any _ h S1 (orderM h) c1 _ (hv0.below blw_) HV.out (hO1.below blw_).rf HOK.out).mono ?_); rintro e w2 ⟨v2, rfl, ⟨B, d, B', d', os, rfl, o4⟩, hB2⟩; (have z_hB2 := Below.size hB2); (try simp only [World.size_alloc, World.size_setCell, World.size_drew, World.heap_drewN] at z_hB2); have Y2 : Below W0.heap.size W0 w2 := blw_; clear hB2; obtain ⟨r0, r1, rf⟩ := HG0.out w2 Y2; have rf0 := rf 0; have rf1 := rf 1))
  all_goals
    go_wp2_with fail
    have X2 : Below w.heap.size w w2 := hW0.trans (Y2.mono hW0.size)
    refine bodyPost_ret (v := .agg #[.slice B (gathM h (orderM h)).cells.length d, .slice B' (gathM h (orderM h)).roots.length d']) (by simp [results, Try.results28, go_sem, r0, r1]) rfl ⟨_, rfl, ?_, blw_⟩
    rw [HE.out]
    exact OH.lo_ (lo := w.heap.size + 2) (OH.setlt (OH.setlt (lo := w.heap.size + 2) ⟨B, d, B', d', os, rfl, o4.1, o4.2.1, fun b hb => by have h7 := o4.2.2 b hb; (try simp only [World.size_alloc, World.size_setCell, World.size_drew, World.heap_drewN] at h7); omega⟩ (by simp) _) (by simp) _) (by omega)
set_option maxHeartbeats 4000000 in
theorem implSlideHeap_any (v : Value) (h : HeapM) (w : World) (hv : RH w v h) :
    Calls Try.prog 35 #[v] w fun e w' => ∃ v', e = .returned v' ∧ OH w.heap.size w' v' (slideHeapM h) ∧ Below w.heap.size w w' := by
  have hv00 := hv
  obtain ⟨A, c, A', c', rfl, -, -, -, -⟩ := hv
  have HG0 : Hid (∀ W, Below (((w.alloc (.cells #[.slice A h.cells.length c, .slice A' h.roots.length c'] 29)).alloc (.cells #[.slice none 0 0, .slice none 0 0] 29))).heap.size (((w.alloc (.cells #[.slice A h.cells.length c, .slice A' h.roots.length c'] 29)).alloc (.cells #[.slice none 0 0, .slice none 0 0] 29))) W → (W.cell? ⟨w.heap.size + 1, 0, none⟩ = some (.slice none 0 0) ∧ W.cell? ⟨w.heap.size + 1, 1, none⟩ = some (.slice none 0 0) ∧ ∀ o, W.frozen? ⟨w.heap.size + 1, o, none⟩ = false)) := fun W hW => ⟨cell_below (by simp [go_sem]) hW, cell_below (by simp [go_sem]) hW, fun o => ((bcell hW).2.1 _ _ (by simp)).trans (by simp [go_sem])⟩
  have HF0 : Hid (∀ W, Only [w.heap.size + 1] (((w.alloc (.cells #[.slice A h.cells.length c, .slice A' h.roots.length c'] 29)).alloc (.cells #[.slice none 0 0, .slice none 0 0] 29))) W → (W.cell? ⟨w.heap.size, 0, none⟩ = some (.slice A h.cells.length c) ∧ W.cell? ⟨w.heap.size, 1, none⟩ = some (.slice A' h.roots.length c'))) := fun W hW => ⟨hW.cell (by simp [go_sem]) (by simp), hW.cell (by simp [go_sem]) (by simp)⟩
  have hz0 : (((w.alloc (.cells #[.slice A h.cells.length c, .slice A' h.roots.length c'] 29)).alloc (.cells #[.slice none 0 0, .slice none 0 0] 29))).heap.size = w.heap.size + 2 := by simp
  have hW0 : Below w.heap.size w (((w.alloc (.cells #[.slice A h.cells.length c, .slice A' h.roots.length c'] 29)).alloc (.cells #[.slice none 0 0, .slice none 0 0] 29))) := blw_
  have hv0 := hv00.below hW0
  clear hv00
  cases hva : validM h
  · have HV := Lib.hid hva
    have HE := Lib.hid (slideHeap_no hva)
    clear hva
    go_enter Try.func35, Try.ntmps35; go_wp2_with fail; generalize (((w.alloc (.cells #[.slice A h.cells.length c, .slice A' h.roots.length c'] 29)).alloc (.cells #[.slice none 0 0, .slice none 0 0] 29))) = W0 at *; (with_reducible refine (implHeapValid_any _ h _ (hv0.below blw_)).mono ?_); rw [HV.out]; rintro e w1 ⟨rfl, hB⟩; (have z_hB := Below.size hB); (try simp only [World.size_alloc, World.size_setCell, World.size_drew, World.heap_drewN] at z_hB); have Y : Below W0.heap.size W0 w1 := blw_; clear hB; have sY := Y.size; obtain ⟨r0, r1, rf⟩ := HG0.out w1 Y; have rf0 := rf 0; have rf1 := rf 1; obtain ⟨a0, a1⟩ := HF0.out w1 (Only.of_below Y); go_wp2_with fail
    have X : Below w.heap.size w w1 := hW0.trans (Y.mono hW0.size)
    refine bodyPost_ret (v := .agg #[.slice none 0 0, .slice none 0 0]) (by simp [results, Try.results35, go_sem, r0, r1]) rfl ⟨_, rfl, ?_, blw_⟩
    rw [HE.out]
    exact OH.zero
  have HV := Lib.hid hva
  have HE := Lib.hid (slideHeap_yes hva)
  have HOK := Lib.hid (slide_ok2 hva)
  clear hva
  go_enter Try.func35, Try.ntmps35; go_wp2_with fail; generalize (((w.alloc (.cells #[.slice A h.cells.length c, .slice A' h.roots.length c'] 29)).alloc (.cells #[.slice none 0 0, .slice none 0 0] 29))) = W0 at *; (with_reducible refine (implHeapValid_any _ h _ (hv0.below blw_)).mono ?_); rw [HV.out]; rintro e w1 ⟨rfl, hB⟩; (have z_hB := Below.size hB); (try simp only [World.size_alloc, World.size_setCell, World.size_drew, World.heap_drewN] at z_hB); have Y : Below W0.heap.size W0 w1 := blw_; clear hB; have sY := Y.size; obtain ⟨r0, r1, rf⟩ := HG0.out w1 Y; have rf0 := rf 0; have rf1 := rf 1; obtain ⟨a0, a1⟩ := HF0.out w1 (Only.of_below Y); go_wp2_with fail
  go_region_held3 (fun W => (W.cell? ⟨w.heap.size, 0, none⟩ = some (.slice A h.cells.length c) ∧ W.cell? ⟨w.heap.size, 1, none⟩ = some (.slice A' h.roots.length c'))) (first | with_reducible exact HF0.out _ (by repeat (first | (with_reducible refine Only.setCell ?_ (.inl (by simp)) _) | (with_reducible refine Only.drew ?_) | (with_reducible refine Only.alloc ?_ _) | (with_reducible assumption) | (with_reducible exact Only.refl _ _) | (with_reducible refine Only.trans ?_ (Only.of_below (by with_reducible assumption))))))
    (first
      | (go_at_call 75; (with_reducible refine (slideOrder_any _ h _ (hv0.below blw_) HV.out).mono ?_); rintro e w3 ⟨S1, c1, rfl, hO1, hlo1, hB1⟩; (have z_hB1 := Below.size hB1); (try simp only [World.size_alloc, World.size_setCell, World.size_drew, World.heap_drewN] at z_hB1))
      | (go_at_call 66; (with_reducible refine (gathered_any _ h S1 (slideM h) c1 _ (hv0.below blw_) HV.out (hO1.below blw_).rf HOK.out).mono ?_); rintro e w2 ⟨v2, rfl, ⟨B, d, B', d', os, rfl, o4⟩, hB2⟩; (have z_hB2 := Below.size hB2); (try simp only [World.size_alloc, World.size_setCell, World.size_drew, World.heap_drewN] at z_hB2); have Y2 : Below W0.heap.size W0 w2 := blw_; clear hB2; obtain ⟨r0, r1, rf⟩ := HG0.out w2 Y2; have rf0 := rf 0; have rf1 := rf 1))
  all_goals
    go_wp2_with fail
    have X2 : Below w.heap.size w w2 := hW0.trans (Y2.mono hW0.size)
    refine bodyPost_ret (v := .agg #[.slice B (gathM h (slideM h)).cells.length d, .slice B' (gathM h (slideM h)).roots.length d']) (by simp [results, Try.results35, go_sem, r0, r1]) rfl ⟨_, rfl, ?_, blw_⟩
    rw [HE.out]
    exact OH.lo_ (lo := w.heap.size + 2) (OH.setlt (OH.setlt (lo := w.heap.size + 2) ⟨B, d, B', d', os, rfl, o4.1, o4.2.1, fun b hb => by have h7 := o4.2.2 b hb; (try simp only [World.size_alloc, World.size_setCell, World.size_drew, World.heap_drewN] at h7); omega⟩ (by simp) _) (by simp) _) (by omega)
end Go.Proofs.Ytmlgndeihfpfgaa

/- Programs of the program that move cells together. -/
namespace Go.Proofs.Ytmlgndeihfpfgaa
open Go.RowKit
set_option maxRecDepth 100000
set_option linter.unusedSimpArgs false
set_option linter.unusedVariables false
theorem PHx.over1 {lo l2 : Nat} {w : World} {g : Nat} {p q : HeapM} {A A' B B' : Option Addr} {c c' d d' : Nat} {os os2 : List OCell} (h : PHx lo w g p A c A' c' os) (hm : os2.map (·.c) = q.cells) (ho : OHs w B d B' d' os2 q.roots) (hlo : ∀ b ∈ hblks B os2 B', l2 ≤ b) (hl2 : lo ≤ l2) (hg : g < l2) :
    PHx lo ((w.setCell ⟨g, 0, none⟩ (.slice B q.cells.length d)).setCell ⟨g, 1, none⟩ (.slice B' q.roots.length d')) g q B d B' d' os2 := by
  have hk : ∀ b ∈ hblks B os2 B', b ≠ g := fun b hb e => by have := hlo b hb; omega
  have k0 := h.q0
  have k1 := h.q1
  have hlt := h.lt
  refine ⟨by simp [go_sem, k0, k1], by simp [go_sem, k0, k1], fun o => by simp [go_sem, h.qf o], h.lo_, by simpa using hlt, fun hc => by have := hlo g hc; omega, hm, ?_, fun b hb => Nat.le_trans hl2 (hlo b hb)⟩
  exact ho.keep fun b hb => by have := hk b hb; rw [heap_setCell_ne _ _ _ this, heap_setCell_ne _ _ _ this]
theorem wp_genM {P : Program} {c : Code} {Q : Exit → Act → World → Prop} {a : Act} {w : World} (R : World → Prop) (h : R w) (k : ∀ W, R W → Code.wp P c Q a W) : Code.wp P c Q a w := k w h
theorem moveFrom_end {mv : HeapM → HeapM} {limit : Int} {h : HeapM} {l : List CmdM} {k : Nat} (hk : l.length ≤ k) : moveFrom mv limit h (l.drop k) = (h, true) := by
  rw [List.drop_eq_nil_of_le hk]; rfl
theorem runMove_bad {mv : HeapM → HeapM} {l : List CmdM} {limit : Int} (h : (cmdsOk l && inB 1 limit 40) = false) : runMoveM mv l limit = (zeroH, false) := by unfold runMoveM; rw [h]; rfl
theorem runMove_ok {mv : HeapM → HeapM} {l : List CmdM} {limit : Int} (h1 : cmdsOk l = true) (h2 : inB 1 limit 40 = true) : runMoveM mv l limit = moveFrom mv limit emptyM (l.drop 0) := by unfold runMoveM; rw [h1, h2]; rfl
set_option maxHeartbeats 400000 in
theorem isLim_any (n : Int) (w : World) :
    Calls Try.prog 65 #[.int .i64 n] w fun e w' => e = .returned (.bool (inB 1 n 40)) ∧ w = w' := by
  by_cases h1 : 1 ≤ n
  · go_enter Try.func65, Try.ntmps65
    go_wp2
    go_ret
    exact ⟨ret_bool (by simp [inB, h1]), rfl⟩
  · go_enter Try.func65, Try.ntmps65
    go_wp2
    go_ret
    exact ⟨ret_bool (by simp [inB]; try omega), rfl⟩
set_option maxHeartbeats 8000000 in
theorem runMovingCopy_any (A : Option Addr) (l : List CmdM) (c : Nat) (limit : Int) (w : World) (hv0 : RO w A l) (hl : l.length ≤ 9223372036854775807) :
    Calls Try.prog 27 #[.slice A l.length c, .int .i64 limit, .func (.func 28) #[] #[]] w fun e w' => ∃ v', e = .returned (.tuple #[v', .bool (runMoveM copyHeapM l limit).2]) ∧ OH w.heap.size w' v' (runMoveM copyHeapM l limit).1 ∧ Below w.heap.size w w' := by
  have HG0 : Hid (∀ W, Below ((w.alloc (.cells #[.slice none 0 0, .slice none 0 0] 29))).heap.size ((w.alloc (.cells #[.slice none 0 0, .slice none 0 0] 29))) W → (W.cell? ⟨w.heap.size, 0, none⟩ = some (.slice none 0 0) ∧ W.cell? ⟨w.heap.size, 1, none⟩ = some (.slice none 0 0) ∧ ∀ o, W.frozen? ⟨w.heap.size, o, none⟩ = false)) := fun W hW => ⟨cell_below (by simp [go_sem]) hW, cell_below (by simp [go_sem]) hW, fun o => ((bcell hW).2.1 _ _ (by simp)).trans (by simp [go_sem])⟩
  have hz0 : ((w.alloc (.cells #[.slice none 0 0, .slice none 0 0] 29))).heap.size = w.heap.size + 1 := by simp
  have hW0 : Below w.heap.size w ((w.alloc (.cells #[.slice none 0 0, .slice none 0 0] 29))) := blw_
  have hv := hv0.below hW0
  clear hv0
  cases hok : cmdsOk l
  · have HO := Lib.hid hok
    have HE := Lib.hid (runMove_bad (mv := copyHeapM) (l := l) (limit := limit) (by rw [hok]; rfl))
    clear hok
    go_enter Try.func27, Try.ntmps27; go_wp2_with fail; generalize ((w.alloc (.cells #[.slice none 0 0, .slice none 0 0] 29))) = W0 at *; (with_reducible refine (implCommandsValid_any A l c _ (hv.below blw_) hl).mono ?_); rw [HO.out]; rintro e w1 ⟨rfl, hB⟩; (have z_hB := Below.size hB); (try simp only [World.size_alloc, World.size_setCell, World.size_drew, World.heap_drewN] at z_hB); have Y : Below W0.heap.size W0 w1 := blw_; clear hB; have sY := Y.size
    obtain ⟨r0, r1, rf⟩ := HG0.out _ Y; have rf0 := rf 0; have rf1 := rf 1; clear rf
    go_wp2_with fail
    have X := hW0.trans (Y.mono hW0.size); refine bodyPost_ret (v := .tuple #[.agg #[.slice none 0 0, .slice none 0 0], .bool false]) (by simp [results, Try.results27, go_sem, r0, r1]) rfl ⟨_, by rw [HE.out], ?_, blw_⟩; rw [HE.out]; exact OH.zero
  have HO := Lib.hid hok
  cases hli : inB 1 limit 40
  · have HL := Lib.hid hli
    have HE := Lib.hid (runMove_bad (mv := copyHeapM) (l := l) (limit := limit) (by rw [hok, hli]; rfl))
    clear hok hli
    go_enter Try.func27, Try.ntmps27; go_wp2_with fail; generalize ((w.alloc (.cells #[.slice none 0 0, .slice none 0 0] 29))) = W0 at *; (with_reducible refine (implCommandsValid_any A l c _ (hv.below blw_) hl).mono ?_); rw [HO.out]; rintro e w1 ⟨rfl, hB⟩; (have z_hB := Below.size hB); (try simp only [World.size_alloc, World.size_setCell, World.size_drew, World.heap_drewN] at z_hB); have Y : Below W0.heap.size W0 w1 := blw_; clear hB; have sY := Y.size
    obtain ⟨r0, r1, rf⟩ := HG0.out _ Y; have rf0 := rf 0; have rf1 := rf 1; clear rf
    go_wp2_with fail
    ((with_reducible refine (isLim_any limit _).mono ?_); rw [HL.out]; rintro e w8 ⟨rfl, rfl⟩)
    go_wp2_with fail
    have X := hW0.trans (Y.mono hW0.size); refine bodyPost_ret (v := .tuple #[.agg #[.slice none 0 0, .slice none 0 0], .bool false]) (by simp [results, Try.results27, go_sem, r0, r1]) rfl ⟨_, by rw [HE.out], ?_, blw_⟩; rw [HE.out]; exact OH.zero
  have HL := Lib.hid hli
  have HE := Lib.hid (runMove_ok (mv := copyHeapM) hok hli)
  have hl40 : l.length ≤ 40 := by unfold cmdsOk at hok; simp only [Bool.and_eq_true, decide_eq_true_eq] at hok; exact hok.1
  clear hok hli
  go_enter Try.func27, Try.ntmps27; go_wp2_with fail; generalize ((w.alloc (.cells #[.slice none 0 0, .slice none 0 0] 29))) = W0 at *; (with_reducible refine (implCommandsValid_any A l c _ (hv.below blw_) hl).mono ?_); rw [HO.out]; rintro e w1 ⟨rfl, hB⟩; (have z_hB := Below.size hB); (try simp only [World.size_alloc, World.size_setCell, World.size_drew, World.heap_drewN] at z_hB); have Y : Below W0.heap.size W0 w1 := blw_; clear hB; have sY := Y.size
  go_wp2_with fail
  ((with_reducible refine (isLim_any limit _).mono ?_); rw [HL.out]; rintro e w8 ⟨rfl, rfl⟩)
  go_wp2_with fail
  (with_reducible refine (implEmptyHeap_any _).mono ?_)
  rintro e w2 ⟨v2, rfl, ⟨B, d, B', d', os, rfl, hm, hO, hlo⟩, hB2⟩
  have Y2 : Below W0.heap.size W0 w2 := blw_
  have sY2 := Y2.size
  have hlo2 : ∀ b ∈ hblks B os B', W0.heap.size ≤ b := fun b hb => by have h7 := hlo b hb; (try simp only [World.size_alloc, World.size_setCell, World.size_drew, World.heap_drewN] at h7); omega
  have HP := Lib.hid (PHx.mk_ (h := emptyM) (lo := W0.heap.size) (w := w2) (c := d) (c' := d') hm hO hlo2 sY2 29)
  have HY2 := Lib.hid (Y2.alloc sY2 (.cells #[.slice B emptyM.cells.length d, .slice B' emptyM.roots.length d'] 29))
  clear hm hO hlo hlo2 hB2 Y
  go_wp2
  go_loopw [23] (fun i wr => ∃ (k : Nat) (hs : HeapM) (D : Option Addr) (e : Nat) (D' : Option Addr) (e' : Nat) (os2 : List OCell), k ≤ l.length ∧ i = .int .i64 k ∧ Hid (runMoveM copyHeapM l limit = moveFrom copyHeapM limit hs (l.drop k)) ∧ PHx W0.heap.size wr w2.heap.size hs D e D' e' os2 ∧ Below W0.heap.size W0 wr) (fun i _ => l.length - (intOf i).toNat)
  case atStart => exact ⟨0, emptyM, B, d, B', d', os, by omega, rfl, HE, HP.out, HY2.out⟩
  case round =>
    clear HP HY2 Y2
    obtain ⟨k, hs, D, e, D', e', os2, hk, rfl, HR, hQ, Y⟩ := hrel
    have sY := Y.size
    have hqz := hQ.lt
    have q0 := hQ.q0
    have q1 := hQ.q1
    have HQ := Lib.hid hQ
    clear hQ
    by_cases hlt : k < l.length
    · obtain ⟨b, o, x, rfl, gx, c1, c2, c3, c4, hb⟩ := (hv.below Y).at_ hlt
      have HGX := Lib.hid gx
      have hlt' : (k : Int) < (l.length : Int) := by omega
      have hzc : wr.heap.size ≠ w2.heap.size := by omega
      have hzc2 : w2.heap.size ≠ wr.heap.size := by omega
      clear gx
      rcases Classical.em (x.op = 1 ∧ limit ≤ (hs.cells.length : Int)) with hc | hc
      · obtain ⟨hop0, hge0⟩ := hc
        have HC := Lib.hid (⟨hop0, hge0⟩ : x.op = 1 ∧ limit ≤ (hs.cells.length : Int))
        have HP := Lib.hid (HQ.out.below (show Below wr.heap.size wr (wr.alloc (.cells #[.int .i64 x.op, .int .i64 x.a, .int .i64 x.b, .int .i64 x.c] 62)) from blw_))
        have Y3 : Below W0.heap.size W0 (wr.alloc (.cells #[.int .i64 x.op, .int .i64 x.a, .int .i64 x.b, .int .i64 x.c] 62)) := Y.alloc sY _
        have hws : wr.heap.size < (wr.alloc (.cells #[.int .i64 x.op, .int .i64 x.a, .int .i64 x.b, .int .i64 x.c] 62)).heap.size := by simp
        clear hop0 hge0
        have m0 : (wr.alloc (.cells #[.int .i64 x.op, .int .i64 x.a, .int .i64 x.b, .int .i64 x.c] 62)).cell? ⟨wr.heap.size, 0, none⟩ = some (.int .i64 x.op) := by simp [go_sem]
        have m1 : (wr.alloc (.cells #[.int .i64 x.op, .int .i64 x.a, .int .i64 x.b, .int .i64 x.c] 62)).cell? ⟨wr.heap.size, 1, none⟩ = some (.int .i64 x.a) := by simp [go_sem]
        have m2 : (wr.alloc (.cells #[.int .i64 x.op, .int .i64 x.a, .int .i64 x.b, .int .i64 x.c] 62)).cell? ⟨wr.heap.size, 2, none⟩ = some (.int .i64 x.b) := by simp [go_sem]
        have m3 : (wr.alloc (.cells #[.int .i64 x.op, .int .i64 x.a, .int .i64 x.b, .int .i64 x.c] 62)).cell? ⟨wr.heap.size, 3, none⟩ = some (.int .i64 x.c) := by simp [go_sem]
        go_upto_region 7 with fail
        generalize (wr.alloc (.cells #[.int .i64 x.op, .int .i64 x.a, .int .i64 x.b, .int .i64 x.c] 62)) = wb at *
        clear Y q0 q1
        have Y := Y3
        clear Y3
        have p0 := HP.out.q0
        have p1 := HP.out.q1
        have hop := HC.out.1
        have hge := HC.out.2
        go_wp2_with fail
        clear hop hge
        have hrt := HP.out.oh.rh
        have hqf := HP.out.qf
        have hgl := HP.out.lt
        have sYs := Y.size
        (with_reducible refine (implCopyHeap_any _ hs _ hrt).mono ?_)
        rintro e5 w5 ⟨v5, rfl, ⟨G, g, G', g', os5, rfl, hm5, hO5, hlo5⟩, hB5⟩
        have x0 := cell_below p0 hB5
        have x1 := cell_below p1 hB5
        have xf : ∀ o, w5.frozen? ⟨w2.heap.size, o, none⟩ = false := fun o => ((bcell hB5).2.1 _ _ hgl).trans (hqf o)
        have xf0 := xf 0
        have xf1 := xf 1
        have hw5 : Below W0.heap.size W0 w5 := Y.trans (hB5.mono sYs)
        have HQ5 := Lib.hid ((HP.out.below hB5).over1 hm5 hO5 hlo5 sYs hgl)
        have HB6 := Lib.hid ((hw5.setCell (p := ⟨w2.heap.size, 0, none⟩) sY2 (.slice G (copyHeapM hs).cells.length g)).setCell (p := ⟨w2.heap.size, 1, none⟩) sY2 (.slice G' (copyHeapM hs).roots.length g'))
        have n0 := cell_below m0 hB5
        have n1 := cell_below m1 hB5
        have n2 := cell_below m2 hB5
        have n3 := cell_below m3 hB5
        clear hm5 hO5 hlo5 xf hB5 m0 m1 m2 m3 Y
        go_upto_region 9 with fail
        refine wp_genM (fun W => PHx W0.heap.size W w2.heap.size (copyHeapM hs) G g G' g' os5 ∧ (W.cell? ⟨wr.heap.size, 0, none⟩ = some (.int .i64 x.op) ∧ W.cell? ⟨wr.heap.size, 1, none⟩ = some (.int .i64 x.a) ∧ W.cell? ⟨wr.heap.size, 2, none⟩ = some (.int .i64 x.b) ∧ W.cell? ⟨wr.heap.size, 3, none⟩ = some (.int .i64 x.c)) ∧ Below W0.heap.size W0 W) ⟨HQ5.out, ⟨by simp [go_sem, n0, hzc, hzc2], by simp [go_sem, n1, hzc, hzc2], by simp [go_sem, n2, hzc, hzc2], by simp [go_sem, n3, hzc, hzc2]⟩, HB6.out⟩ ?_
        clear HP HQ5 HB6 hw5 x0 x1 xf0 xf1 p0 p1 hrt hqf hgl n0 n1 n2 n3 sYs
        rintro WS ⟨hP, ⟨m0, m1, m2, m3⟩, Y⟩
        have HP := Lib.hid hP
        clear hP
        have p0 := HP.out.q0
        have p1 := HP.out.q1
        rcases Classical.em (limit ≤ (((copyHeapM hs).cells.length : Nat) : Int)) with hl2 | hl2
        · have HM : Hid (runMoveM copyHeapM l limit = (copyHeapM hs, false)) := by unfold Hid; rw [HR.out, moveFrom_stop HGX.out HC.out hl2]
          have sYs := Y.size
          obtain ⟨r0, r1, rf⟩ := HG0.out _ Y; have rf0 := rf 0; have rf1 := rf 1; clear rf
          have X := hW0.trans (Y.mono hW0.size)
          go_wp2_with fail
          refine bodyPost_ret (v := .tuple #[.agg #[.slice G (copyHeapM hs).cells.length g, .slice G' (copyHeapM hs).roots.length g'], .bool false]) (by simp [results, Try.results27, go_sem, r0, r1]) rfl ⟨_, by rw [HM.out], ?_, blw_⟩
          rw [HM.out]
          exact OH.lo_ (lo := w.heap.size + 1) (OH.setlt (OH.setlt (lo := w.heap.size + 1) ⟨G, g, G', g', os5, rfl, HP.out.map, HP.out.own, fun b hb => by have := HP.out.los b hb; omega⟩ (by simp) _) (by simp) _) (by omega)
        · have HS := Lib.hid (moveFrom_move (mv := copyHeapM) HGX.out HC.out hl2)
          obtain ⟨hs2, hhs2⟩ : ∃ hs2, hs2 = copyHeapM hs := ⟨_, rfl⟩
          rw [← hhs2] at HS HP p0 p1 hl2
          clear hhs2
          go_upto_region 11 with fail
          clear hl2
          have hrt := HP.out.oh.rh; have hqf := HP.out.qf; have hgl := HP.out.lt; have sYs := Y.size; go_wp2_with fail; (with_reducible refine (implStepHeap_any _ hs2 x _ hrt).mono ?_); rintro e6 w6 ⟨v6, rfl, ⟨E, f, E', f', os6, rfl, hm6, hO6, hlo6⟩, hB6⟩; have x0 := cell_below p0 hB6; have x1 := cell_below p1 hB6; have xf : ∀ o, w6.frozen? ⟨w2.heap.size, o, none⟩ = false := (fun o => ((bcell hB6).2.1 _ _ hgl).trans (hqf o)); have xf0 := xf 0; have xf1 := xf 1; have hw6 : Below W0.heap.size W0 w6 := Y.trans (hB6.mono sYs); have HQ6 := Lib.hid ((HP.out.below hB6).over1 hm6 hO6 hlo6 sYs hgl); have HB7 := Lib.hid ((hw6.setCell (p := ⟨w2.heap.size, 0, none⟩) sY2 (.slice E (stepM hs2 x).1.cells.length f)).setCell (p := ⟨w2.heap.size, 1, none⟩) sY2 (.slice E' (stepM hs2 x).1.roots.length f')); clear hm6 hO6 hlo6 hB6 xf; go_wp2
          go_roundw
          case rel => exact ⟨k + 1, (stepM hs2 x).1, E, f, E', f', os6, by omega, by go_num, by unfold Hid; rw [HR.out, HS.out], HQ6.out, HB7.out⟩
          case measure => simp [intOf]; omega
      · have HS := Lib.hid (moveFrom_go (mv := copyHeapM) HGX.out hc)
        have HP := Lib.hid (HQ.out.below (show Below wr.heap.size wr (wr.alloc (.cells #[.int .i64 x.op, .int .i64 x.a, .int .i64 x.b, .int .i64 x.c] 62)) from blw_))
        have Y3 : Below W0.heap.size W0 (wr.alloc (.cells #[.int .i64 x.op, .int .i64 x.a, .int .i64 x.b, .int .i64 x.c] 62)) := Y.alloc sY _
        have m0 : (wr.alloc (.cells #[.int .i64 x.op, .int .i64 x.a, .int .i64 x.b, .int .i64 x.c] 62)).cell? ⟨wr.heap.size, 0, none⟩ = some (.int .i64 x.op) := by simp [go_sem]
        have m1 : (wr.alloc (.cells #[.int .i64 x.op, .int .i64 x.a, .int .i64 x.b, .int .i64 x.c] 62)).cell? ⟨wr.heap.size, 1, none⟩ = some (.int .i64 x.a) := by simp [go_sem]
        have m2 : (wr.alloc (.cells #[.int .i64 x.op, .int .i64 x.a, .int .i64 x.b, .int .i64 x.c] 62)).cell? ⟨wr.heap.size, 2, none⟩ = some (.int .i64 x.b) := by simp [go_sem]
        have m3 : (wr.alloc (.cells #[.int .i64 x.op, .int .i64 x.a, .int .i64 x.b, .int .i64 x.c] 62)).cell? ⟨wr.heap.size, 3, none⟩ = some (.int .i64 x.c) := by simp [go_sem]
        go_upto_region 7 with fail
        generalize (wr.alloc (.cells #[.int .i64 x.op, .int .i64 x.a, .int .i64 x.b, .int .i64 x.c] 62)) = wb at *
        clear Y q0 q1
        have Y := Y3
        clear Y3
        have p0 := HP.out.q0
        have p1 := HP.out.q1
        rcases Classical.em (x.op = 1) with hop | hop
        · have hge : ¬ limit ≤ (hs.cells.length : Int) := fun h9 => hc ⟨hop, h9⟩
          clear hc
          go_upto_region 11 with fail
          clear hop hge
          have hrt := HP.out.oh.rh; have hqf := HP.out.qf; have hgl := HP.out.lt; have sYs := Y.size; go_wp2_with fail; (with_reducible refine (implStepHeap_any _ hs x _ hrt).mono ?_); rintro e6 w6 ⟨v6, rfl, ⟨E, f, E', f', os6, rfl, hm6, hO6, hlo6⟩, hB6⟩; have x0 := cell_below p0 hB6; have x1 := cell_below p1 hB6; have xf : ∀ o, w6.frozen? ⟨w2.heap.size, o, none⟩ = false := (fun o => ((bcell hB6).2.1 _ _ hgl).trans (hqf o)); have xf0 := xf 0; have xf1 := xf 1; have hw6 : Below W0.heap.size W0 w6 := Y.trans (hB6.mono sYs); have HQ6 := Lib.hid ((HP.out.below hB6).over1 hm6 hO6 hlo6 sYs hgl); have HB7 := Lib.hid ((hw6.setCell (p := ⟨w2.heap.size, 0, none⟩) sY2 (.slice E (stepM hs x).1.cells.length f)).setCell (p := ⟨w2.heap.size, 1, none⟩) sY2 (.slice E' (stepM hs x).1.roots.length f')); clear hm6 hO6 hlo6 hB6 xf; go_wp2
          go_roundw
          case rel => exact ⟨k + 1, (stepM hs x).1, E, f, E', f', os6, by omega, by go_num, by unfold Hid; rw [HR.out, HS.out], HQ6.out, HB7.out⟩
          case measure => simp [intOf]; omega
        · clear hc
          go_upto_region 11 with fail
          clear hop
          have hrt := HP.out.oh.rh; have hqf := HP.out.qf; have hgl := HP.out.lt; have sYs := Y.size; go_wp2_with fail; (with_reducible refine (implStepHeap_any _ hs x _ hrt).mono ?_); rintro e6 w6 ⟨v6, rfl, ⟨E, f, E', f', os6, rfl, hm6, hO6, hlo6⟩, hB6⟩; have x0 := cell_below p0 hB6; have x1 := cell_below p1 hB6; have xf : ∀ o, w6.frozen? ⟨w2.heap.size, o, none⟩ = false := (fun o => ((bcell hB6).2.1 _ _ hgl).trans (hqf o)); have xf0 := xf 0; have xf1 := xf 1; have hw6 : Below W0.heap.size W0 w6 := Y.trans (hB6.mono sYs); have HQ6 := Lib.hid ((HP.out.below hB6).over1 hm6 hO6 hlo6 sYs hgl); have HB7 := Lib.hid ((hw6.setCell (p := ⟨w2.heap.size, 0, none⟩) sY2 (.slice E (stepM hs x).1.cells.length f)).setCell (p := ⟨w2.heap.size, 1, none⟩) sY2 (.slice E' (stepM hs x).1.roots.length f')); clear hm6 hO6 hlo6 hB6 xf; go_wp2
          go_roundw
          case rel => exact ⟨k + 1, (stepM hs x).1, E, f, E', f', os6, by omega, by go_num, by unfold Hid; rw [HR.out, HS.out], HQ6.out, HB7.out⟩
          case measure => simp [intOf]; omega
    · have hke : l.length ≤ k := by omega
      have hge : ¬ (k : Int) < (l.length : Int) := by omega
      have HM : Hid (runMoveM copyHeapM l limit = (hs, true)) := by unfold Hid; rw [HR.out, moveFrom_end hke]
      obtain ⟨r0, r1, rf⟩ := HG0.out _ Y; have rf0 := rf 0; have rf1 := rf 1; clear rf
      have X := hW0.trans (Y.mono hW0.size)
      clear hke HR
      go_wp2_with fail
      refine bodyPost_ret (v := .tuple #[.agg #[.slice D hs.cells.length e, .slice D' hs.roots.length e'], .bool true]) (by simp [results, Try.results27, go_sem, r0, r1]) rfl ⟨_, by rw [HM.out], ?_, blw_⟩
      rw [HM.out]
      exact OH.lo_ (lo := w.heap.size + 1) (OH.setlt (OH.setlt (lo := w.heap.size + 1) ⟨D, e, D', e', os2, rfl, HQ.out.map, HQ.out.own, fun b hb => by have := HQ.out.los b hb; omega⟩ (by simp) _) (by simp) _) (by omega)
set_option maxHeartbeats 8000000 in
theorem runMovingSlide_any (A : Option Addr) (l : List CmdM) (c : Nat) (limit : Int) (w : World) (hv0 : RO w A l) (hl : l.length ≤ 9223372036854775807) :
    Calls Try.prog 27 #[.slice A l.length c, .int .i64 limit, .func (.func 35) #[] #[]] w fun e w' => ∃ v', e = .returned (.tuple #[v', .bool (runMoveM slideHeapM l limit).2]) ∧ OH w.heap.size w' v' (runMoveM slideHeapM l limit).1 ∧ Below w.heap.size w w' := by
  have HG0 : Hid (∀ W, Below ((w.alloc (.cells #[.slice none 0 0, .slice none 0 0] 29))).heap.size ((w.alloc (.cells #[.slice none 0 0, .slice none 0 0] 29))) W → (W.cell? ⟨w.heap.size, 0, none⟩ = some (.slice none 0 0) ∧ W.cell? ⟨w.heap.size, 1, none⟩ = some (.slice none 0 0) ∧ ∀ o, W.frozen? ⟨w.heap.size, o, none⟩ = false)) := fun W hW => ⟨cell_below (by simp [go_sem]) hW, cell_below (by simp [go_sem]) hW, fun o => ((bcell hW).2.1 _ _ (by simp)).trans (by simp [go_sem])⟩
  have hz0 : ((w.alloc (.cells #[.slice none 0 0, .slice none 0 0] 29))).heap.size = w.heap.size + 1 := by simp
  have hW0 : Below w.heap.size w ((w.alloc (.cells #[.slice none 0 0, .slice none 0 0] 29))) := blw_
  have hv := hv0.below hW0
  clear hv0
  cases hok : cmdsOk l
  · have HO := Lib.hid hok
    have HE := Lib.hid (runMove_bad (mv := slideHeapM) (l := l) (limit := limit) (by rw [hok]; rfl))
    clear hok
    go_enter Try.func27, Try.ntmps27; go_wp2_with fail; generalize ((w.alloc (.cells #[.slice none 0 0, .slice none 0 0] 29))) = W0 at *; (with_reducible refine (implCommandsValid_any A l c _ (hv.below blw_) hl).mono ?_); rw [HO.out]; rintro e w1 ⟨rfl, hB⟩; (have z_hB := Below.size hB); (try simp only [World.size_alloc, World.size_setCell, World.size_drew, World.heap_drewN] at z_hB); have Y : Below W0.heap.size W0 w1 := blw_; clear hB; have sY := Y.size
    obtain ⟨r0, r1, rf⟩ := HG0.out _ Y; have rf0 := rf 0; have rf1 := rf 1; clear rf
    go_wp2_with fail
    have X := hW0.trans (Y.mono hW0.size); refine bodyPost_ret (v := .tuple #[.agg #[.slice none 0 0, .slice none 0 0], .bool false]) (by simp [results, Try.results27, go_sem, r0, r1]) rfl ⟨_, by rw [HE.out], ?_, blw_⟩; rw [HE.out]; exact OH.zero
  have HO := Lib.hid hok
  cases hli : inB 1 limit 40
  · have HL := Lib.hid hli
    have HE := Lib.hid (runMove_bad (mv := slideHeapM) (l := l) (limit := limit) (by rw [hok, hli]; rfl))
    clear hok hli
    go_enter Try.func27, Try.ntmps27; go_wp2_with fail; generalize ((w.alloc (.cells #[.slice none 0 0, .slice none 0 0] 29))) = W0 at *; (with_reducible refine (implCommandsValid_any A l c _ (hv.below blw_) hl).mono ?_); rw [HO.out]; rintro e w1 ⟨rfl, hB⟩; (have z_hB := Below.size hB); (try simp only [World.size_alloc, World.size_setCell, World.size_drew, World.heap_drewN] at z_hB); have Y : Below W0.heap.size W0 w1 := blw_; clear hB; have sY := Y.size
    obtain ⟨r0, r1, rf⟩ := HG0.out _ Y; have rf0 := rf 0; have rf1 := rf 1; clear rf
    go_wp2_with fail
    ((with_reducible refine (isLim_any limit _).mono ?_); rw [HL.out]; rintro e w8 ⟨rfl, rfl⟩)
    go_wp2_with fail
    have X := hW0.trans (Y.mono hW0.size); refine bodyPost_ret (v := .tuple #[.agg #[.slice none 0 0, .slice none 0 0], .bool false]) (by simp [results, Try.results27, go_sem, r0, r1]) rfl ⟨_, by rw [HE.out], ?_, blw_⟩; rw [HE.out]; exact OH.zero
  have HL := Lib.hid hli
  have HE := Lib.hid (runMove_ok (mv := slideHeapM) hok hli)
  have hl40 : l.length ≤ 40 := by unfold cmdsOk at hok; simp only [Bool.and_eq_true, decide_eq_true_eq] at hok; exact hok.1
  clear hok hli
  go_enter Try.func27, Try.ntmps27; go_wp2_with fail; generalize ((w.alloc (.cells #[.slice none 0 0, .slice none 0 0] 29))) = W0 at *; (with_reducible refine (implCommandsValid_any A l c _ (hv.below blw_) hl).mono ?_); rw [HO.out]; rintro e w1 ⟨rfl, hB⟩; (have z_hB := Below.size hB); (try simp only [World.size_alloc, World.size_setCell, World.size_drew, World.heap_drewN] at z_hB); have Y : Below W0.heap.size W0 w1 := blw_; clear hB; have sY := Y.size
  go_wp2_with fail
  ((with_reducible refine (isLim_any limit _).mono ?_); rw [HL.out]; rintro e w8 ⟨rfl, rfl⟩)
  go_wp2_with fail
  (with_reducible refine (implEmptyHeap_any _).mono ?_)
  rintro e w2 ⟨v2, rfl, ⟨B, d, B', d', os, rfl, hm, hO, hlo⟩, hB2⟩
  have Y2 : Below W0.heap.size W0 w2 := blw_
  have sY2 := Y2.size
  have hlo2 : ∀ b ∈ hblks B os B', W0.heap.size ≤ b := fun b hb => by have h7 := hlo b hb; (try simp only [World.size_alloc, World.size_setCell, World.size_drew, World.heap_drewN] at h7); omega
  have HP := Lib.hid (PHx.mk_ (h := emptyM) (lo := W0.heap.size) (w := w2) (c := d) (c' := d') hm hO hlo2 sY2 29)
  have HY2 := Lib.hid (Y2.alloc sY2 (.cells #[.slice B emptyM.cells.length d, .slice B' emptyM.roots.length d'] 29))
  clear hm hO hlo hlo2 hB2 Y
  go_wp2
  go_loopw [23] (fun i wr => ∃ (k : Nat) (hs : HeapM) (D : Option Addr) (e : Nat) (D' : Option Addr) (e' : Nat) (os2 : List OCell), k ≤ l.length ∧ i = .int .i64 k ∧ Hid (runMoveM slideHeapM l limit = moveFrom slideHeapM limit hs (l.drop k)) ∧ PHx W0.heap.size wr w2.heap.size hs D e D' e' os2 ∧ Below W0.heap.size W0 wr) (fun i _ => l.length - (intOf i).toNat)
  case atStart => exact ⟨0, emptyM, B, d, B', d', os, by omega, rfl, HE, HP.out, HY2.out⟩
  case round =>
    clear HP HY2 Y2
    obtain ⟨k, hs, D, e, D', e', os2, hk, rfl, HR, hQ, Y⟩ := hrel
    have sY := Y.size
    have hqz := hQ.lt
    have q0 := hQ.q0
    have q1 := hQ.q1
    have HQ := Lib.hid hQ
    clear hQ
    by_cases hlt : k < l.length
    · obtain ⟨b, o, x, rfl, gx, c1, c2, c3, c4, hb⟩ := (hv.below Y).at_ hlt
      have HGX := Lib.hid gx
      have hlt' : (k : Int) < (l.length : Int) := by omega
      have hzc : wr.heap.size ≠ w2.heap.size := by omega
      have hzc2 : w2.heap.size ≠ wr.heap.size := by omega
      clear gx
      rcases Classical.em (x.op = 1 ∧ limit ≤ (hs.cells.length : Int)) with hc | hc
      · obtain ⟨hop0, hge0⟩ := hc
        have HC := Lib.hid (⟨hop0, hge0⟩ : x.op = 1 ∧ limit ≤ (hs.cells.length : Int))
        have HP := Lib.hid (HQ.out.below (show Below wr.heap.size wr (wr.alloc (.cells #[.int .i64 x.op, .int .i64 x.a, .int .i64 x.b, .int .i64 x.c] 62)) from blw_))
        have Y3 : Below W0.heap.size W0 (wr.alloc (.cells #[.int .i64 x.op, .int .i64 x.a, .int .i64 x.b, .int .i64 x.c] 62)) := Y.alloc sY _
        have hws : wr.heap.size < (wr.alloc (.cells #[.int .i64 x.op, .int .i64 x.a, .int .i64 x.b, .int .i64 x.c] 62)).heap.size := by simp
        clear hop0 hge0
        have m0 : (wr.alloc (.cells #[.int .i64 x.op, .int .i64 x.a, .int .i64 x.b, .int .i64 x.c] 62)).cell? ⟨wr.heap.size, 0, none⟩ = some (.int .i64 x.op) := by simp [go_sem]
        have m1 : (wr.alloc (.cells #[.int .i64 x.op, .int .i64 x.a, .int .i64 x.b, .int .i64 x.c] 62)).cell? ⟨wr.heap.size, 1, none⟩ = some (.int .i64 x.a) := by simp [go_sem]
        have m2 : (wr.alloc (.cells #[.int .i64 x.op, .int .i64 x.a, .int .i64 x.b, .int .i64 x.c] 62)).cell? ⟨wr.heap.size, 2, none⟩ = some (.int .i64 x.b) := by simp [go_sem]
        have m3 : (wr.alloc (.cells #[.int .i64 x.op, .int .i64 x.a, .int .i64 x.b, .int .i64 x.c] 62)).cell? ⟨wr.heap.size, 3, none⟩ = some (.int .i64 x.c) := by simp [go_sem]
        go_upto_region 7 with fail
        generalize (wr.alloc (.cells #[.int .i64 x.op, .int .i64 x.a, .int .i64 x.b, .int .i64 x.c] 62)) = wb at *
        clear Y q0 q1
        have Y := Y3
        clear Y3
        have p0 := HP.out.q0
        have p1 := HP.out.q1
        have hop := HC.out.1
        have hge := HC.out.2
        go_wp2_with fail
        clear hop hge
        have hrt := HP.out.oh.rh
        have hqf := HP.out.qf
        have hgl := HP.out.lt
        have sYs := Y.size
        (with_reducible refine (implSlideHeap_any _ hs _ hrt).mono ?_)
        rintro e5 w5 ⟨v5, rfl, ⟨G, g, G', g', os5, rfl, hm5, hO5, hlo5⟩, hB5⟩
        have x0 := cell_below p0 hB5
        have x1 := cell_below p1 hB5
        have xf : ∀ o, w5.frozen? ⟨w2.heap.size, o, none⟩ = false := fun o => ((bcell hB5).2.1 _ _ hgl).trans (hqf o)
        have xf0 := xf 0
        have xf1 := xf 1
        have hw5 : Below W0.heap.size W0 w5 := Y.trans (hB5.mono sYs)
        have HQ5 := Lib.hid ((HP.out.below hB5).over1 hm5 hO5 hlo5 sYs hgl)
        have HB6 := Lib.hid ((hw5.setCell (p := ⟨w2.heap.size, 0, none⟩) sY2 (.slice G (slideHeapM hs).cells.length g)).setCell (p := ⟨w2.heap.size, 1, none⟩) sY2 (.slice G' (slideHeapM hs).roots.length g'))
        have n0 := cell_below m0 hB5
        have n1 := cell_below m1 hB5
        have n2 := cell_below m2 hB5
        have n3 := cell_below m3 hB5
        clear hm5 hO5 hlo5 xf hB5 m0 m1 m2 m3 Y
        go_upto_region 9 with fail
        refine wp_genM (fun W => PHx W0.heap.size W w2.heap.size (slideHeapM hs) G g G' g' os5 ∧ (W.cell? ⟨wr.heap.size, 0, none⟩ = some (.int .i64 x.op) ∧ W.cell? ⟨wr.heap.size, 1, none⟩ = some (.int .i64 x.a) ∧ W.cell? ⟨wr.heap.size, 2, none⟩ = some (.int .i64 x.b) ∧ W.cell? ⟨wr.heap.size, 3, none⟩ = some (.int .i64 x.c)) ∧ Below W0.heap.size W0 W) ⟨HQ5.out, ⟨by simp [go_sem, n0, hzc, hzc2], by simp [go_sem, n1, hzc, hzc2], by simp [go_sem, n2, hzc, hzc2], by simp [go_sem, n3, hzc, hzc2]⟩, HB6.out⟩ ?_
        clear HP HQ5 HB6 hw5 x0 x1 xf0 xf1 p0 p1 hrt hqf hgl n0 n1 n2 n3 sYs
        rintro WS ⟨hP, ⟨m0, m1, m2, m3⟩, Y⟩
        have HP := Lib.hid hP
        clear hP
        have p0 := HP.out.q0
        have p1 := HP.out.q1
        rcases Classical.em (limit ≤ (((slideHeapM hs).cells.length : Nat) : Int)) with hl2 | hl2
        · have HM : Hid (runMoveM slideHeapM l limit = (slideHeapM hs, false)) := by unfold Hid; rw [HR.out, moveFrom_stop HGX.out HC.out hl2]
          have sYs := Y.size
          obtain ⟨r0, r1, rf⟩ := HG0.out _ Y; have rf0 := rf 0; have rf1 := rf 1; clear rf
          have X := hW0.trans (Y.mono hW0.size)
          go_wp2_with fail
          refine bodyPost_ret (v := .tuple #[.agg #[.slice G (slideHeapM hs).cells.length g, .slice G' (slideHeapM hs).roots.length g'], .bool false]) (by simp [results, Try.results27, go_sem, r0, r1]) rfl ⟨_, by rw [HM.out], ?_, blw_⟩
          rw [HM.out]
          exact OH.lo_ (lo := w.heap.size + 1) (OH.setlt (OH.setlt (lo := w.heap.size + 1) ⟨G, g, G', g', os5, rfl, HP.out.map, HP.out.own, fun b hb => by have := HP.out.los b hb; omega⟩ (by simp) _) (by simp) _) (by omega)
        · have HS := Lib.hid (moveFrom_move (mv := slideHeapM) HGX.out HC.out hl2)
          obtain ⟨hs2, hhs2⟩ : ∃ hs2, hs2 = slideHeapM hs := ⟨_, rfl⟩
          rw [← hhs2] at HS HP p0 p1 hl2
          clear hhs2
          go_upto_region 11 with fail
          clear hl2
          have hrt := HP.out.oh.rh; have hqf := HP.out.qf; have hgl := HP.out.lt; have sYs := Y.size; go_wp2_with fail; (with_reducible refine (implStepHeap_any _ hs2 x _ hrt).mono ?_); rintro e6 w6 ⟨v6, rfl, ⟨E, f, E', f', os6, rfl, hm6, hO6, hlo6⟩, hB6⟩; have x0 := cell_below p0 hB6; have x1 := cell_below p1 hB6; have xf : ∀ o, w6.frozen? ⟨w2.heap.size, o, none⟩ = false := (fun o => ((bcell hB6).2.1 _ _ hgl).trans (hqf o)); have xf0 := xf 0; have xf1 := xf 1; have hw6 : Below W0.heap.size W0 w6 := Y.trans (hB6.mono sYs); have HQ6 := Lib.hid ((HP.out.below hB6).over1 hm6 hO6 hlo6 sYs hgl); have HB7 := Lib.hid ((hw6.setCell (p := ⟨w2.heap.size, 0, none⟩) sY2 (.slice E (stepM hs2 x).1.cells.length f)).setCell (p := ⟨w2.heap.size, 1, none⟩) sY2 (.slice E' (stepM hs2 x).1.roots.length f')); clear hm6 hO6 hlo6 hB6 xf; go_wp2
          go_roundw
          case rel => exact ⟨k + 1, (stepM hs2 x).1, E, f, E', f', os6, by omega, by go_num, by unfold Hid; rw [HR.out, HS.out], HQ6.out, HB7.out⟩
          case measure => simp [intOf]; omega
      · have HS := Lib.hid (moveFrom_go (mv := slideHeapM) HGX.out hc)
        have HP := Lib.hid (HQ.out.below (show Below wr.heap.size wr (wr.alloc (.cells #[.int .i64 x.op, .int .i64 x.a, .int .i64 x.b, .int .i64 x.c] 62)) from blw_))
        have Y3 : Below W0.heap.size W0 (wr.alloc (.cells #[.int .i64 x.op, .int .i64 x.a, .int .i64 x.b, .int .i64 x.c] 62)) := Y.alloc sY _
        have m0 : (wr.alloc (.cells #[.int .i64 x.op, .int .i64 x.a, .int .i64 x.b, .int .i64 x.c] 62)).cell? ⟨wr.heap.size, 0, none⟩ = some (.int .i64 x.op) := by simp [go_sem]
        have m1 : (wr.alloc (.cells #[.int .i64 x.op, .int .i64 x.a, .int .i64 x.b, .int .i64 x.c] 62)).cell? ⟨wr.heap.size, 1, none⟩ = some (.int .i64 x.a) := by simp [go_sem]
        have m2 : (wr.alloc (.cells #[.int .i64 x.op, .int .i64 x.a, .int .i64 x.b, .int .i64 x.c] 62)).cell? ⟨wr.heap.size, 2, none⟩ = some (.int .i64 x.b) := by simp [go_sem]
        have m3 : (wr.alloc (.cells #[.int .i64 x.op, .int .i64 x.a, .int .i64 x.b, .int .i64 x.c] 62)).cell? ⟨wr.heap.size, 3, none⟩ = some (.int .i64 x.c) := by simp [go_sem]
        go_upto_region 7 with fail
        generalize (wr.alloc (.cells #[.int .i64 x.op, .int .i64 x.a, .int .i64 x.b, .int .i64 x.c] 62)) = wb at *
        clear Y q0 q1
        have Y := Y3
        clear Y3
        have p0 := HP.out.q0
        have p1 := HP.out.q1
        rcases Classical.em (x.op = 1) with hop | hop
        · have hge : ¬ limit ≤ (hs.cells.length : Int) := fun h9 => hc ⟨hop, h9⟩
          clear hc
          go_upto_region 11 with fail
          clear hop hge
          have hrt := HP.out.oh.rh; have hqf := HP.out.qf; have hgl := HP.out.lt; have sYs := Y.size; go_wp2_with fail; (with_reducible refine (implStepHeap_any _ hs x _ hrt).mono ?_); rintro e6 w6 ⟨v6, rfl, ⟨E, f, E', f', os6, rfl, hm6, hO6, hlo6⟩, hB6⟩; have x0 := cell_below p0 hB6; have x1 := cell_below p1 hB6; have xf : ∀ o, w6.frozen? ⟨w2.heap.size, o, none⟩ = false := (fun o => ((bcell hB6).2.1 _ _ hgl).trans (hqf o)); have xf0 := xf 0; have xf1 := xf 1; have hw6 : Below W0.heap.size W0 w6 := Y.trans (hB6.mono sYs); have HQ6 := Lib.hid ((HP.out.below hB6).over1 hm6 hO6 hlo6 sYs hgl); have HB7 := Lib.hid ((hw6.setCell (p := ⟨w2.heap.size, 0, none⟩) sY2 (.slice E (stepM hs x).1.cells.length f)).setCell (p := ⟨w2.heap.size, 1, none⟩) sY2 (.slice E' (stepM hs x).1.roots.length f')); clear hm6 hO6 hlo6 hB6 xf; go_wp2
          go_roundw
          case rel => exact ⟨k + 1, (stepM hs x).1, E, f, E', f', os6, by omega, by go_num, by unfold Hid; rw [HR.out, HS.out], HQ6.out, HB7.out⟩
          case measure => simp [intOf]; omega
        · clear hc
          go_upto_region 11 with fail
          clear hop
          have hrt := HP.out.oh.rh; have hqf := HP.out.qf; have hgl := HP.out.lt; have sYs := Y.size; go_wp2_with fail; (with_reducible refine (implStepHeap_any _ hs x _ hrt).mono ?_); rintro e6 w6 ⟨v6, rfl, ⟨E, f, E', f', os6, rfl, hm6, hO6, hlo6⟩, hB6⟩; have x0 := cell_below p0 hB6; have x1 := cell_below p1 hB6; have xf : ∀ o, w6.frozen? ⟨w2.heap.size, o, none⟩ = false := (fun o => ((bcell hB6).2.1 _ _ hgl).trans (hqf o)); have xf0 := xf 0; have xf1 := xf 1; have hw6 : Below W0.heap.size W0 w6 := Y.trans (hB6.mono sYs); have HQ6 := Lib.hid ((HP.out.below hB6).over1 hm6 hO6 hlo6 sYs hgl); have HB7 := Lib.hid ((hw6.setCell (p := ⟨w2.heap.size, 0, none⟩) sY2 (.slice E (stepM hs x).1.cells.length f)).setCell (p := ⟨w2.heap.size, 1, none⟩) sY2 (.slice E' (stepM hs x).1.roots.length f')); clear hm6 hO6 hlo6 hB6 xf; go_wp2
          go_roundw
          case rel => exact ⟨k + 1, (stepM hs x).1, E, f, E', f', os6, by omega, by go_num, by unfold Hid; rw [HR.out, HS.out], HQ6.out, HB7.out⟩
          case measure => simp [intOf]; omega
    · have hke : l.length ≤ k := by omega
      have hge : ¬ (k : Int) < (l.length : Int) := by omega
      have HM : Hid (runMoveM slideHeapM l limit = (hs, true)) := by unfold Hid; rw [HR.out, moveFrom_end hke]
      obtain ⟨r0, r1, rf⟩ := HG0.out _ Y; have rf0 := rf 0; have rf1 := rf 1; clear rf
      have X := hW0.trans (Y.mono hW0.size)
      clear hke HR
      go_wp2_with fail
      refine bodyPost_ret (v := .tuple #[.agg #[.slice D hs.cells.length e, .slice D' hs.roots.length e'], .bool true]) (by simp [results, Try.results27, go_sem, r0, r1]) rfl ⟨_, by rw [HM.out], ?_, blw_⟩
      rw [HM.out]
      exact OH.lo_ (lo := w.heap.size + 1) (OH.setlt (OH.setlt (lo := w.heap.size + 1) ⟨D, e, D', e', os2, rfl, HQ.out.map, HQ.out.own, fun b hb => by have := HQ.out.los b hb; omega⟩ (by simp) _) (by simp) _) (by omega)
end Go.Proofs.Ytmlgndeihfpfgaa

/- RunCopy and RunSlide of the program. -/
namespace Go.Proofs.Ytmlgndeihfpfgaa
open Go.RowKit
set_option maxRecDepth 100000
set_option linter.unusedSimpArgs false
set_option linter.unusedVariables false
set_option maxHeartbeats 4000000 in
theorem implRunCopy_any (A : Option Addr) (l : List CmdM) (c : Nat) (limit : Int) (w : World) (hv0 : RO w A l) (hl : l.length ≤ 9223372036854775807) :
    Calls Try.prog 7 #[.slice A l.length c, .int .i64 limit] w fun e w' => ∃ v', e = .returned (.tuple #[v', .bool (runMoveM copyHeapM l limit).2]) ∧ OH w.heap.size w' v' (runMoveM copyHeapM l limit).1 ∧ Below w.heap.size w w' := by
  have HG0 : Hid (∀ W, Below ((w.alloc (.cells #[.slice none 0 0, .slice none 0 0] 29))).heap.size ((w.alloc (.cells #[.slice none 0 0, .slice none 0 0] 29))) W → (W.cell? ⟨w.heap.size, 0, none⟩ = some (.slice none 0 0) ∧ W.cell? ⟨w.heap.size, 1, none⟩ = some (.slice none 0 0) ∧ ∀ o, W.frozen? ⟨w.heap.size, o, none⟩ = false)) := fun W hW => ⟨cell_below (by simp [go_sem]) hW, cell_below (by simp [go_sem]) hW, fun o => ((bcell hW).2.1 _ _ (by simp)).trans (by simp [go_sem])⟩
  have hz0 : ((w.alloc (.cells #[.slice none 0 0, .slice none 0 0] 29))).heap.size = w.heap.size + 1 := by simp
  have hW0 : Below w.heap.size w ((w.alloc (.cells #[.slice none 0 0, .slice none 0 0] 29))) := blw_
  have hv := hv0.below hW0
  clear hv0
  go_enter Try.func7, Try.ntmps7
  go_wp2_with fail
  generalize ((w.alloc (.cells #[.slice none 0 0, .slice none 0 0] 29))) = W0 at *
  (with_reducible refine (runMovingCopy_any A l c limit _ (hv.below blw_) hl).mono ?_)
  rintro e w2 ⟨v2, rfl, ⟨B, d, B', d', os, rfl, hm, hO, hlo⟩, hB⟩
  have Y : Below W0.heap.size W0 w2 := hB
  have sY := Y.size
  obtain ⟨r0, r1, rf⟩ := HG0.out _ Y
  have rf0 := rf 0
  have rf1 := rf 1
  have X := hW0.trans (Y.mono hW0.size)
  have HOH : Hid (OH (w.heap.size + 1) w2 (.agg #[.slice B (runMoveM copyHeapM l limit).1.cells.length d, .slice B' (runMoveM copyHeapM l limit).1.roots.length d']) (runMoveM copyHeapM l limit).1) := ⟨B, d, B', d', os, rfl, hm, hO, fun b hb => by have := hlo b hb; omega⟩
  clear hm hO hlo hB Y rf
  go_wp2_with fail
  refine bodyPost_ret (v := .tuple #[.agg #[.slice B (runMoveM copyHeapM l limit).1.cells.length d, .slice B' (runMoveM copyHeapM l limit).1.roots.length d'], .bool (runMoveM copyHeapM l limit).2]) (by simp [results, Try.results7, go_sem, r0, r1]) rfl ⟨_, rfl, ?_, blw_⟩
  exact OH.lo_ (lo := w.heap.size + 1) (OH.setlt (OH.setlt HOH.out (by simp) _) (by simp) _) (by omega)
set_option maxHeartbeats 4000000 in
theorem implRunSlide_any (A : Option Addr) (l : List CmdM) (c : Nat) (limit : Int) (w : World) (hv0 : RO w A l) (hl : l.length ≤ 9223372036854775807) :
    Calls Try.prog 10 #[.slice A l.length c, .int .i64 limit] w fun e w' => ∃ v', e = .returned (.tuple #[v', .bool (runMoveM slideHeapM l limit).2]) ∧ OH w.heap.size w' v' (runMoveM slideHeapM l limit).1 ∧ Below w.heap.size w w' := by
  have HG0 : Hid (∀ W, Below ((w.alloc (.cells #[.slice none 0 0, .slice none 0 0] 29))).heap.size ((w.alloc (.cells #[.slice none 0 0, .slice none 0 0] 29))) W → (W.cell? ⟨w.heap.size, 0, none⟩ = some (.slice none 0 0) ∧ W.cell? ⟨w.heap.size, 1, none⟩ = some (.slice none 0 0) ∧ ∀ o, W.frozen? ⟨w.heap.size, o, none⟩ = false)) := fun W hW => ⟨cell_below (by simp [go_sem]) hW, cell_below (by simp [go_sem]) hW, fun o => ((bcell hW).2.1 _ _ (by simp)).trans (by simp [go_sem])⟩
  have hz0 : ((w.alloc (.cells #[.slice none 0 0, .slice none 0 0] 29))).heap.size = w.heap.size + 1 := by simp
  have hW0 : Below w.heap.size w ((w.alloc (.cells #[.slice none 0 0, .slice none 0 0] 29))) := blw_
  have hv := hv0.below hW0
  clear hv0
  go_enter Try.func10, Try.ntmps10
  go_wp2_with fail
  generalize ((w.alloc (.cells #[.slice none 0 0, .slice none 0 0] 29))) = W0 at *
  (with_reducible refine (runMovingSlide_any A l c limit _ (hv.below blw_) hl).mono ?_)
  rintro e w2 ⟨v2, rfl, ⟨B, d, B', d', os, rfl, hm, hO, hlo⟩, hB⟩
  have Y : Below W0.heap.size W0 w2 := hB
  have sY := Y.size
  obtain ⟨r0, r1, rf⟩ := HG0.out _ Y
  have rf0 := rf 0
  have rf1 := rf 1
  have X := hW0.trans (Y.mono hW0.size)
  have HOH : Hid (OH (w.heap.size + 1) w2 (.agg #[.slice B (runMoveM slideHeapM l limit).1.cells.length d, .slice B' (runMoveM slideHeapM l limit).1.roots.length d']) (runMoveM slideHeapM l limit).1) := ⟨B, d, B', d', os, rfl, hm, hO, fun b hb => by have := hlo b hb; omega⟩
  clear hm hO hlo hB Y rf
  go_wp2_with fail
  refine bodyPost_ret (v := .tuple #[.agg #[.slice B (runMoveM slideHeapM l limit).1.cells.length d, .slice B' (runMoveM slideHeapM l limit).1.roots.length d'], .bool (runMoveM slideHeapM l limit).2]) (by simp [results, Try.results10, go_sem, r0, r1]) rfl ⟨_, rfl, ?_, blw_⟩
  exact OH.lo_ (lo := w.heap.size + 1) (OH.setlt (OH.setlt HOH.out (by simp) _) (by simp) _) (by omega)
end Go.Proofs.Ytmlgndeihfpfgaa
