/- A box of two flags' lists is overwritten by new memory. -/
import Derived.Test.YtmlgndeihfpfgaaChecked
import Derived.Test.YtmlgndeihfpfgaaGrSnap
namespace Go.Proofs.Ytmlgndeihfpfgaa
open Go.RowKit
set_option linter.unusedSimpArgs false
set_option linter.unusedVariables false
theorem PTx.over0 {lo l2 : Nat} {w : World} {g : Nat} {q : TwoM} {B B' B2 B3 : Option Addr} {d d' d2 d3 : Nat} {os2 : List OCell} {v0 v1 v2 v3 : Value} (k0 : w.cell? ⟨g, 0, none⟩ = some v0) (k1 : w.cell? ⟨g, 1, none⟩ = some v1) (k2 : w.cell? ⟨g, 2, none⟩ = some v2) (k3 : w.cell? ⟨g, 3, none⟩ = some v3) (kf : ∀ o, w.frozen? ⟨g, o, none⟩ = false) (hm : os2.map (·.c) = q.store.cells) (ho : OHs w B d B' d' os2 q.store.roots) (hx : OF 4 fb w B2 d2 q.x) (hy : OF 4 fb w B3 d3 q.y)
    (hnd : (hblks B os2 B' ++ blk B2 ++ blk B3).Nodup) (hlo : ∀ b ∈ hblks B os2 B' ++ blk B2 ++ blk B3, l2 ≤ b) (hxl : q.x.length ≤ 9223372036854775807) (hyl : q.y.length ≤ 9223372036854775807) (hl2 : lo ≤ l2) (hlg : lo ≤ g) (hg : g < l2) :
    PTx lo ((((w.setCell ⟨g, 0, none⟩ (.slice B q.store.cells.length d)).setCell ⟨g, 1, none⟩ (.slice B' q.store.roots.length d')).setCell ⟨g, 2, none⟩ (.slice B2 q.x.length d2)).setCell ⟨g, 3, none⟩ (.slice B3 q.y.length d3)) g q B d B' d' os2 B2 d2 B3 d3 := by
  have hk : ∀ b ∈ hblks B os2 B' ++ blk B2 ++ blk B3, b ≠ g := fun b hb e => by have := hlo b hb; omega
  have hlt : g < w.heap.size := World.block_lt_of_cell? w _ k0
  refine ⟨by simp [go_sem, k0, k1, k2, k3], by simp [go_sem, k0, k1, k2, k3], by simp [go_sem, k0, k1, k2, k3], by simp [go_sem, k0, k1, k2, k3], fun o => by simp [go_sem, kf o], hlg, by simpa using hlt, fun hc => by have := hlo g hc; omega, hm, ?_, ?_, ?_, hnd, fun b hb => Nat.le_trans hl2 (hlo b hb), hxl, hyl⟩
  · exact ho.keep fun b hb => by have := hk b (List.mem_append.2 (.inl (List.mem_append.2 (.inl hb)))); rw [heap_setCell_ne _ _ _ this, heap_setCell_ne _ _ _ this, heap_setCell_ne _ _ _ this, heap_setCell_ne _ _ _ this]
  · exact hx.keep fun b hb => by have := hk b (List.mem_append.2 (.inl (List.mem_append.2 (.inr hb)))); rw [heap_setCell_ne _ _ _ this, heap_setCell_ne _ _ _ this, heap_setCell_ne _ _ _ this, heap_setCell_ne _ _ _ this]
  · exact hy.keep fun b hb => by have := hk b (List.mem_append.2 (.inr hb)); rw [heap_setCell_ne _ _ _ this, heap_setCell_ne _ _ _ this, heap_setCell_ne _ _ _ this, heap_setCell_ne _ _ _ this]
theorem PTx.over1 {lo l2 : Nat} {w : World} {g : Nat} {p q : TwoM} {A A' A2 A3 B B' B2 B3 : Option Addr} {c c' c2 c3 d d' d2 d3 : Nat} {os os2 : List OCell} (h : PTx lo w g p A c A' c' os A2 c2 A3 c3) (hm : os2.map (·.c) = q.store.cells) (ho : OHs w B d B' d' os2 q.store.roots) (hx : OF 4 fb w B2 d2 q.x) (hy : OF 4 fb w B3 d3 q.y)
    (hnd : (hblks B os2 B' ++ blk B2 ++ blk B3).Nodup) (hlo : ∀ b ∈ hblks B os2 B' ++ blk B2 ++ blk B3, l2 ≤ b) (hxl : q.x.length ≤ 9223372036854775807) (hyl : q.y.length ≤ 9223372036854775807) (hl2 : lo ≤ l2) (hg : g < l2) :
    PTx lo ((((w.setCell ⟨g, 0, none⟩ (.slice B q.store.cells.length d)).setCell ⟨g, 1, none⟩ (.slice B' q.store.roots.length d')).setCell ⟨g, 2, none⟩ (.slice B2 q.x.length d2)).setCell ⟨g, 3, none⟩ (.slice B3 q.y.length d3)) g q B d B' d' os2 B2 d2 B3 d3 :=
  PTx.over0 h.q0 h.q1 h.q2 h.q3 h.qf hm ho hx hy hnd hlo hxl hyl hl2 h.lo_ hg
end Go.Proofs.Ytmlgndeihfpfgaa
