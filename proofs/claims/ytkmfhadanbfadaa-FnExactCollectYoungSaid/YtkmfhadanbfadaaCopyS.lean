/- The reference's copy of a heap. -/
import Derived.Test.YtkmfhadanbfadaaChecked
import Derived.Deep.RegionHeld3
import Derived.Deep.DeepCutAuto
import Derived.IntWalk
import Derived.Test.YtkmfhadanbfadaaCopy
namespace Go.Proofs.Ytkmfhadanbfadaa
open Go.RowKit
set_option maxRecDepth 100000
set_option linter.unusedSimpArgs false
set_option linter.unusedVariables false

theorem below_at {B : Nat} {w w' : World} (h : Below B w w') (b o : Nat) (hb : b < B) : w'.cell? ⟨b, o, none⟩ = w.cell? ⟨b, o, none⟩ := h.cell (p := ⟨b, o, none⟩) hb
theorem OF.fresh {α : Type} {T : TypeId} {f : α → Value} {w : World} {g : Nat} (hg : g = w.heap.size) : OF T f (w.alloc (.cells #[] T)) (some ⟨g, 0, none⟩) 0 ([] : List α) := by
  subst hg
  exact OF.empty (zs := []) rfl (Nat.zero_le _)
theorem OC.nil_ {w : World} : OC w none 0 [] := ⟨World.ownsRow_nil w 0 114 3, fun o ho => by cases ho⟩
set_option maxHeartbeats 4000000 in
theorem l7Copy_any (v : Value) (h : HeapM) (w : World) (hv : RH w v h) (hn : h.cells.length ≤ 1048576) (hr : ∀ d ∈ h.cells, d.refs.length ≤ 1048576) (hn2 : h.roots.length ≤ 1048576) :
    Calls Try.prog 119 #[v] w fun e w' => ∃ v', e = .returned v' ∧ OH w.heap.size w' v' h ∧ Below w.heap.size w w' := by
  obtain ⟨A, c, A', c', rfl, hc, hrr, -, -⟩ := hv
  have k0 : ((w.alloc (.cells #[.slice A h.cells.length c, .slice A' h.roots.length c'] 32)).alloc (.cells #[.slice none 0 0, .slice none 0 0] 32)).cell? ⟨w.heap.size, 0, none⟩ = some (.slice A h.cells.length c) := by simp [go_sem]
  have k2 : ((w.alloc (.cells #[.slice A h.cells.length c, .slice A' h.roots.length c'] 32)).alloc (.cells #[.slice none 0 0, .slice none 0 0] 32)).cell? ⟨w.heap.size + 1, 0, none⟩ = some (.slice none 0 0) := by simp [go_sem]
  have k3 : ((w.alloc (.cells #[.slice A h.cells.length c, .slice A' h.roots.length c'] 32)).alloc (.cells #[.slice none 0 0, .slice none 0 0] 32)).cell? ⟨w.heap.size + 1, 1, none⟩ = some (.slice none 0 0) := by simp [go_sem]
  have k4 : ((w.alloc (.cells #[.slice A h.cells.length c, .slice A' h.roots.length c'] 32)).alloc (.cells #[.slice none 0 0, .slice none 0 0] 32)).frozen? ⟨w.heap.size + 1, 0, none⟩ = false := by simp [go_sem]
  have k5 : ((w.alloc (.cells #[.slice A h.cells.length c, .slice A' h.roots.length c'] 32)).alloc (.cells #[.slice none 0 0, .slice none 0 0] 32)).frozen? ⟨w.heap.size + 1, 1, none⟩ = false := by simp [go_sem]
  go_enter Try.func119, Try.ntmps119
  go_wp2_with (at_builtin; refine wpList_appi rfl (.tmp 5) (.tmp 7) rfl [] rfl rfl (OF.fresh (by simp)) (hrr.below (by repeat (first | ((with_reducible refine Below.setc ?_ ?_ _); focus (first | omega | (simp; done) | (simp; omega))) | ((with_reducible refine Below.allocc ?_ ?_ _); focus (first | omega | (simp; done) | (simp; omega))) | (with_reducible refine Below.drew ?_) | (with_reducible refine Below.drewn ?_) | (with_reducible assumption) | (with_reducible exact Below.refl _ _) | ((with_reducible refine Below.stepp (by with_reducible assumption) ?_ ?_); focus (first | omega | (simp; done) | (simp; omega)))))) (by simp; omega) ?_; intro S k w1 hR hOn hgS; have hB1 : Below (w.heap.size + 2) ((w.alloc (.cells #[.slice A h.cells.length c, .slice A' h.roots.length c'] 32)).alloc (.cells #[.slice none 0 0, .slice none 0 0] 32)) w1 := Below.trans (by repeat (first | ((with_reducible refine Below.setc ?_ ?_ _); focus (first | omega | (simp; done) | (simp; omega))) | ((with_reducible refine Below.allocc ?_ ?_ _); focus (first | omega | (simp; done) | (simp; omega))) | (with_reducible refine Below.drew ?_) | (with_reducible refine Below.drewn ?_) | (with_reducible assumption) | (with_reducible exact Below.refl _ _) | ((with_reducible refine Below.stepp (by with_reducible assumption) ?_ ?_); focus (first | omega | (simp; done) | (simp; omega))))) (hOn.below (by first | omega | (simp; done) | (simp; omega)) (fun g hg => by rw [mem_blk_some hg]; simp)); have hgS2 : ∀ g ∈ blk S, w.heap.size + 2 ≤ g := (fun g hg => by rcases hgS g hg with hh | hh; (rw [mem_blk_some hh]; simp); (simp at hh; omega)); clear hOn hgS)
  rw [List.nil_append] at hR
  have hlt1 := hR.lt
  have z1 := hB1.size
  simp at z1
  go_loopw [4] (fun i wr => ∃ (j : Nat) (os : List OCell) (SA : Option Addr) (c1 : Nat), j ≤ h.cells.length ∧ i = .int .i64 j ∧ Hid (os.map (·.c) = h.cells.take j) ∧ wr.cell? ⟨w1.heap.size, 0, none⟩ = some (.slice SA os.length c1) ∧ wr.cell? ⟨w1.heap.size, 1, none⟩ = some (.slice S h.roots.length k) ∧
    wr.frozen? ⟨w1.heap.size, 0, none⟩ = false ∧ OHs wr SA c1 S k os h.roots ∧ (∀ x ∈ hblks SA os S, w.heap.size + 2 ≤ x ∧ x ≠ w1.heap.size) ∧ w1.heap.size < wr.heap.size ∧ Below (w.heap.size + 2) ((w.alloc (.cells #[.slice A h.cells.length c, .slice A' h.roots.length c'] 32)).alloc (.cells #[.slice none 0 0, .slice none 0 0] 32)) wr) (fun i _ => h.cells.length - (intOf i).toNat)
  case atStart =>
    refine ⟨0, [], none, 0, by omega, rfl, rfl, by simp [go_sem], by simp [go_sem], by simp [go_sem], ⟨OC.nil_, hR.below (by repeat (first | ((with_reducible refine Below.setc ?_ ?_ _); focus (first | omega | (simp; done) | (simp; omega))) | ((with_reducible refine Below.allocc ?_ ?_ _); focus (first | omega | (simp; done) | (simp; omega))) | (with_reducible refine Below.drew ?_) | (with_reducible refine Below.drewn ?_) | (with_reducible assumption) | (with_reducible exact Below.refl _ _) | ((with_reducible refine Below.stepp (by with_reducible assumption) ?_ ?_); focus (first | omega | (simp; done) | (simp; omega))))), ?_, by simp, by omega⟩, ?_, by simp, (by repeat (first | ((with_reducible refine Below.setc ?_ ?_ _); focus (first | omega | (simp; done) | (simp; omega))) | ((with_reducible refine Below.allocc ?_ ?_ _); focus (first | omega | (simp; done) | (simp; omega))) | (with_reducible refine Below.drew ?_) | (with_reducible refine Below.drewn ?_) | (with_reducible assumption) | (with_reducible exact Below.refl _ _) | ((with_reducible refine Below.stepp (by with_reducible assumption) ?_ ?_); focus (first | omega | (simp; done) | (simp; omega)))))⟩
    · simpa [blks, blk] using blk_nodup S
    · intro g hg
      simp [hblks, blks, blk] at hg
      have := hlt1 g (by simpa [blk] using hg)
      have := hgS2 g (by simpa [blk] using hg)
      omega
  case round =>
    obtain ⟨j, os, SA, c1, hj, rfl, HM, q0, q1, q2, hO, hlo, hb3w, hB⟩ := hrel
    have hBw : Below w.heap.size w wr := Below.trans (by repeat (first | ((with_reducible refine Below.setc ?_ ?_ _); focus (first | omega | (simp; done) | (simp; omega))) | ((with_reducible refine Below.allocc ?_ ?_ _); focus (first | omega | (simp; done) | (simp; omega))) | (with_reducible refine Below.drew ?_) | (with_reducible refine Below.drewn ?_) | (with_reducible assumption) | (with_reducible exact Below.refl _ _) | ((with_reducible refine Below.stepp (by with_reducible assumption) ?_ ?_); focus (first | omega | (simp; done) | (simp; omega))))) (hB.mono (by omega))
    have hjl : os.length = j := by have := congrArg List.length HM.out; simp at this; omega
    have hzw : w.heap.size + 1 < wr.heap.size := by omega
    have kk := cell_below k0 (hB.mono (by simp))
    by_cases hlt : j < h.cells.length
    · obtain ⟨b, o, x, Ar, cr, rfl, gx, x0, x1, x2, hrx, hlx, hb⟩ := hc.at_ hlt
      have hrl := hr x (List.mem_of_getElem? gx)
      have hrw := hrx.below hBw
      have hk : ∀ W, Below (w.heap.size + 2) wr W → W.cell? ⟨w.heap.size, 0, none⟩ = some (.slice (some ⟨b, o, none⟩) h.cells.length c) ∧ W.cell? ⟨b, o + j * 3, none⟩ = some (.bool x.used) ∧ W.cell? ⟨b, o + j * 3 + 1, none⟩ = some (.int .i64 x.data) ∧ W.cell? ⟨b, o + j * 3 + 2, none⟩ = some (.slice Ar x.refs.length cr) :=
        fun W hW => ⟨(below_at hW _ _ (by simp)).trans kk, (below_at hW _ _ (by omega)).trans (cell_below x0 hBw), (below_at hW _ _ (by omega)).trans (cell_below x1 hBw), (below_at hW _ _ (by omega)).trans (cell_below x2 hBw)⟩
      have GX := Lib.hid gx
      have HB := Lib.hid hB
      have HW := Lib.hid hBw
      have hol : os.length ≤ 1099511627776 := by omega
      have HJ := Lib.hid hjl
      have u0 : wr.heap.size ∉ blk SA := fun hx => absurd (hO.cells.lt _ (List.mem_append.2 (.inl hx))) (by omega)
      have u1 : w1.heap.size ∉ blk SA := fun hx => (hlo _ (List.mem_append.2 (.inl (List.mem_append.2 (.inl hx))))).2 rfl
      clear gx hB hBw k0 k2 k3 k4 k5 hc hrr hjl hB1 x0 x1 x2 hrx
      go_upto_region 5 with fail
      change Code.wp _ (Code.region _ #[_, id _, _, _, _, _, _, _, _, _, _, _, _, _, _, _, _, _, _, _, _, _, _, _, _, _, _] true) _ _ _
      go_region_held3 (fun w' => w'.cell? ⟨w.heap.size, 0, none⟩ = some (.slice (some ⟨b, o, none⟩) h.cells.length c) ∧ w'.cell? ⟨b, o + j * 3, none⟩ = some (.bool x.used) ∧ w'.cell? ⟨b, o + j * 3 + 1, none⟩ = some (.int .i64 x.data) ∧ w'.cell? ⟨b, o + j * 3 + 2, none⟩ = some (.slice Ar x.refs.length cr))
        (first | exact hk _ (Below.setc (by simp; omega) hB5 _) | exact hk _ hB5 | exact hk _ (Below.mono (by repeat (first | ((with_reducible refine Below.setc ?_ ?_ _); focus (first | omega | (simp; done) | (simp; omega))) | ((with_reducible refine Below.allocc ?_ ?_ _); focus (first | omega | (simp; done) | (simp; omega))) | (with_reducible refine Below.drew ?_) | (with_reducible refine Below.drewn ?_) | (with_reducible assumption) | (with_reducible exact Below.refl _ _) | ((with_reducible refine Below.stepp (by with_reducible assumption) ?_ ?_); focus (first | omega | (simp; done) | (simp; omega))))) (Nat.succ_le_of_lt hzw)))
        (first
          | (refine step_appi rfl (.tmp 31) (.tmp 37) rfl [] rfl rfl (OF.fresh (by simp)) (hrw.below (by repeat (first | ((with_reducible refine Below.setc ?_ ?_ _); focus (first | omega | (simp; done) | (simp; omega))) | ((with_reducible refine Below.allocc ?_ ?_ _); focus (first | omega | (simp; done) | (simp; omega))) | (with_reducible refine Below.drew ?_) | (with_reducible refine Below.drewn ?_) | (with_reducible assumption) | (with_reducible exact Below.refl _ _) | ((with_reducible refine Below.stepp (by with_reducible assumption) ?_ ?_); focus (first | omega | (simp; done) | (simp; omega)))))) (by simp; omega) ?_
             intro S2 k2 wb hS2 hOn2 hgS2
             rw [List.nil_append] at hS2
             have hBx : Below wr.heap.size wr wb := Below.trans (by repeat (first | ((with_reducible refine Below.setc ?_ ?_ _); focus (first | omega | (simp; done) | (simp; omega))) | ((with_reducible refine Below.allocc ?_ ?_ _); focus (first | omega | (simp; done) | (simp; omega))) | (with_reducible refine Below.drew ?_) | (with_reducible refine Below.drewn ?_) | (with_reducible assumption) | (with_reducible exact Below.refl _ _) | ((with_reducible refine Below.stepp (by with_reducible assumption) ?_ ?_); focus (first | omega | (simp; done) | (simp; omega))))) (hOn2.below (by first | omega | (simp; done) | (simp; omega)) (fun g hg => by rw [mem_blk_some hg]; simp))
             have g2 : ∀ g ∈ blk S2, wr.heap.size ≤ g ∧ g < wb.heap.size := fun g hg => ⟨by rcases hgS2 g hg with hh | hh; (rw [mem_blk_some hh]; simp); (simp at hh; omega), hS2.lt g hg⟩
             have z2 := hOn2.size
             simp at z2
             clear hOn2 hgS2
             have u9 : w1.heap.size < wb.heap.size := (by omega)
             have v0 := cell_below q0 (w' := wb) hBx
             have v1 : wb.frozen? ⟨w1.heap.size, 0, none⟩ = false := ((bcell hBx).2.1 _ _ hb3w).trans q2)
          | (refine step_appc rfl (.tmp 18) (.tmp 40) rfl rfl rfl (hO.cells.below (by repeat (first | ((with_reducible refine Below.setc ?_ ?_ _); focus (first | omega | (simp; done) | (simp; omega))) | ((with_reducible refine Below.allocc ?_ ?_ _); focus (first | omega | (simp; done) | (simp; omega))) | (with_reducible refine Below.drew ?_) | (with_reducible refine Below.drewn ?_) | (with_reducible assumption) | (with_reducible exact Below.refl _ _) | ((with_reducible refine Below.stepp (by with_reducible assumption) ?_ ?_); focus (first | omega | (simp; done) | (simp; omega)))))) ⟨⟨x.used, x.data, x.refs⟩, S2, k2⟩ (hS2.below (by repeat (first | ((with_reducible refine Below.setc ?_ ?_ _); focus (first | omega | (simp; done) | (simp; omega))) | ((with_reducible refine Below.allocc ?_ ?_ _); focus (first | omega | (simp; done) | (simp; omega))) | (with_reducible refine Below.drew ?_) | (with_reducible refine Below.drewn ?_) | (with_reducible assumption) | (with_reducible exact Below.refl _ _) | ((with_reducible refine Below.stepp (by with_reducible assumption) ?_ ?_); focus (first | omega | (simp; done) | (simp; omega)))))) (by omega) (by simp [go_sem]) (by simp [go_sem]) (by simp [go_sem]) hol ?_
             intro S5 c5 w5 hC5 hOn5 hg5
             have v2 : w5.cell? ⟨w1.heap.size, 0, none⟩ = some (.slice SA os.length c1) := hOn5.cell (cell_below q0 (by repeat (first | ((with_reducible refine Below.setc ?_ ?_ _); focus (first | omega | (simp; done) | (simp; omega))) | ((with_reducible refine Below.allocc ?_ ?_ _); focus (first | omega | (simp; done) | (simp; omega))) | (with_reducible refine Below.drew ?_) | (with_reducible refine Below.drewn ?_) | (with_reducible assumption) | (with_reducible exact Below.refl _ _) | ((with_reducible refine Below.stepp (by with_reducible assumption) ?_ ?_); focus (first | omega | (simp; done) | (simp; omega)))))) u1
             have v6 : w5.frozen? ⟨w1.heap.size, 0, none⟩ = false := (hOn5.frozenAt w1.heap.size 0 (by first | omega | (simp; done) | (simp; omega)) u1).trans (((bcell (w := wr) (by repeat (first | ((with_reducible refine Below.setc ?_ ?_ _); focus (first | omega | (simp; done) | (simp; omega))) | ((with_reducible refine Below.allocc ?_ ?_ _); focus (first | omega | (simp; done) | (simp; omega))) | (with_reducible refine Below.drew ?_) | (with_reducible refine Below.drewn ?_) | (with_reducible assumption) | (with_reducible exact Below.refl _ _) | ((with_reducible refine Below.stepp (by with_reducible assumption) ?_ ?_); focus (first | omega | (simp; done) | (simp; omega)))))).2.1 w1.heap.size 0 hb3w).trans q2)
             have v7 : w5.cell? ⟨w1.heap.size, 1, none⟩ = some (.slice S h.roots.length k) := hOn5.cell (cell_below q1 (by repeat (first | ((with_reducible refine Below.setc ?_ ?_ _); focus (first | omega | (simp; done) | (simp; omega))) | ((with_reducible refine Below.allocc ?_ ?_ _); focus (first | omega | (simp; done) | (simp; omega))) | (with_reducible refine Below.drew ?_) | (with_reducible refine Below.drewn ?_) | (with_reducible assumption) | (with_reducible exact Below.refl _ _) | ((with_reducible refine Below.stepp (by with_reducible assumption) ?_ ?_); focus (first | omega | (simp; done) | (simp; omega)))))) u1
             have hR5 : OF 3 fi w5 S k h.roots := (hO.roots.below (by repeat (first | ((with_reducible refine Below.setc ?_ ?_ _); focus (first | omega | (simp; done) | (simp; omega))) | ((with_reducible refine Below.allocc ?_ ?_ _); focus (first | omega | (simp; done) | (simp; omega))) | (with_reducible refine Below.drew ?_) | (with_reducible refine Below.drewn ?_) | (with_reducible assumption) | (with_reducible exact Below.refl _ _) | ((with_reducible refine Below.stepp (by with_reducible assumption) ?_ ?_); focus (first | omega | (simp; done) | (simp; omega)))))).only hOn5 (hO.cells.apart hO.roots)
             have g5 : ∀ g ∈ blk S5, g ∈ blk SA ∨ wb.heap.size ≤ g := fun g hg => (hg5 g hg).imp_right fun hh => by (first | omega | (simp at hh; omega))
             have hB5 : Below (w.heap.size + 2) wr w5 := Below.trans (Below.mono (B := wr.heap.size) (by repeat (first | ((with_reducible refine Below.setc ?_ ?_ _); focus (first | omega | (simp; done) | (simp; omega))) | ((with_reducible refine Below.allocc ?_ ?_ _); focus (first | omega | (simp; done) | (simp; omega))) | (with_reducible refine Below.drew ?_) | (with_reducible refine Below.drewn ?_) | (with_reducible assumption) | (with_reducible exact Below.refl _ _) | ((with_reducible refine Below.stepp (by with_reducible assumption) ?_ ?_); focus (first | omega | (simp; done) | (simp; omega))))) (Nat.succ_le_of_lt hzw)) (hOn5.below (by first | omega | (simp; done) | (simp; omega)) (fun g hg => (hlo g (List.mem_append.2 (.inl (List.mem_append.2 (.inl hg))))).1))
             clear hBx))
      all_goals
        have hlo' : ∀ g ∈ hblks S5 (os ++ [⟨⟨x.used, x.data, x.refs⟩, S2, k2⟩]) S, w.heap.size + 2 ≤ g ∧ g ≠ w1.heap.size := by
          intro g hg
          simp only [hblks, blks_append, List.mem_append] at hg hlo
          rcases hg with (hg | hg | hg) | hg
          · rcases g5 g hg with hg | hg
            · exact hlo g (.inl (.inl hg))
            · omega
          · exact hlo g (.inl (.inr hg))
          · have := g2 g (by simpa [blks] using hg)
            omega
          · exact hlo g (.inr hg)
        have HJ2 := HJ.out
        clear hg5 hOn5
        go_wp2_with fail
        go_roundw
        case rel =>
          refine ⟨j + 1, os ++ [⟨⟨x.used, x.data, x.refs⟩, S2, k2⟩], S5, c5, by omega, by go_num, ?_, by simp [go_sem, v2, HJ2], by simp [go_sem, v7], by simp [go_sem, v6], hO.push (hC5.keep fun g hg => ?_) (hR5.keep fun g hg => ?_) g5 (fun g hg => ?_) (Nat.le_refl _) (by omega) hol, hlo', ?_, (HB.out.trans hB5).setCell (by omega) _⟩
          · unfold Hid
            rw [take_snoc_of GX.out, ← HM.out]
            simp
          · exact heap_setCell_ne _ _ _ (hlo' g (List.mem_append.2 (.inl hg))).2
          · exact heap_setCell_ne _ _ _ (hlo' g (List.mem_append.2 (.inr hg))).2
          · have := g2 g hg
            omega
          · have := hB5.size
            simp
            omega
        case measure => simp [intOf]; omega
    · have hke : j = h.cells.length := by omega
      rw [hjl, hke] at q0
      have e0 := cell_below k2 (hB.mono (by simp))
      have e1 := cell_below k3 (hB.mono (by simp))
      have e2 := ((bcell (hB.mono (by simp))).2.1 (w.heap.size + 1) 0 (by simp)).trans k4
      have e3 := ((bcell (hB.mono (by simp))).2.1 (w.heap.size + 1) 1 (by simp)).trans k5
      have HK := Lib.hid hke
      have HJ := Lib.hid hjl
      have hbne : w1.heap.size ≠ w.heap.size + 1 := by omega
      clear hke hjl
      go_wp2
      refine bodyPost_ret (v := .agg #[.slice SA h.cells.length c1, .slice S h.roots.length k]) (by simp [results, Try.results119, go_sem, e0, e1]) rfl ⟨_, rfl, ⟨SA, c1, S, k, os, rfl, by rw [HM.out, HK.out, List.take_length], hO.keep fun g hg => ?_, fun g hg => by have := hlo g hg; omega⟩, (by repeat (first | ((with_reducible refine Below.setc ?_ ?_ _); focus (first | omega | (simp; done) | (simp; omega))) | ((with_reducible refine Below.allocc ?_ ?_ _); focus (first | omega | (simp; done) | (simp; omega))) | (with_reducible refine Below.drew ?_) | (with_reducible refine Below.drewn ?_) | (with_reducible assumption) | (with_reducible exact Below.refl _ _) | ((with_reducible refine Below.stepp (by with_reducible assumption) ?_ ?_); focus (first | omega | (simp; done) | (simp; omega)))))⟩
      have := hlo g hg
      (repeat (first | rw [heap_setCell_ne _ _ _ (by first | omega | (simp; done) | (simp; omega))] | rw [Below.heap_alloc _ _ _ (by first | omega | (simp; done) | (simp; omega))]))
end Go.Proofs.Ytkmfhadanbfadaa
