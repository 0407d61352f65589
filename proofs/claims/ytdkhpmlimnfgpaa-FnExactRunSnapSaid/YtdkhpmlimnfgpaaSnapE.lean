/- Snapshots under instructions: the recorder's and the snapshotting's execute. -/
import Derived.Test.YtdkhpmlimnfgpaaChecked
import Derived.Deep.RegionHeld3
import Derived.Deep.RegionLaw
import Derived.Deep.DeepCutAuto
import Derived.Test.YtdkhpmlimnfgpaaGrData
import Derived.Test.YtdkhpmlimnfgpaaSnapStp
import Derived.Test.YtdkhpmlimnfgpaaGrExec
namespace Go.Proofs.Ytdkhpmlimnfgpaa
open Go.RowKit
set_option maxRecDepth 100000
set_option linter.unusedSimpArgs false
set_option linter.unusedVariables false
section
variable {lo : Nat} {w w' : World} {g : Nat} {p : TwoM} {A A' A2 A3 : Option Addr} {c c' c2 c3 : Nat} {os : List OCell}
theorem mem3 {a b c : List Nat} {x : Nat} : x ∈ a ++ b ++ c ↔ x ∈ a ∨ x ∈ b ∨ x ∈ c := by simp only [List.mem_append]; exact or_assoc
/-- A new heap is put in the place of the old one. -/
theorem PTx.heap_ (h : PTx lo w g p A c A' c' os A2 c2 A3 c3) (hb : Below w.heap.size w w') {h' : HeapM} {B B' : Option Addr} {d d' : Nat} {os' : List OCell} (hm : os'.map (·.c) = h'.cells) (hO : OHs w' B d B' d' os' h'.roots) (hlo : ∀ b ∈ hblks B os' B', w.heap.size ≤ b) :
    PTx lo ((w'.setCell ⟨g, 0, none⟩ (.slice B h'.cells.length d)).setCell ⟨g, 1, none⟩ (.slice B' h'.roots.length d')) g ⟨h', p.x, p.y⟩ B d B' d' os' A2 c2 A3 c3 := by
  have hb' := h.below hb
  have hgl := h.lt
  have hgw := hb'.lt
  have k1 : ∀ b ∈ hblks B os' B', b ≠ g := fun b hb9 e => by have := hlo b hb9; omega
  have k2 : ∀ b ∈ blk A2, b ≠ g := fun b hb9 e => h.g2 (e ▸ hb9)
  have k3 : ∀ b ∈ blk A3, b ≠ g := fun b hb9 e => h.g3 (e ▸ hb9)
  refine ⟨by simp [go_sem, hgw, hb'.q0], by simp [go_sem, hgw, hb'.q1], by simp [go_sem, hb'.q2], by simp [go_sem, hb'.q3], fun o => by simp [go_sem, hb'.qf o], h.lo_, by simp; exact hgw, ?_, hm, ?_, ?_, ?_, ?_, ?_, h.xl, h.yl⟩
  · rw [mem3]
    rintro (h9 | h9 | h9)
    · exact k1 _ h9 rfl
    · exact k2 _ h9 rfl
    · exact k3 _ h9 rfl
  · exact hO.keep fun b hb9 => by rw [heap_setCell_ne _ _ _ (k1 b hb9), heap_setCell_ne _ _ _ (k1 b hb9)]
  · exact hb'.xs.keep fun b hb9 => by rw [heap_setCell_ne _ _ _ (k2 b hb9), heap_setCell_ne _ _ _ (k2 b hb9)]
  · exact hb'.ys.keep fun b hb9 => by rw [heap_setCell_ne _ _ _ (k3 b hb9), heap_setCell_ne _ _ _ (k3 b hb9)]
  · have hnd := h.nd
    have hx := h.xs.lt
    have hy := h.ys.lt
    refine nd3_of hO.nodup (blk_nodup _) (blk_nodup _) (fun b h1 h2 => ?_) (fun b h1 h2 => ?_) (fun b h1 h2 => ?_)
    · have := hx b h1; have := hlo b h2; omega
    · have := hy b h1; have := hlo b h2; omega
    · exact h.d2 b h1 h2
  · intro b hb9
    rcases mem3.1 hb9 with h9 | h9 | h9
    · have := hlo b h9; have := h.lo_; omega
    · exact h.los b (mem3.2 (.inr (.inl h9)))
    · exact h.los b (mem3.2 (.inr (.inr h9)))
/-- An element more in the first list. -/
theorem PTx.pushX (h : PTx lo w g p A c A' c' os A2 c2 A3 c3) {S : Option Addr} {cS : Nat} {b : Bool} (hO : OF 4 fb w' S cS (p.x ++ [b])) (hOn : Only (blk A2) w w') (hg : ∀ b ∈ blk S, b ∈ blk A2 ∨ w.heap.size ≤ b) (hl : p.x.length ≤ 1048576) {n : Nat} (hn : n = p.x.length + 1) :
    PTx lo (w'.setCell ⟨g, 2, none⟩ (.slice S n cS)) g ⟨p.store, p.x ++ [b], p.y⟩ A c A' c' os S cS A3 c3 := by
  rw [show n = (p.x ++ [b]).length from by simp [hn]]
  have hgl := h.lt
  have hgw : g < w'.heap.size := Nat.lt_of_lt_of_le hgl hOn.size
  have kS : ∀ b ∈ blk S, b ≠ g := fun b hb9 e => by rcases hg b hb9 with h9 | h9; exact h.g2 (e ▸ h9); omega
  have k3 : ∀ b ∈ blk A3, b ≠ g := fun b hb9 e => h.g3 (e ▸ hb9)
  have k1 : ∀ b ∈ hblks A os A', b ≠ g := fun b hb9 e => h.apart (mem3.2 (.inl (e ▸ hb9)))
  have n1 : ∀ b ∈ hblks A os A', b ∉ blk A2 := fun b hb9 hc => h.d1 b hb9 (List.mem_append.2 (.inl hc))
  have lt1 := h.own.lt
  have lt3 := h.ys.lt
  refine ⟨by simp [go_sem, hOn.cell h.q0 h.g2], by simp [go_sem, hOn.cell h.q1 h.g2], by simp [go_sem, hOn.cell h.q2 h.g2], by simp [go_sem, hOn.cell h.q3 h.g2], fun o => by simp [go_sem, (hOn.frozenAt g o hgl h.g2).trans (h.qf o)], h.lo_, by simp; exact hgw, ?_, h.map, ?_, ?_, ?_, ?_, ?_, by simp; omega, h.yl⟩
  · rw [mem3]
    rintro (h9 | h9 | h9)
    · exact k1 _ h9 rfl
    · exact kS _ h9 rfl
    · exact k3 _ h9 rfl
  · exact (h.own.only hOn n1).keep fun b hb9 => by rw [heap_setCell_ne _ _ _ (k1 b hb9)]
  · exact hO.keep fun b hb9 => by rw [heap_setCell_ne _ _ _ (kS b hb9)]
  · exact (h.ys.only hOn h.d2).keep fun b hb9 => by rw [heap_setCell_ne _ _ _ (k3 b hb9)]
  · refine nd3_of h.own.nodup (blk_nodup _) (blk_nodup _) (fun b h1 h2 => ?_) (fun b h1 h2 => ?_) (fun b h1 h2 => ?_)
    · rcases hg b h1 with h9 | h9
      · exact n1 b h2 h9
      · have := lt1 b h2; omega
    · exact h.d1 b h2 (List.mem_append.2 (.inr h1))
    · rcases hg b h2 with h9 | h9
      · exact h.d2 b h1 h9
      · have := lt3 b h1; omega
  · intro b hb9
    rcases mem3.1 hb9 with h9 | h9 | h9
    · exact h.los b (mem3.2 (.inl h9))
    · rcases hg b h9 with h8 | h8
      · exact h.los b (mem3.2 (.inr (.inl h8)))
      · have := h.lo_; omega
    · exact h.los b (mem3.2 (.inr (.inr h9)))
/-- An element more in the second list. -/
theorem PTx.pushY (h : PTx lo w g p A c A' c' os A2 c2 A3 c3) {S : Option Addr} {cS : Nat} {b : Bool} (hO : OF 4 fb w' S cS (p.y ++ [b])) (hOn : Only (blk A3) w w') (hg : ∀ b ∈ blk S, b ∈ blk A3 ∨ w.heap.size ≤ b) (hl : p.y.length ≤ 1048576) {n : Nat} (hn : n = p.y.length + 1) :
    PTx lo (w'.setCell ⟨g, 3, none⟩ (.slice S n cS)) g ⟨p.store, p.x, p.y ++ [b]⟩ A c A' c' os A2 c2 S cS := by
  rw [show n = (p.y ++ [b]).length from by simp [hn]]
  have hgl := h.lt
  have hgw : g < w'.heap.size := Nat.lt_of_lt_of_le hgl hOn.size
  have kS : ∀ b ∈ blk S, b ≠ g := fun b hb9 e => by rcases hg b hb9 with h9 | h9; exact h.g3 (e ▸ h9); omega
  have k2 : ∀ b ∈ blk A2, b ≠ g := fun b hb9 e => h.g2 (e ▸ hb9)
  have k1 : ∀ b ∈ hblks A os A', b ≠ g := fun b hb9 e => h.apart (mem3.2 (.inl (e ▸ hb9)))
  have n1 : ∀ b ∈ hblks A os A', b ∉ blk A3 := fun b hb9 hc => h.d1 b hb9 (List.mem_append.2 (.inr hc))
  have n2 : ∀ b ∈ blk A2, b ∉ blk A3 := fun b hb9 hc => h.d2 b hc hb9
  have lt1 := h.own.lt
  have lt2 := h.xs.lt
  refine ⟨by simp [go_sem, hOn.cell h.q0 h.g3], by simp [go_sem, hOn.cell h.q1 h.g3], by simp [go_sem, hOn.cell h.q2 h.g3], by simp [go_sem, hOn.cell h.q3 h.g3], fun o => by simp [go_sem, (hOn.frozenAt g o hgl h.g3).trans (h.qf o)], h.lo_, by simp; exact hgw, ?_, h.map, ?_, ?_, ?_, ?_, ?_, h.xl, by simp; omega⟩
  · rw [mem3]
    rintro (h9 | h9 | h9)
    · exact k1 _ h9 rfl
    · exact k2 _ h9 rfl
    · exact kS _ h9 rfl
  · exact (h.own.only hOn n1).keep fun b hb9 => by rw [heap_setCell_ne _ _ _ (k1 b hb9)]
  · exact (h.xs.only hOn n2).keep fun b hb9 => by rw [heap_setCell_ne _ _ _ (k2 b hb9)]
  · exact hO.keep fun b hb9 => by rw [heap_setCell_ne _ _ _ (kS b hb9)]
  · refine nd3_of h.own.nodup (blk_nodup _) (blk_nodup _) (fun b h1 h2 => ?_) (fun b h1 h2 => ?_) (fun b h1 h2 => ?_)
    · exact h.d1 b h2 (List.mem_append.2 (.inl h1))
    · rcases hg b h1 with h9 | h9
      · exact n1 b h2 h9
      · have := lt1 b h2; omega
    · rcases hg b h1 with h9 | h9
      · exact n2 b h2 h9
      · have := lt2 b h2; omega
  · intro b hb9
    rcases mem3.1 hb9 with h9 | h9 | h9
    · exact h.los b (mem3.2 (.inl h9))
    · exact h.los b (mem3.2 (.inr (.inl h9)))
    · rcases hg b h9 with h8 | h8
      · exact h.los b (mem3.2 (.inr (.inr h8)))
      · have := h.lo_; omega
theorem PTx.phx (h : PTx lo w g p A c A' c' os A2 c2 A3 c3) : PHx lo w g p.store A c A' c' os := ⟨h.q0, h.q1, h.qf, h.lo_, h.lt, fun hc => h.apart (mem3.2 (.inl hc)), h.map, h.own, fun b hb => h.los b (mem3.2 (.inl hb))⟩
theorem PTx.l2 (h : PTx lo w g p A c A' c' os A2 c2 A3 c3) : ∀ b ∈ blk A2, lo ≤ b := fun b hb => h.los4 b (List.mem_append.2 (.inl hb))
theorem PTx.l3 (h : PTx lo w g p A c A' c' os A2 c2 A3 c3) : ∀ b ∈ blk A3, lo ≤ b := fun b hb => h.los4 b (List.mem_append.2 (.inr hb))
end
def recDo (p : TwoM) (o : CmdM) : TwoM := if o.op = 1 then ⟨execM p.store o p.store.cells.length, p.x ++ [true], p.y ++ [false]⟩ else ⟨execM p.store o p.store.cells.length, p.x, p.y⟩
set_option maxHeartbeats 4000000 in
theorem rexec_any (lo g : Nat) (p : TwoM) (o : CmdM) (A A' A2 A3 : Option Addr) (c c' c2 c3 : Nat) (os : List OCell) (w : World) (h : PTx lo w g p A c A' c' os A2 c2 A3 c3) (hv : validM p.store = true) (hok : cmdOk o = true) (hps : possO p.store o = true) (hx : p.x.length ≤ 1048576) (hy : p.y.length ≤ 1048576) :
    Calls Try.prog 156 #[.pointer (some ⟨g, 0, none⟩), .agg #[.int .i64 o.op, .int .i64 o.a, .int .i64 o.b, .int .i64 o.c]] w fun e w' => e = .returned (.tuple #[]) ∧ (∃ B d B' d' os' B2 d2 B3 d3, PTx lo w' g (recDo p o) B d B' d' os' B2 d2 B3 d3) ∧ Below lo w w' := by
  have hb0 := h.below (w' := (w.alloc (.cells #[.int .i64 o.op, .int .i64 o.a, .int .i64 o.b, .int .i64 o.c] 61))) (by repeat (first | ((with_reducible refine Below.setc ?_ ?_ _); focus (first | omega | (simp; done) | (simp; omega))) | ((with_reducible refine Below.allocc ?_ ?_ _); focus (first | omega | (simp; done) | (simp; omega))) | (with_reducible refine Below.drew ?_) | (with_reducible refine Below.drewn ?_) | (with_reducible assumption) | (with_reducible exact Below.refl _ _) | ((with_reducible refine Below.stepp (by with_reducible assumption) ?_ ?_); focus (first | omega | (simp; done) | (simp; omega)))))
  have q0 := hb0.q0
  have q1 := hb0.q1
  have H := Lib.hid hb0
  have hgl := h.lt
  have hlo := h.lo_
  have hrhs := hb0.own.rhs hb0.map
  have g0 : ((w.alloc (.cells #[.int .i64 o.op, .int .i64 o.a, .int .i64 o.b, .int .i64 o.c] 61))).cell? ⟨w.heap.size, 0, none⟩ = some (.int .i64 o.op) := by simp [go_sem]
  have g1 : ((w.alloc (.cells #[.int .i64 o.op, .int .i64 o.a, .int .i64 o.b, .int .i64 o.c] 61))).cell? ⟨w.heap.size, 1, none⟩ = some (.int .i64 o.a) := by simp [go_sem]
  have g2 : ((w.alloc (.cells #[.int .i64 o.op, .int .i64 o.a, .int .i64 o.b, .int .i64 o.c] 61))).cell? ⟨w.heap.size, 2, none⟩ = some (.int .i64 o.b) := by simp [go_sem]
  have g3 : ((w.alloc (.cells #[.int .i64 o.op, .int .i64 o.a, .int .i64 o.b, .int .i64 o.c] 61))).cell? ⟨w.heap.size, 3, none⟩ = some (.int .i64 o.c) := by simp [go_sem]
  have HV := Lib.hid hv
  have HO := Lib.hid hok
  have HP := Lib.hid hps
  have HW : Hid (Below lo w (w.alloc (.cells #[.int .i64 o.op, .int .i64 o.a, .int .i64 o.b, .int .i64 o.c] 61))) := by unfold Hid; exact (by repeat (first | ((with_reducible refine Below.setc ?_ ?_ _); focus (first | omega | (simp; done) | (simp; omega))) | ((with_reducible refine Below.allocc ?_ ?_ _); focus (first | omega | (simp; done) | (simp; omega))) | (with_reducible refine Below.drew ?_) | (with_reducible refine Below.drewn ?_) | (with_reducible assumption) | (with_reducible exact Below.refl _ _) | ((with_reducible refine Below.stepp (by with_reducible assumption) ?_ ?_); focus (first | omega | (simp; done) | (simp; omega)))))
  obtain ⟨v1, v2, v3⟩ := valid_small hv
  have v2' : p.store.roots.length ≤ 4 := by omega
  clear v2 v3 hv hok hps h hb0
  have HQF : Hid (∀ q, ((w.alloc (.cells #[.int .i64 o.op, .int .i64 o.a, .int .i64 o.b, .int .i64 o.c] 61))).frozen? ⟨g, q, none⟩ = false) := H.out.qf
  have hne : g ≠ w.heap.size := by omega
  have hne' : w.heap.size ≠ g := by omega
  have hWs : w.heap.size < ((w.alloc (.cells #[.int .i64 o.op, .int .i64 o.a, .int .i64 o.b, .int .i64 o.c] 61))).heap.size := by simp
  go_enter Try.func156, Try.ntmps156
  go_upto_region 1 with fail
  generalize (w.alloc (.cells #[.int .i64 o.op, .int .i64 o.a, .int .i64 o.b, .int .i64 o.c] 61)) = W at *
  have hgW : g < W.heap.size := by omega
  go_cut [] (fun wx => ∃ B d B' d' os2, PTx lo wx g ⟨execM p.store o p.store.cells.length, p.x, p.y⟩ B d B' d' os2 A2 c2 A3 c3 ∧ wx.cell? ⟨w.heap.size, 0, none⟩ = some (.int .i64 o.op) ∧ Below lo w wx)
  case first =>
    go_region_law
      (first
        | (go_simp; go_at_call 97; (with_reducible refine (execute_any _ p.store o p.store.cells.length _ ((hrhs.below (by repeat (first | ((with_reducible refine Below.setc ?_ ?_ _); focus (first | omega | (simp; done) | (simp; omega))) | ((with_reducible refine Below.allocc ?_ ?_ _); focus (first | omega | (simp; done) | (simp; omega))) | (with_reducible refine Below.drew ?_) | (with_reducible refine Below.drewn ?_) | (with_reducible assumption) | (with_reducible exact Below.refl _ _) | ((with_reducible refine Below.stepp (by with_reducible assumption) ?_ ?_); focus (first | omega | (simp; done) | (simp; omega)))))).rh _ _) HV.out HO.out HP.out (Nat.le_refl _)).mono ?_); rintro e w2 ⟨v2, rfl, ⟨B, d, B', d', os2, rfl, hm2, hO2, hlo2⟩, hB2⟩
           have hB : Below W.heap.size W w2 := (by repeat (first | ((with_reducible refine Below.setc ?_ ?_ _); focus (first | omega | (simp; done) | (simp; omega))) | ((with_reducible refine Below.allocc ?_ ?_ _); focus (first | omega | (simp; done) | (simp; omega))) | (with_reducible refine Below.drew ?_) | (with_reducible refine Below.drewn ?_) | (with_reducible assumption) | (with_reducible exact Below.refl _ _) | ((with_reducible refine Below.stepp (by with_reducible assumption) ?_ ?_); focus (first | omega | (simp; done) | (simp; omega)))))
           have s0 := cell_below q0 hB
           have s1 := cell_below q1 hB
           have sf0 : w2.frozen? ⟨g, 0, none⟩ = false := (((bcell hB).2.1 g 0 hgW).trans (HQF.out 0))
           have sf1 : w2.frozen? ⟨g, 1, none⟩ = false := (((bcell hB).2.1 g 1 hgW).trans (HQF.out 1))
           have c0 := cell_below g0 hB
           have hg2w : g < w2.heap.size := Nat.lt_of_lt_of_le hgW hB.size
           have hlo2' : ∀ b ∈ hblks B os2 B', W.heap.size ≤ b := hlo2))
    all_goals
      have hPA := H.out.heap_ hB hm2 hO2 hlo2'
      have hBA : Below lo w ((w2.setCell ⟨g, 0, none⟩ (.slice B (execM p.store o p.store.cells.length).cells.length d)).setCell ⟨g, 1, none⟩ (.slice B' (execM p.store o p.store.cells.length).roots.length d')) := ((HW.out.trans (hB.mono (by have := HW.out.size; omega))).setCell hlo _).setCell hlo _
      have ca0 : ((w2.setCell ⟨g, 0, none⟩ (.slice B (execM p.store o p.store.cells.length).cells.length d)).setCell ⟨g, 1, none⟩ (.slice B' (execM p.store o p.store.cells.length).roots.length d')).cell? ⟨w.heap.size, 0, none⟩ = some (.int .i64 o.op) := by simp [go_sem, c0, hne, hne']
      go_wp2_with fail
      go_meet
      exact ⟨B, d, B', d', os2, hPA, ca0, hBA⟩
  case rest =>
    obtain ⟨B, d, B', d', os2, hPA, ca0, hBA⟩ := hcut
    obtain ⟨wa, rfl⟩ : ∃ x, x = wc := ⟨_, rfl⟩
    clear q0 q1 g0 g1 g2 g3 H HQF HW hrhs
    rcases Classical.em (o.op = 1) with h1 | h1
    · have hop : (o.op == 1) = true := by simp [h1]
      have H1 := Lib.hid h1
      have a2 : wa.cell? ⟨g, 2, none⟩ = some (.slice A2 p.x.length c2) := hPA.q2
      have a3 : wa.cell? ⟨g, 3, none⟩ = some (.slice A3 p.y.length c3) := hPA.q3
      have af2 := hPA.qf 2
      have af3 := hPA.qf 3
      have hga := hPA.lt
      have ng2 := hPA.g2
      have hl2 := hPA.l2
      have HPA := Lib.hid hPA
      clear hPA h1
      go_wp2_with (at_builtin; (first
        | (refine wpList_appb rfl (.tmp 30) (.tmp 31) rfl p.x rfl rfl (HPA.out.xs.below (by repeat (first | ((with_reducible refine Below.setc ?_ ?_ _); focus (first | omega | (simp; done) | (simp; omega))) | ((with_reducible refine Below.allocc ?_ ?_ _); focus (first | omega | (simp; done) | (simp; omega))) | (with_reducible refine Below.drew ?_) | (with_reducible refine Below.drewn ?_) | (with_reducible assumption) | (with_reducible exact Below.refl _ _) | ((with_reducible refine Below.stepp (by with_reducible assumption) ?_ ?_); focus (first | omega | (simp; done) | (simp; omega)))))) (RF.only_one (x := true) (by simp [go_sem, fb])) (by simp; omega) ?_
           intro S' cS' w3 hO3 hOn3 hg3
           have hP3 := ((HPA.out.below (by repeat (first | ((with_reducible refine Below.setc ?_ ?_ _); focus (first | omega | (simp; done) | (simp; omega))) | ((with_reducible refine Below.allocc ?_ ?_ _); focus (first | omega | (simp; done) | (simp; omega))) | (with_reducible refine Below.drew ?_) | (with_reducible refine Below.drewn ?_) | (with_reducible assumption) | (with_reducible exact Below.refl _ _) | ((with_reducible refine Below.stepp (by with_reducible assumption) ?_ ?_); focus (first | omega | (simp; done) | (simp; omega)))))).pushX hO3 hOn3 hg3 hx (n := p.x.length + 1) rfl)
           have b2 := hOn3.cell (cell_below a2 (by repeat (first | ((with_reducible refine Below.setc ?_ ?_ _); focus (first | omega | (simp; done) | (simp; omega))) | ((with_reducible refine Below.allocc ?_ ?_ _); focus (first | omega | (simp; done) | (simp; omega))) | (with_reducible refine Below.drew ?_) | (with_reducible refine Below.drewn ?_) | (with_reducible assumption) | (with_reducible exact Below.refl _ _) | ((with_reducible refine Below.stepp (by with_reducible assumption) ?_ ?_); focus (first | omega | (simp; done) | (simp; omega)))))) ng2
           have b3 := hOn3.cell (cell_below a3 (by repeat (first | ((with_reducible refine Below.setc ?_ ?_ _); focus (first | omega | (simp; done) | (simp; omega))) | ((with_reducible refine Below.allocc ?_ ?_ _); focus (first | omega | (simp; done) | (simp; omega))) | (with_reducible refine Below.drew ?_) | (with_reducible refine Below.drewn ?_) | (with_reducible assumption) | (with_reducible exact Below.refl _ _) | ((with_reducible refine Below.stepp (by with_reducible assumption) ?_ ?_); focus (first | omega | (simp; done) | (simp; omega)))))) ng2
           have bf2 : w3.frozen? ⟨g, 2, none⟩ = false := (hOn3.frozenAt g 2 (by simp; omega) ng2).trans (by simp [go_sem, af2, hga])
           have bf3 : w3.frozen? ⟨g, 3, none⟩ = false := (hOn3.frozenAt g 3 (by simp; omega) ng2).trans (by simp [go_sem, af3, hga])
           have hg3w : g < w3.heap.size := by have := hOn3.size; simp at this; omega
           have hB3 : Below lo w w3 := hBA.trans (Below.trans (by repeat (first | ((with_reducible refine Below.setc ?_ ?_ _); focus (first | omega | (simp; done) | (simp; omega))) | ((with_reducible refine Below.allocc ?_ ?_ _); focus (first | omega | (simp; done) | (simp; omega))) | (with_reducible refine Below.drew ?_) | (with_reducible refine Below.drewn ?_) | (with_reducible assumption) | (with_reducible exact Below.refl _ _) | ((with_reducible refine Below.stepp (by with_reducible assumption) ?_ ?_); focus (first | omega | (simp; done) | (simp; omega))))) (hOn3.below (by simp; omega) hl2))
           have hys := hP3.ys
           have ng3 := hP3.g3
           have hl3 := hP3.l3
           have e3 := hP3.q3
           have HP3 := Lib.hid hP3
           clear hP3 hO3 hOn3 hg3 HPA hBA)
        | (refine wpList_appb rfl (.tmp 41) (.tmp 42) rfl p.y rfl rfl (hys.below (by repeat (first | ((with_reducible refine Below.setc ?_ ?_ _); focus (first | omega | (simp; done) | (simp; omega))) | ((with_reducible refine Below.allocc ?_ ?_ _); focus (first | omega | (simp; done) | (simp; omega))) | (with_reducible refine Below.drew ?_) | (with_reducible refine Below.drewn ?_) | (with_reducible assumption) | (with_reducible exact Below.refl _ _) | ((with_reducible refine Below.stepp (by with_reducible assumption) ?_ ?_); focus (first | omega | (simp; done) | (simp; omega)))))) (RF.only_one (x := false) (by simp [go_sem, fb])) (by simp; omega) ?_
           intro S4 cS4 w4 hO4 hOn4 hg4
           have hP4 := ((HP3.out.below (by repeat (first | ((with_reducible refine Below.setc ?_ ?_ _); focus (first | omega | (simp; done) | (simp; omega))) | ((with_reducible refine Below.allocc ?_ ?_ _); focus (first | omega | (simp; done) | (simp; omega))) | (with_reducible refine Below.drew ?_) | (with_reducible refine Below.drewn ?_) | (with_reducible assumption) | (with_reducible exact Below.refl _ _) | ((with_reducible refine Below.stepp (by with_reducible assumption) ?_ ?_); focus (first | omega | (simp; done) | (simp; omega)))))).pushY hO4 hOn4 hg4 hy (n := p.y.length + 1) rfl)
           have d3 := hOn4.cell (cell_below e3 (by repeat (first | ((with_reducible refine Below.setc ?_ ?_ _); focus (first | omega | (simp; done) | (simp; omega))) | ((with_reducible refine Below.allocc ?_ ?_ _); focus (first | omega | (simp; done) | (simp; omega))) | (with_reducible refine Below.drew ?_) | (with_reducible refine Below.drewn ?_) | (with_reducible assumption) | (with_reducible exact Below.refl _ _) | ((with_reducible refine Below.stepp (by with_reducible assumption) ?_ ?_); focus (first | omega | (simp; done) | (simp; omega)))))) ng3
           have df3 : w4.frozen? ⟨g, 3, none⟩ = false := (hOn4.frozenAt g 3 (by simp; omega) ng3).trans (by simp [go_sem, bf3, hg3w])
           have hg4w : g < w4.heap.size := by have := hOn4.size; simp at this; omega
           have hB4 : Below lo w w4 := by have h5 := hOn4.below (B := lo) (by simp; omega) hl3; exact Below.trans (by repeat (first | ((with_reducible refine Below.setc ?_ ?_ _); focus (first | omega | (simp; done) | (simp; omega))) | ((with_reducible refine Below.allocc ?_ ?_ _); focus (first | omega | (simp; done) | (simp; omega))) | (with_reducible refine Below.drew ?_) | (with_reducible refine Below.drewn ?_) | (with_reducible assumption) | (with_reducible exact Below.refl _ _) | ((with_reducible refine Below.stepp (by with_reducible assumption) ?_ ?_); focus (first | omega | (simp; done) | (simp; omega))))) h5)))
      go_end0
      exact ⟨rfl, ⟨_, _, _, _, _, _, _, _, _, by unfold recDo; rw [if_pos H1.out]; exact hP4⟩, hB4.setCell hlo _⟩
    · have hop : (o.op == 1) = false := by simpa using h1
      go_wp2
      go_end0
      exact ⟨rfl, ⟨_, _, _, _, _, _, _, _, _, by unfold recDo; rw [if_neg h1]; exact hPA⟩, hBA⟩
end Go.Proofs.Ytdkhpmlimnfgpaa
