/- PaintStart: the program's and the reference's both return paintStartM, in new memory. -/
import Derived.Test.YtopbngfghpgbnaaChecked
import Derived.Deep.DeepCutAuto
import Derived.Test.YtopbngfghpgbnaaGrCopy
import Derived.Test.YtopbngfghpgbnaaCopyP
import Derived.Test.YtopbngfghpgbnaaPaintVS
import Derived.Test.YtopbngfghpgbnaaGrey
import Derived.Test.YtopbngfghpgbnaaGrSz
namespace Go.Proofs.Ytopbngfghpgbnaa
open Go.RowKit
set_option maxRecDepth 100000
set_option linter.unusedSimpArgs false
set_option linter.unusedVariables false
theorem OPt.zero {lo : Nat} {w : World} : OPt lo w (.agg #[.slice none 0 0, .slice none 0 0, .slice none 0 0, .bool false]) zeroP :=
  ⟨none, 0, none, 0, [], none, 0, rfl, rfl, ⟨OC.nil_, OF.nil, by simp [blk, blks], by simp, by simp [zeroP, zeroH]⟩, OF.nil, by simp [hblks, blk, blks], by simp [hblks, blk, blks], by simp [zeroP]⟩
/-- A painted heap in memory, behind a pointer, all of the call's own. -/
structure PPx (lo : Nat) (w : World) (g : Nat) (p : PaintM) (A : Option Addr) (c : Nat) (A' : Option Addr) (c' : Nat) (os : List OCell) (A2 : Option Addr) (c2 : Nat) : Prop where
  q0 : w.cell? ⟨g, 0, none⟩ = some (.slice A p.store.cells.length c)
  q1 : w.cell? ⟨g, 1, none⟩ = some (.slice A' p.store.roots.length c')
  q2 : w.cell? ⟨g, 2, none⟩ = some (.slice A2 p.colours.length c2)
  q3 : w.cell? ⟨g, 3, none⟩ = some (.bool p.active)
  qf : ∀ o, w.frozen? ⟨g, o, none⟩ = false
  lo_ : lo ≤ g
  lt : g < w.heap.size
  apart : g ∉ hblks A os A' ++ blk A2
  map : os.map (·.c) = p.store.cells
  own : OHs w A c A' c' os p.store.roots
  cs : OF 3 fi w A2 c2 p.colours
  nd : (hblks A os A' ++ blk A2).Nodup
  los : ∀ b ∈ hblks A os A' ++ blk A2, lo ≤ b
  cl : p.colours.length ≤ 9223372036854775807
section
variable {lo : Nat} {w w' : World} {g : Nat} {p : PaintM} {A A' A2 : Option Addr} {c c' c2 : Nat} {os : List OCell}
theorem PPx.opt (h : PPx lo w g p A c A' c' os A2 c2) : OPt lo w (.agg #[.slice A p.store.cells.length c, .slice A' p.store.roots.length c', .slice A2 p.colours.length c2, .bool p.active]) p :=
  ⟨A, c, A', c', os, A2, c2, rfl, h.map, h.own, h.cs, h.nd, h.los, h.cl⟩
theorem PPx.g2 (h : PPx lo w g p A c A' c' os A2 c2) : g ∉ blk A2 := fun hc => h.apart (List.mem_append.2 (.inr hc))
theorem PPx.g1 (h : PPx lo w g p A c A' c' os A2 c2) : ∀ b ∈ hblks A os A', b ∉ blk A2 := fun b hb hc => by
  have := h.nd
  rw [List.nodup_append] at this
  exact this.2.2 b hb b hc rfl
theorem PPx.below (h : PPx lo w g p A c A' c' os A2 c2) (hb : Below w.heap.size w w') : PPx lo w' g p A c A' c' os A2 c2 :=
  ⟨cell_below h.q0 hb, cell_below h.q1 hb, cell_below h.q2 hb, cell_below h.q3 hb, fun o => ((bcell hb).2.1 g o h.lt).trans (h.qf o), h.lo_, Nat.lt_of_lt_of_le h.lt hb.size, h.apart, h.map, h.own.below hb, h.cs.below hb, h.nd, h.los, h.cl⟩
/-- The colours have been written. -/
theorem PPx.paint (h : PPx lo w g p A c A' c' os A2 c2) {cols : List Int} (hO : OF 3 fi w' A2 c2 cols) (hl : cols.length = p.colours.length) (hOn : Only (blk A2) w w') : PPx lo w' g ⟨p.store, cols, p.active⟩ A c A' c' os A2 c2 :=
  ⟨hOn.cell h.q0 h.g2, hOn.cell h.q1 h.g2, by simp only [hl]; exact hOn.cell h.q2 h.g2, hOn.cell h.q3 h.g2, fun o => (hOn.frozenAt g o h.lt h.g2).trans (h.qf o), h.lo_, Nat.lt_of_lt_of_le h.lt hOn.size, h.apart, h.map, h.own.only hOn h.g1, hO, h.nd, h.los, by simp only [hl]; exact h.cl⟩
theorem PPx.act (h : PPx lo w g p A c A' c' os A2 c2) (b : Bool) : PPx lo (w.setCell ⟨g, 3, none⟩ (.bool b)) g ⟨p.store, p.colours, b⟩ A c A' c' os A2 c2 := by
  have hk : ∀ b ∈ hblks A os A' ++ blk A2, b ≠ g := fun b hb e => h.apart (e ▸ hb)
  refine ⟨?_, ?_, ?_, ?_, fun o => by simp [go_sem, h.qf o], h.lo_, by simpa using h.lt, h.apart, h.map, h.own.keep fun b hb => heap_setCell_ne _ _ _ (hk b (List.mem_append.2 (.inl hb))), h.cs.keep fun b hb => heap_setCell_ne _ _ _ (hk b (List.mem_append.2 (.inr hb))), h.nd, h.los, h.cl⟩
  · simp [go_sem, h.q0]
  · simp [go_sem, h.q1]
  · simp [go_sem, h.q2]
  · simp [go_sem, h.q3]
theorem PPx.mk_ (hm : os.map (·.c) = p.store.cells) (ho : OHs w A c A' c' os p.store.roots) (hc : OF 3 fi w A2 c2 p.colours) (hnd : (hblks A os A' ++ blk A2).Nodup) (hlo : ∀ b ∈ hblks A os A' ++ blk A2, lo ≤ b) (hcl : p.colours.length ≤ 9223372036854775807) (hw : lo ≤ w.heap.size) (T : TypeId) :
    PPx lo (w.alloc (.cells #[.slice A p.store.cells.length c, .slice A' p.store.roots.length c', .slice A2 p.colours.length c2, .bool p.active] T)) w.heap.size p A c A' c' os A2 c2 := by
  refine ⟨by simp [go_sem], by simp [go_sem], by simp [go_sem], by simp [go_sem], fun o => by simp [go_sem], hw, by simp, fun hc' => ?_, hm, ho.below blw_, hc.below blw_, hnd, hlo, hcl⟩
  rcases List.mem_append.1 hc' with h | h
  · have := ho.lt _ h; omega
  · have := hc.lt _ h; omega
end
theorem OPt.lo_ {lo lo' : Nat} {w : World} {v : Value} {p : PaintM} (h : OPt lo w v p) (hl : lo' ≤ lo) : OPt lo' w v p := by
  obtain ⟨A, c, A', c', os, A2, c2, rfl, h1, h2, h3, h4, h5, h6⟩ := h
  exact ⟨A, c, A', c', os, A2, c2, rfl, h1, h2, h3, h4, fun b hb => Nat.le_trans hl (h5 b hb), h6⟩
/-- A store below all that the painted heap has. -/
theorem OPt.setlt {lo : Nat} {w : World} {v : Value} {p : PaintM} (h : OPt lo w v p) {a : Addr} (ha : a.block < lo) (u : Value) : OPt lo (w.setCell a u) v p := by
  obtain ⟨A, c, A', c', os, A2, c2, rfl, h1, h2, h3, h4, h5, h6⟩ := h
  have hk : ∀ b ∈ hblks A os A' ++ blk A2, b ≠ a.block := fun b hb e => by have := h5 b hb; omega
  exact ⟨A, c, A', c', os, A2, c2, rfl, h1, h2.keep fun b hb => heap_setCell_ne _ _ _ (hk b (List.mem_append.2 (.inl hb))), h3.keep fun b hb => heap_setCell_ne _ _ _ (hk b (List.mem_append.2 (.inr hb))), h4, h5, h6⟩
set_option maxHeartbeats 400000 in
theorem start_any (lo g : Nat) (p : PaintM) (A A' A2 : Option Addr) (c c' c2 : Nat) (os : List OCell) (w : World) (h : PPx lo w g p A c A' c' os A2 c2) (hlt : ∀ r ∈ p.store.roots, r < p.colours.length) :
    Calls Try.prog 66 #[.pointer (some ⟨g, 0, none⟩)] w fun e w' => e = .returned (.tuple #[]) ∧ PPx lo w' g (startP p) A c A' c' os A2 c2 ∧ Only (g :: blk A2) w w' := by
  have q3 := h.q3
  cases ha : p.active
  · rw [ha] at q3
    have HA := Lib.hid ha
    have hq := h.act true
    have q1 := hq.q1
    have q2 := hq.q2
    have qf := h.qf 3
    have hg2 := h.g2
    have hcl := h.cl
    have hrl := hq.own.rlen
    have hcs := hq.cs
    have hroots : ∀ W, Only (blk A2) (w.setCell ⟨g, 3, none⟩ (.bool true)) W → RF fi W A' p.store.roots := fun W hW => (hq.own.roots.only hW fun b hb => hq.g1 b (List.mem_append.2 (.inr hb))).rf
    have H := Lib.hid hq
    have HR := Lib.hid hroots
    have HL := Lib.hid hlt
    clear h hq ha hroots hlt
    go_enter Try.func66, Try.ntmps66
    go_wp2_with fail
    refine (grey_any g A2 A' c2 c' p.colours p.store.roots _ q2 hcs hg2 HR.out hrl HL.out hcl).mono ?_
    rintro e w1 ⟨rfl, hO, hOn⟩
    go_wp2
    go_end0
    refine ⟨rfl, ?_, ((Only.refl _ _).setCell (.inl (by simp)) _).trans (hOn.mono fun b hb => by simp [hb])⟩
    have h1 := H.out.paint hO (greyL_len _ _) hOn
    unfold startP
    rw [HA.out, if_neg (by simp)]
    exact h1
  · rw [ha] at q3
    have HA := Lib.hid ha
    have H := Lib.hid h
    clear h ha
    go_enter Try.func66, Try.ntmps66
    go_wp2
    go_end0
    refine ⟨rfl, ?_, Only.refl _ _⟩
    unfold startP
    rw [HA.out, if_pos rfl]
    exact H.out
theorem SmallH.zero : SmallH zeroH := ⟨by simp [zeroH], by simp [zeroH], by simp [zeroH]⟩
set_option maxHeartbeats 4000000 in
theorem implPaintStart_any (v : Value) (p : PaintM) (w : World) (hv : RPt w v p) :
    Calls Try.prog 20 #[v] w fun e w' => ∃ v', e = .returned v' ∧ OPt w.heap.size w' v' (paintStartM p) ∧ Below w.heap.size w w' := by
  have hv0 := hv
  obtain ⟨A, c, A', c', A2, c2, rfl, -, -, -⟩ := hv
  cases hva : paintM p
  · have HV := Lib.hid hva
    go_enter Try.func20, Try.ntmps20
    go_wp2_with (go_at_call 16; refine (implPaintValid_any _ p _ (hv0.below blw_)).mono ?_; rw [HV.out]; rintro e w1 ⟨rfl, hB1⟩; obtain ⟨hbc, hbf, hbz⟩ := bcell hB1; have z0w1 : w.heap.size < w1.heap.size := (by (try simp at hbz); omega); have z1w1 : w.heap.size + 1 < w1.heap.size := (by (try simp at hbz); omega))
    refine bodyPost_ret (v := .agg #[.slice none 0 0, .slice none 0 0, .slice none 0 0, .bool false]) (by simp [results, Try.results20, go_sem, hbc]) rfl ⟨_, rfl, ?_, blw_⟩
    unfold paintStartM
    rw [HV.out]
    exact OPt.zero
  · obtain ⟨v1, v2, v3, v4, v5, v6⟩ := paint_small hva
    have HV := Lib.hid hva
    have HV3 := Lib.hid v3
    have HV5 := Lib.hid v5
    clear hva v3 v5 v6
    go_enter Try.func20, Try.ntmps20
    go_wp2_with (go_at_call 16; refine (implPaintValid_any _ p _ (hv0.below blw_)).mono ?_; rw [HV.out]; rintro e w1 ⟨rfl, hB1⟩; obtain ⟨hbc, hbf, hbz⟩ := bcell hB1; have z0w1 : w.heap.size < w1.heap.size := (by (try simp at hbz); omega); have z1w1 : w.heap.size + 1 < w1.heap.size := (by (try simp at hbz); omega); have HB1 : Below w.heap.size w w1 := blw_; have MC : Hid (∀ o, o < 3 → w1.cell? ⟨w.heap.size + 1, o, none⟩ = some (.slice none 0 0)) := (fun o ho => by rw [hbc _ _ (by first | omega | (simp; done) | (simp; omega))]; rcases (by omega : o = 0 ∨ o = 1 ∨ o = 2) with rfl | rfl | rfl <;> simp [go_sem]); have m3 : w1.cell? ⟨w.heap.size + 1, 3, none⟩ = some (.bool false) := (by rw [hbc _ _ (by first | omega | (simp; done) | (simp; omega))]; simp [go_sem]); have MF : Hid (∀ o, w1.frozen? ⟨w.heap.size + 1, o, none⟩ = false) := (fun o => by rw [hbf _ _ (by first | omega | (simp; done) | (simp; omega))]; simp [go_sem]); have k3 : w1.cell? ⟨w.heap.size, 3, none⟩ = some (.bool p.active) := (by rw [hbc _ _ (by first | omega | (simp; done) | (simp; omega))]; simp [go_sem]))
    refine (copyPaint_any _ p _ (hv0.below HB1) (by omega) (fun d hd => Nat.le_trans (HV3.out d hd) (by omega)) (by omega) (by omega)).mono ?_
    rintro e w2 ⟨v2, rfl, ho, hB2⟩
    obtain ⟨B, d, B', d', os, B2, d2, rfl, hm, hO, hC, hnd, hlo, hcl⟩ := ho
    have hz1 := HB1.size
    have hz2 := hB2.size
    have hP := PPx.mk_ hm hO hC hnd hlo hcl hz2 28
    have hB3 : Below w1.heap.size w1 (w2.alloc (.cells #[.slice B p.store.cells.length d, .slice B' p.store.roots.length d', .slice B2 p.colours.length d2, .bool p.active] 28)) := blw_
    have hlt5 := HV5.out
    go_wp2_with fail
    refine (start_any w1.heap.size _ p B B' B2 d d' d2 os _ hP hlt5).mono ?_
    rintro e w4 ⟨rfl, hP4, hOn⟩
    have hB4 : Below w1.heap.size w1 w4 := hB3.trans (hOn.below (by simp; omega) (fun b hb => by rcases List.mem_cons.1 hb with rfl | hb; exact hz2; exact hlo b (List.mem_append.2 (.inr hb))))
    have n0 := cell_below (MC.out 0 (by omega)) hB4
    have n1 := cell_below (MC.out 1 (by omega)) hB4
    have n2 := cell_below (MC.out 2 (by omega)) hB4
    have n3 := cell_below m3 hB4
    have nf : ∀ o, w4.frozen? ⟨w.heap.size + 1, o, none⟩ = false := fun o => ((bcell hB4).2.1 _ _ (by omega)).trans (MF.out o)
    have nf0 := nf 0
    have nf1 := nf 1
    have nf2 := nf 2
    have nf3 := nf 3
    have hw4 : Below w.heap.size w w4 := HB1.trans (hB4.mono hz1)
    have q0 := hP4.q0
    have q1 := hP4.q1
    have q2 := hP4.q2
    have q3 := hP4.q3
    have HP4 := Lib.hid hP4
    clear hB1 hbc hbf nf hP hP4 hB2 hB3 hOn
    go_wp2
    refine bodyPost_ret (v := .agg #[.slice B (startP p).store.cells.length d, .slice B' (startP p).store.roots.length d', .slice B2 (startP p).colours.length d2, .bool (startP p).active]) (by simp [results, Try.results20, go_sem, n0, n1, n2, n3]) rfl ⟨_, rfl, ?_, (((hw4.setCell (by simp) _).setCell (by simp) _).setCell (by simp) _).setCell (by simp) _⟩
    unfold paintStartM
    rw [HV.out, if_pos rfl]
    exact (((((HP4.out.opt).setlt (by simp; omega) _).setlt (by simp; omega) _).setlt (by simp; omega) _).setlt (by simp; omega) _).lo_ (by omega)
set_option maxHeartbeats 4000000 in
theorem specPaintStart_any (v : Value) (p : PaintM) (w : World) (hv : RPt w v p) :
    Calls Try.prog 22 #[v] w fun e w' => ∃ v', e = .returned v' ∧ OPt w.heap.size w' v' (paintStartM p) ∧ Below w.heap.size w w' := by
  have hv0 := hv
  obtain ⟨A, c, A', c', A2, c2, rfl, -, -, -⟩ := hv
  cases hva : paintM p
  · have HV := Lib.hid hva
    go_enter Try.func22, Try.ntmps22
    go_wp2_with (go_at_call 17; refine (specPaintValid_any _ p _ (hv0.below blw_)).mono ?_; rw [HV.out]; rintro e w1 ⟨rfl, hB1⟩; obtain ⟨hbc, hbf, hbz⟩ := bcell hB1; have z0w1 : w.heap.size < w1.heap.size := (by (try simp at hbz); omega); have z1w1 : w.heap.size + 1 < w1.heap.size := (by (try simp at hbz); omega))
    refine bodyPost_ret (v := .agg #[.slice none 0 0, .slice none 0 0, .slice none 0 0, .bool false]) (by simp [results, Try.results22, go_sem, hbc]) rfl ⟨_, rfl, ?_, blw_⟩
    unfold paintStartM
    rw [HV.out]
    exact OPt.zero
  · obtain ⟨v1, v2, v3, v4, v5, v6⟩ := paint_small hva
    have HV := Lib.hid hva
    have HV3 := Lib.hid v3
    have HV5 := Lib.hid v5
    clear hva v3 v5 v6
    go_enter Try.func22, Try.ntmps22
    go_wp2_with (go_at_call 17; refine (specPaintValid_any _ p _ (hv0.below blw_)).mono ?_; rw [HV.out]; rintro e w1 ⟨rfl, hB1⟩; obtain ⟨hbc, hbf, hbz⟩ := bcell hB1; have z0w1 : w.heap.size < w1.heap.size := (by (try simp at hbz); omega); have z1w1 : w.heap.size + 1 < w1.heap.size := (by (try simp at hbz); omega); have HB1 : Below w.heap.size w w1 := blw_; have MC : Hid (∀ o, o < 3 → w1.cell? ⟨w.heap.size + 1, o, none⟩ = some (.slice none 0 0)) := (fun o ho => by rw [hbc _ _ (by first | omega | (simp; done) | (simp; omega))]; rcases (by omega : o = 0 ∨ o = 1 ∨ o = 2) with rfl | rfl | rfl <;> simp [go_sem]); have m3 : w1.cell? ⟨w.heap.size + 1, 3, none⟩ = some (.bool false) := (by rw [hbc _ _ (by first | omega | (simp; done) | (simp; omega))]; simp [go_sem]); have MF : Hid (∀ o, w1.frozen? ⟨w.heap.size + 1, o, none⟩ = false) := (fun o => by rw [hbf _ _ (by first | omega | (simp; done) | (simp; omega))]; simp [go_sem]); have k3 : w1.cell? ⟨w.heap.size, 3, none⟩ = some (.bool p.active) := (by rw [hbc _ _ (by first | omega | (simp; done) | (simp; omega))]; simp [go_sem]))
    refine (l18Copy_any _ p _ (hv0.below HB1) (by omega) (fun d hd => Nat.le_trans (HV3.out d hd) (by omega)) (by omega) (by omega)).mono ?_
    rintro e w2 ⟨v2, rfl, ho, hB2⟩
    obtain ⟨B, d, B', d', os, B2, d2, rfl, hm, hO, hC, hnd, hlo, hcl⟩ := ho
    have hz1 := HB1.size
    have hz2 := hB2.size
    have hP := PPx.mk_ hm hO hC hnd hlo hcl hz2 28
    have hB3 : Below w1.heap.size w1 (w2.alloc (.cells #[.slice B p.store.cells.length d, .slice B' p.store.roots.length d', .slice B2 p.colours.length d2, .bool p.active] 28)) := blw_
    have k3c := cell_below k3 hB3
    have hlt5 := HV5.out
    obtain ⟨W3, hW3⟩ : ∃ W3, W3 = w2.alloc (.cells #[.slice B p.store.cells.length d, .slice B' p.store.roots.length d', .slice B2 p.colours.length d2, .bool p.active] 28) := ⟨_, rfl⟩
    cases ha : p.active
    · have HE : Hid (startP p = ⟨p.store, greyL p.colours p.store.roots, true⟩) := by unfold Hid startP; rw [ha]; rfl
      have HA := Lib.hid ha
      rw [ha] at hP hB3 k3c
      have hPa := PPx.mk_ (p := ⟨p.store, p.colours, true⟩) hm hO hC hnd hlo hcl hz2 28
      have hB3a : Below w1.heap.size w1 (w2.alloc (.cells #[.slice B p.store.cells.length d, .slice B' p.store.roots.length d', .slice B2 p.colours.length d2, .bool true] 28)) := blw_
      have HPA := Lib.hid hPa
      have hrl := hPa.own.rlen
      clear ha hP hB3 hPa hO hC hnd hm
      go_wp2
      go_loopw [4] (fun i wr => ∃ (j : Nat) (us : List Int), j ≤ p.store.roots.length ∧ i = .int .i64 j ∧ Hid (us = greyL p.colours (p.store.roots.take j)) ∧ OF 3 fi wr B2 d2 us ∧ Only (blk B2) (w2.alloc (.cells #[.slice B p.store.cells.length d, .slice B' p.store.roots.length d', .slice B2 p.colours.length d2, .bool true] 28)) wr) (fun i _ => p.store.roots.length - (intOf i).toNat)
      case atStart => exact ⟨0, _, by omega, rfl, rfl, HPA.out.cs, Only.refl _ _⟩
      case round =>
        obtain ⟨j, us, hj, rfl, HY, hU, hOn⟩ := hrel
        have hul : us.length = p.colours.length := by rw [HY.out]; exact greyL_len _ _
        have hPr := HPA.out.paint hU hul hOn
        have HUL := Lib.hid hul
        have q0 := hPr.q0
        have q1 := hPr.q1
        have q2 := hPr.q2
        have q3 := hPr.q3
        have HPR := Lib.hid hPr
        have hB4 : Below w1.heap.size w1 wr := hB3a.trans (hOn.below (by simp; omega) (fun b hb => hlo b (List.mem_append.2 (.inr hb))))
        have hRF := hPr.own.roots.rf
        clear hul hPr
        by_cases hlt : j < p.store.roots.length
        · obtain ⟨b, o, r, rfl, hr, c1, hb⟩ := hRF.at_ hlt
          have c1' : wr.cell? ⟨b, o + j, none⟩ = some (.int .i64 r) := c1
          have hrx := hlt5 r (List.mem_of_getElem? hr)
          have hrx2 : r < us.length := by rw [HUL.out]; exact hrx
          have hul2 : us.length ≤ 9223372036854775807 := by rw [HUL.out]; exact hcl
          have HS := Lib.hid (greyL_snoc (cols := p.colours) hr)
          have i1 : (0 : Int) ≤ (j : Int) := by omega
          have i2 : (j : Int) < (p.store.roots.length : Int) := by omega
          have hlo2 : ∀ b ∈ blk B2, w1.heap.size ≤ b := fun b hb => hlo b (List.mem_append.2 (.inr hb))
          clear hr c1 hRF
          go_wp2_with fail
          go_still_tail 7, (by kernel_rfl)
          change wpList _ _ _ _ _ wr.drew
          go_wp2_with fail
          (with_reducible refine (l18Grey_any B _ B2 _ _ d d' d2 true us r _ hU.drew hrx2 hul2).mono ?_)
          rintro e w5 ⟨rfl, hO5, hOn5⟩
          go_wp2
          go_roundw
          case rel => exact ⟨j + 1, _, by omega, by go_num, by unfold Hid; rw [HS.out, ← HY.out], hO5, (hOn.drew).trans hOn5⟩
          case measure => simp [intOf]; omega
        · have hke : j = p.store.roots.length := by omega
          have HK := Lib.hid hke
          have HE2 : Hid (startP p = ⟨p.store, us, true⟩) := by unfold Hid; rw [HE.out, HY.out, hke, List.take_length]
          have n0 := cell_below (MC.out 0 (by omega)) hB4
          have n1 := cell_below (MC.out 1 (by omega)) hB4
          have n2 := cell_below (MC.out 2 (by omega)) hB4
          have n3 := cell_below m3 hB4
          have nf : ∀ o, wr.frozen? ⟨w.heap.size + 1, o, none⟩ = false := fun o => ((bcell hB4).2.1 _ _ (by omega)).trans (MF.out o)
          have nf0 := nf 0
          have nf1 := nf 1
          have nf2 := nf 2
          have nf3 := nf 3
          have hw4 : Below w.heap.size w wr := HB1.trans (hB4.mono hz1)
          clear hke nf hRF hB1 hbc hbf hB2
          go_wp2
          refine bodyPost_ret (v := .agg #[.slice B p.store.cells.length d, .slice B' p.store.roots.length d', .slice B2 us.length d2, .bool true]) (by simp [results, Try.results22, go_sem, n0, n1, n2, n3]) rfl ⟨_, rfl, ?_, (((hw4.setCell (by simp) _).setCell (by simp) _).setCell (by simp) _).setCell (by simp) _⟩
          unfold paintStartM
          rw [HV.out, if_pos rfl, HE2.out]
          exact (((((HPR.out.opt).setlt (by simp; omega) _).setlt (by simp; omega) _).setlt (by simp; omega) _).setlt (by simp; omega) _).lo_ (by omega)
    · have HE : Hid (startP p = p) := by unfold Hid startP; rw [ha]; rfl
      have HA := Lib.hid ha
      rw [ha] at hP hB3 k3c
      have hB4 := hB3
      have hP4 := hP
      have n0 := cell_below (MC.out 0 (by omega)) hB4
      have n1 := cell_below (MC.out 1 (by omega)) hB4
      have n2 := cell_below (MC.out 2 (by omega)) hB4
      have n3 := cell_below m3 hB4
      have nf : ∀ o, (w2.alloc (.cells #[.slice B p.store.cells.length d, .slice B' p.store.roots.length d', .slice B2 p.colours.length d2, .bool true] 28)).frozen? ⟨w.heap.size + 1, o, none⟩ = false := fun o => ((bcell hB4).2.1 _ _ (by omega)).trans (MF.out o)
      have nf0 := nf 0
      have nf1 := nf 1
      have nf2 := nf 2
      have nf3 := nf 3
      have hw4 : Below w.heap.size w (w2.alloc (.cells #[.slice B p.store.cells.length d, .slice B' p.store.roots.length d', .slice B2 p.colours.length d2, .bool true] 28)) := HB1.trans (hB4.mono hz1)
      have q0 := hP4.q0
      have q1 := hP4.q1
      have q2 := hP4.q2
      have q3 := hP4.q3
      have HP4 := Lib.hid hP4
      clear hB1 hbc hbf nf hP hP4 hB2 hB3 ha
      go_wp2
      refine bodyPost_ret (v := .agg #[.slice B p.store.cells.length d, .slice B' p.store.roots.length d', .slice B2 p.colours.length d2, .bool p.active]) (by simp [results, Try.results22, go_sem, n0, n1, n2, n3]) rfl ⟨_, rfl, ?_, (((hw4.setCell (by simp) _).setCell (by simp) _).setCell (by simp) _).setCell (by simp) _⟩
      unfold paintStartM
      rw [HV.out, if_pos rfl, HE.out]
      exact (((((HP4.out.opt).setlt (by simp; omega) _).setlt (by simp; omega) _).setlt (by simp; omega) _).setlt (by simp; omega) _).lo_ (by omega)
end Go.Proofs.Ytopbngfghpgbnaa
