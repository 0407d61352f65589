/- What the exact laws do with counted heaps. -/
import Derived.Test.YtbnokkdhanlhpaaChecked
import Derived.Test.YtbnokkdhanlhpaaGrSz
import Derived.Test.YtbnokkdhanlhpaaGrTo
import Derived.Test.YtbnokkdhanlhpaaGrMark
namespace Go.Proofs.Ytbnokkdhanlhpaa
open Go.RowKit
set_option maxRecDepth 100000
set_option linter.unusedSimpArgs false
set_option linter.unusedVariables false
set_option maxHeartbeats 400000 in
theorem szCounted_any (v : Value) (p : CountM) (left : Int) (w : World) (hv : RCt w v p) (h0 : 0 ≤ left) (h1 : left ≤ 1048576) :
    Calls Try.prog 24 #[v, .int .i64 left] w fun e w' => e = .returned (.int .i64 (szH1 p.store p.counts.length left)) ∧ Below w.heap.size w w' := by
  obtain ⟨A, c, A', c', A2, c2, rfl, hh, hc, hcl⟩ := hv
  have hle := szH_le p.store left
  have hle2 := szI_le p.counts.length (szH p.store left)
  by_cases hneg : szH p.store left < 0
  · go_enter Try.func24, Try.ntmps24
    go_wp2_with (go_at_call 72; refine (szHeap_any _ p.store _ _ ((hh.below blw_).rh _ _) h0 h1).mono ?_; rintro e w1 ⟨rfl, hB⟩; obtain ⟨hbc, hbf, hbz⟩ := bcell hB; have z0w1 : w.heap.size < w1.heap.size := (by (try simp at hbz); omega))
    go_ret
    exact ⟨ret_int (by rw [szH1, if_pos hneg]), blw_⟩
  · by_cases hneg2 : szI p.counts.length (szH p.store left) < 0
    · go_enter Try.func24, Try.ntmps24
      go_wp2_with (first | (go_at_call 72; refine (szHeap_any _ p.store _ _ ((hh.below blw_).rh _ _) h0 h1).mono ?_; rintro e w1 ⟨rfl, hB⟩; obtain ⟨hbc, hbf, hbz⟩ := bcell hB; have z0w1 : w.heap.size < w1.heap.size := (by (try simp at hbz); omega)) | (go_at_call 73; refine (szIntS_any _ p.counts.length _ _ _ hcl (by omega) (by omega)).mono ?_; rintro e w2 ⟨rfl, rfl⟩))
      go_ret
      exact ⟨ret_int (by rw [szH1, if_neg (by omega)]; omega), blw_⟩
    · go_enter Try.func24, Try.ntmps24
      go_wp2_with (first | (go_at_call 72; refine (szHeap_any _ p.store _ _ ((hh.below blw_).rh _ _) h0 h1).mono ?_; rintro e w1 ⟨rfl, hB⟩; obtain ⟨hbc, hbf, hbz⟩ := bcell hB; have z0w1 : w.heap.size < w1.heap.size := (by (try simp at hbz); omega)) | (go_at_call 73; refine (szIntS_any _ p.counts.length _ _ _ hcl (by omega) (by omega)).mono ?_; rintro e w2 ⟨rfl, rfl⟩))
      go_ret
      exact ⟨ret_int (by rw [szH1, if_neg (by omega)]), blw_⟩
set_option maxHeartbeats 400000 in
theorem toCounted_any (v : Value) (p : CountM) (w : World) (hv : RCt w v p) (hn : p.store.cells.length ≤ 1048576) (hr : ∀ d ∈ p.store.cells, d.refs.length ≤ 1048576) (hn2 : p.store.roots.length ≤ 1048576) (hn3 : p.counts.length ≤ 1048576) :
    Calls Try.prog 25 #[v] w fun e w' => ∃ v', e = .returned v' ∧ OCt w.heap.size w' v' p ∧ Below w.heap.size w w' := by
  obtain ⟨A, c, A', c', A2, c2, rfl, hh, hc, -⟩ := hv
  go_enter Try.func25, Try.ntmps25
  go_wp2_with (first
    | (go_at_call 74; refine (toHeap_any _ p.store _ ((hh.below blw_).rh _ _) hn hr hn2).mono ?_; rintro e w1 ⟨v', rfl, ⟨B, d, B', d', os, rfl, hm, ho, hlo⟩, hB1⟩; obtain ⟨hbc, hbf, hbz⟩ := bcell hB1; have z0w1 : w.heap.size < w1.heap.size := (by (try simp at hbz); omega); have z1w1 : w.heap.size + 1 < w1.heap.size := (by (try simp at hbz); omega); have z2w1 : w.heap.size + 1 + 1 < w1.heap.size := (by (try simp at hbz); omega); have HM := Lib.hid hm; clear hm; have HL := Lib.hid hlo; clear hlo; have HO := Lib.hid ho; clear ho)
    | (go_at_call 75; refine (toIntS_own _ p.counts _ _ (hc.below blw_) hn3).mono ?_; rintro e w2 ⟨g', rfl, hg', ho', hB2⟩; obtain ⟨hbc2, hbf2, hbz2⟩ := bcell hB2; have z0w2 : w.heap.size < w2.heap.size := (by (try simp at hbz2); omega); have z1w2 : w.heap.size + 1 < w2.heap.size := (by (try simp at hbz2); omega); have z2w2 : w.heap.size + 1 + 1 < w2.heap.size := (by (try simp at hbz2); omega)))
  have hL := HL.out
  simp only [World.size_alloc] at hL
  simp only [World.size_setCell] at hg'
  refine bodyPost_ret (v := .agg #[.slice B p.store.cells.length d, .slice B' p.store.roots.length d', .slice (some ⟨g', 0, none⟩) p.counts.length p.counts.length]) (by simp [results, Try.results25, go_sem, hbc2, hbc, z0w1, z1w1, z2w1]) rfl ⟨_, rfl, ⟨B, d, B', d', os, _, _, rfl, HM.out, ?_, ?_, ?_, ?_, by omega⟩, blw_⟩
  · refine HO.out.keep fun b hb => ?_
    have h1 := hL b hb
    have h2 := HO.out.lt b hb
    (repeat (first | rw [heap_setCell_ne _ _ _ (by first | omega | (simp; done) | (simp; omega))] | rw [Below.block hB2 _ (by first | omega | (simp; done) | (simp; omega))] | rw [Below.heap_alloc _ _ _ (by first | omega | (simp; done) | (simp; omega))]))
  · refine ho'.keep fun b hb => ?_
    have h2 := ho'.lt b hb
    obtain rfl := mem_blk_some hb
    (repeat (first | rw [heap_setCell_ne _ _ _ (by first | omega | (simp; done) | (simp; omega))] | rw [Below.block hB2 _ (by first | omega | (simp; done) | (simp; omega))] | rw [Below.heap_alloc _ _ _ (by first | omega | (simp; done) | (simp; omega))]))
  · exact nodup_app1 HO.out.nodup (fun b hb => by have := HO.out.lt b hb; omega)
  · intro b hb
    rcases List.mem_append.1 hb with hb | hb
    · have := hL b hb
      omega
    · obtain rfl := mem_blk_some hb
      omega
set_option maxHeartbeats 400000 in
theorem eqCounted_any (v v' : Value) (p q : CountM) (w : World) (hv : RCt w v p) (hv' : RCt w v' q) :
    Calls Try.prog 27 #[v, v'] w fun e w' => e = .returned (.bool (eqB p q)) ∧ Below w.heap.size w w' := by
  obtain ⟨A, c, A', c', A2, c2, rfl, h1, h2, h3⟩ := hv
  obtain ⟨B, d, B', d', B2, d2, rfl, g1, g2, g3⟩ := hv'
  cases e1 : eqB p.store q.store
  · go_enter Try.func27, Try.ntmps27
    go_wp2_with (go_at_call 76; refine (eqHeap_any _ _ _ _ _ ((h1.below blw_).rh _ _) ((g1.below blw_).rh _ _)).mono ?_; rintro e w1 ⟨rfl, hB⟩; obtain ⟨hbc, hbf, hbz⟩ := bcell hB; have z0w1 : w.heap.size < w1.heap.size := (by (try simp at hbz); omega); have z1w1 : w.heap.size + 1 < w1.heap.size := (by (try simp at hbz); omega))
    go_ret
    exact ⟨ret_bool (eqB_ne fun e => eqB_false e1 (congrArg CountM.store e)).symm, blw_⟩
  · cases e2 : eqB p.counts q.counts
    · go_enter Try.func27, Try.ntmps27
      go_wp2_with (first
        | (go_at_call 76; refine (eqHeap_any _ _ _ _ _ ((h1.below blw_).rh _ _) ((g1.below blw_).rh _ _)).mono ?_; rintro e w1 ⟨rfl, hB⟩; obtain ⟨hbc, hbf, hbz⟩ := bcell hB; have z0w1 : w.heap.size < w1.heap.size := (by (try simp at hbz); omega); have z1w1 : w.heap.size + 1 < w1.heap.size := (by (try simp at hbz); omega))
        | (go_at_call 77; refine (eqIntS_any _ _ _ _ _ _ _ (h2.below blw_) (g2.below blw_) h3 g3).mono ?_; rintro e w2 ⟨rfl, n, rfl⟩))
      go_ret
      exact ⟨ret_bool (eqB_ne fun e => eqB_false e2 (congrArg CountM.counts e)).symm, blw_⟩
    · go_enter Try.func27, Try.ntmps27
      go_wp2_with (first
        | (go_at_call 76; refine (eqHeap_any _ _ _ _ _ ((h1.below blw_).rh _ _) ((g1.below blw_).rh _ _)).mono ?_; rintro e w1 ⟨rfl, hB⟩; obtain ⟨hbc, hbf, hbz⟩ := bcell hB; have z0w1 : w.heap.size < w1.heap.size := (by (try simp at hbz); omega); have z1w1 : w.heap.size + 1 < w1.heap.size := (by (try simp at hbz); omega))
        | (go_at_call 77; refine (eqIntS_any _ _ _ _ _ _ _ (h2.below blw_) (g2.below blw_) h3 g3).mono ?_; rintro e w2 ⟨rfl, n, rfl⟩))
      go_ret
      exact ⟨ret_bool (eqB_of (by
        have a1 := eqB_iff.1 e1
        have a2 := eqB_iff.1 e2
        cases p; cases q; simp at a1 a2; simp [a1, a2])).symm, blw_⟩
def OCB (lo hi : Nat) (w : World) (v : Value) (p : CountM) : Prop := ∃ A c A' c' os A2 c2, v = .agg #[.slice A p.store.cells.length c, .slice A' p.store.roots.length c', .slice A2 p.counts.length c2] ∧
  os.map (·.c) = p.store.cells ∧ OHs w A c A' c' os p.store.roots ∧ OF 3 fi w A2 c2 p.counts ∧ (hblks A os A' ++ blk A2).Nodup ∧ (∀ g ∈ hblks A os A' ++ blk A2, lo ≤ g ∧ g < hi) ∧ p.counts.length ≤ 9223372036854775807
section
variable {lo hi : Nat} {w w' : World} {v : Value}
theorem OCt.toB {p : CountM} (hh : OCt lo w v p) : OCB lo w.heap.size w v p := by
  obtain ⟨A, c, A', c', os, A2, c2, rfl, h1, h2, h3, h4, h5, h6⟩ := hh
  exact ⟨A, c, A', c', os, A2, c2, rfl, h1, h2, h3, h4, fun g hg => ⟨h5 g hg, (List.mem_append.1 hg).elim (h2.lt g) (h3.lt g)⟩, h6⟩
theorem OCB.keep {p : CountM} (hh : OCB lo hi w v p) (hk : ∀ g, lo ≤ g → g < hi → g < w.heap.size → w'.heap[g]? = w.heap[g]?) : OCB lo hi w' v p := by
  obtain ⟨A, c, A', c', os, A2, c2, rfl, h1, h2, h3, h4, h5, h6⟩ := hh
  exact ⟨A, c, A', c', os, A2, c2, rfl, h1, h2.keep fun g hg => hk g (h5 g (List.mem_append.2 (.inl hg))).1 (h5 g (List.mem_append.2 (.inl hg))).2 (h2.lt g hg), h3.keep fun g hg => hk g (h5 g (List.mem_append.2 (.inr hg))).1 (h5 g (List.mem_append.2 (.inr hg))).2 (h3.lt g hg), h4, h5, h6⟩
theorem OCB.below {p : CountM} (hh : OCB lo hi w v p) (hb : Below w.heap.size w w') : OCB lo hi w' v p := hh.keep fun g _ _ hg => hb.block g hg
theorem OCB.span {l k : Nat} {p : CountM} (hh : OCB lo hi w v p) (hb : Span l k w w') (hk : k ≤ lo ∨ hi ≤ l) : OCB lo hi w' v p := hh.keep fun g h1 h2 hg => hb.block g hg (by omega)
theorem OCB.rd {p : CountM} (hh : OCB lo hi w v p) : RCt w v p := by
  obtain ⟨A, c, A', c', os, A2, c2, rfl, h1, h2, h3, h4, h5, h6⟩ := hh
  exact ⟨A, c, A', c', A2, c2, rfl, h2.rhs h1, h3.rf, h6⟩
end
set_option maxHeartbeats 400000 in
theorem markCounted_law (lo hi : Nat) (w : World) (v : Value) (p : CountM) (k : Int) (ho : OCB lo hi w v p) (hs : SmallH p.store) (hs2 : p.counts.length ≤ 1048576) (hk0 : 0 ≤ k) (hk1 : k ≤ 1125899906842) :
    Calls Try.prog 28 #[v, .int .i64 k] w fun e w' => e = .returned (.int .i64 (k + (sizeN p : Int))) ∧ RCt w' v (markN p k) ∧ Span lo hi w w' := by
  obtain ⟨A, c, A', c', os, A2, c2, rfl, hm, hO, h2, hnd, hlo, h3⟩ := ho
  obtain ⟨hl, hl1, hr, hl2⟩ := hO.sizes hm hs
  rw [← hl]
  have hlt := hO.lt
  have hlt2 := h2.lt
  have hn1 : w.heap.size ∉ hblks A os A' := fun hc => by have := hlt _ hc; omega
  have hap : ∀ g ∈ blk A2, g ∉ hblks A os A' := fun g hg hc => by
    rw [List.nodup_append] at hnd
    exact hnd.2.2 g hc g hg rfl
  have hsz2 : sizeCs (os.map (·.c)) ≤ 1099513724928 := by
    refine Nat.le_trans (sizeCs_bound (os.map (·.c)) 1048576 (by simpa using hr)) ?_
    rw [List.length_map]
    omega
  have HL := Lib.hid hl
  have HM := Lib.hid hm
  have HAP := Lib.hid hap
  have hOw := hO.below (w' := w.alloc (.cells #[.slice A os.length c, .slice A' p.store.roots.length c', .slice A2 p.counts.length c2] 28)) blw_
  have h2w := h2.below (w' := w.alloc (.cells #[.slice A os.length c, .slice A' p.store.roots.length c', .slice A2 p.counts.length c2] 28)) blw_
  clear hl hm hap
  go_enter Try.func28, Try.ntmps28
  go_wp2_with (go_at_call 78; refine (markHeap_any _ _ os p.store.roots _ _ _ _ hOw hl1 hr hl2 hk0 hk1).mono ?_; rintro e w1 ⟨rfl, os', hO1, hm1, hb1, hOn1⟩; have y1 := hOn1.cell (p := ⟨w.heap.size, 2, none⟩) (v := .slice A2 p.counts.length c2) (by simp [go_sem]) hn1; have hF1 := h2w.only hOn1 HAP.out; have HM1 := Lib.hid hm1; have HB1 := Lib.hid hb1; clear hm1 hb1)
  refine (markIntS_any _ p.counts _ _ _ hF1 (by omega) (by omega) (by omega)).mono ?_
  rintro e w2 ⟨rfl, hF2, hO2⟩
  go_wp2
  go_ret
  have e1 : hblks A os' A' = hblks A os A' := by simp only [hblks, HB1.out]
  have hO1' := hO1.only hO2 (fun g hg hc => HAP.out g hc (by rw [← e1]; exact hg))
  have ha : Only (hblks A os A' ++ blk A2) w (w.alloc (.cells #[.slice A os.length c, .slice A' p.store.roots.length c', .slice A2 p.counts.length c2] 28)) := (Only.refl _ _).alloc _
  refine ⟨ret_int ?_, ?_, ((ha.trans (hOn1.mono fun g hg => List.mem_append.2 (.inl hg))).trans (hO2.mono fun g hg => List.mem_append.2 (.inr hg))).span hlo⟩
  · rw [HM.out]; simp [sizeN, sizeH]; omega
  · have h1 := markH_rhs HM.out hO1' HM1.out
    refine ⟨A, c, A', c', A2, c2, ?_, h1, ?_, ?_⟩
    · simp only [markN]
      rw [(markH_lens _ _).1, (markH_lens _ _).2, markI_len, ← HL.out]
    · have hx := hF2.rf
      rw [HM.out] at hx
      simp only [markN, sizeH]
      rw [show k + ((sizeCs p.store.cells + p.store.roots.length : Nat) : Int) = k + (sizeCs p.store.cells : Int) + (p.store.roots.length : Int) by omega]
      exact hx
    · simp only [markN, markI_len]
      exact h3
set_option maxHeartbeats 400000 in
theorem heldCounted_any (v : Value) (p : CountM) (k : Int) (w : World) (hv : RCt w v (markN p k)) (hs : SmallH p.store) (hs2 : p.counts.length ≤ 1048576) (hk0 : 0 ≤ k) (hk1 : k ≤ 1125899) :
    Calls Try.prog 29 #[v, .int .i64 k] w fun e w' => e = .returned (.int .i64 (k + (sizeN p : Int))) ∧ Below w.heap.size w w' := by
  obtain ⟨A, c, A', c', A2, c2, rfl, hh, hr, -⟩ := hv
  have hz := sizeCs_small hs
  have h3 := hs.roots
  have hH : sizeH p.store ≤ 1099514773504 := by unfold sizeH; omega
  have hr' : RF fi w A2 (markI p.counts.length (k + (sizeH p.store : Int))) := hr
  have hh' := hh.rh c c'
  rw [show (markN p k).counts.length = p.counts.length from markI_len _ _]
  have hh2 : RH w (.agg #[.slice A (markN p k).store.cells.length c, .slice A' (markN p k).store.roots.length c']) (markH p.store k) := hh'
  generalize (markN p k).store.cells.length = n1 at hh2 ⊢
  generalize (markN p k).store.roots.length = n2 at hh2 ⊢
  clear hr hh hh'
  go_enter Try.func29, Try.ntmps29
  go_wp2_with (go_at_call 80; refine (heldHeap_any _ p.store _ _ (hh2.below blw_) hs (by omega) (by omega)).mono ?_; rintro e w1 ⟨rfl, hB1⟩; obtain ⟨hbc, hbf, hbz⟩ := bcell hB1; have z0w1 : w.heap.size < w1.heap.size := (by (try simp at hbz); omega))
  refine (heldIntS_any _ p.counts.length _ _ _ (hr'.below blw_) (by omega) (by omega) (by omega)).mono ?_
  rintro e w' ⟨rfl, rfl⟩
  go_wp2
  go_ret
  exact ⟨ret_int (by simp [sizeN]; omega), blw_⟩
end Go.Proofs.Ytbnokkdhanlhpaa
