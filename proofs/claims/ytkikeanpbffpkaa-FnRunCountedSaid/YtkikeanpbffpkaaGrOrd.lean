/- Texts of one family, one behind the other: OrdV, OrdI. -/
import Derived.Test.YtkikeanpbffpkaaChecked
import Derived.Deep.DeepCutAuto
import Derived.IntWalk
import Derived.Test.YtkikeanpbffpkaaGrClo
import Derived.Test.YtkikeanpbffpkaaGrData
import Derived.Test.YtkikeanpbffpkaaSmall
import Derived.Test.YtkikeanpbffpkaaCloD
import Derived.Test.YtkikeanpbffpkaaGrCopy
/- The program's order in which cells are met. -/
namespace Go.Proofs.Ytkikeanpbffpkaa
open Go.RowKit
set_option maxRecDepth 100000
set_option linter.unusedSimpArgs false
set_option linter.unusedVariables false
/-- All 64 bits. -/
def allB : Nat := 18446744073709551615
theorem allB_has {r : Int} (h : r < 64) : hasB allB r = nonneg r := by
  unfold hasB nonneg
  rcases Classical.em (0 ≤ r) with h0 | h0
  · have : allB.testBit r.toNat = true := by
      show (2 ^ 64 - 1 : Nat).testBit r.toNat = true
      rw [Nat.testBit_two_pow_sub_one]; simp; omega
    rw [this]; simp
  · simp [h0]
theorem visL_congr {ok ok' : Int → Bool} (rs : List Int) : ∀ (st : (Nat → Bool) × List Int), (∀ r ∈ rs, ok r = ok' r) → visL ok st rs = visL ok' st rs := by
  induction rs with
  | nil => intro st _; rfl
  | cons r rs ih =>
    intro st h
    have e : vis1 ok st r = vis1 ok' st r := by unfold vis1; rw [h r (by simp)]
    show visL ok (vis1 ok st r) rs = visL ok' (vis1 ok' st r) rs
    rw [e]
    exact ih _ fun x hx => h x (by simp [hx])
theorem visA_vis {rs : List Int} (h : ∀ r ∈ rs, r < 64) (st : Nat × List Int) : ((visNL allB st rs).1.testBit, (visNL allB st rs).2) = visL nonneg (st.1.testBit, st.2) rs := by
  rw [visNL_vis allB rs st]
  exact visL_congr rs _ fun r hr => allB_has (h r hr)
theorem ord_leads {h : HeapM} (hv : validM h = true) : ∀ i, ∀ r ∈ (ordIt (refsAt h) nonneg h.roots i).2, leadsM h.cells r = true := by
  intro i
  induction i with
  | zero =>
    intro r hr
    obtain ⟨ns, e, h2, -⟩ := visL_work (ok := nonneg) h.roots (fun _ => false, [])
    have hr2 : r ∈ (visL nonneg (fun _ => false, []) h.roots).2 := hr
    rw [e] at hr2
    exact (validM_leads hv).2 r (h2 r (by simpa using hr2)).2.1
  | succ i ih =>
    intro r hr
    have hr2 : r ∈ (ordStep (refsAt h) nonneg i (ordIt (refsAt h) nonneg h.roots i)).2 := hr
    unfold ordStep at hr2
    split at hr2
    · next x hx =>
      obtain ⟨ns, e, h2, -⟩ := visL_work (ok := nonneg) (refsAt h x.toNat) (ordIt (refsAt h) nonneg h.roots i)
      rw [e] at hr2
      rcases List.mem_append.1 hr2 with h3 | h3
      · exact ih r h3
      · exact refsAt_leads hv _ r (h2 r h3).2.1
    · exact ih r hr2
theorem ordN_start {h : HeapM} (hv : validM h = true) {m : Nat} {wk : List Int} (e : (m, wk) = visNL allB (0, []) h.roots) : (m.testBit, wk) = ordIt (refsAt h) nonneg h.roots 0 := by
  have h1 := visA_vis (rs := h.roots) (fun r hr => by have := (validM_lt hv).2 r hr; have := (valid_small hv).1; omega) (0, [])
  rw [← e] at h1
  simp only at h1
  rw [h1]
  show visL nonneg _ h.roots = visL nonneg _ h.roots
  congr 2
  funext k; simp
theorem ordN_round {h : HeapM} (hv : validM h = true) {m m' : Nat} {wk wk' : List Int} {j : Nat} {r : Int} (hs : (m.testBit, wk) = ordIt (refsAt h) nonneg h.roots j) (hr : wk[j]? = some r) (e : (m', wk') = visNL allB (m, wk) (refsAt h r.toNat)) : (m'.testBit, wk') = ordIt (refsAt h) nonneg h.roots (j + 1) := by
  have h2 : (ordIt (refsAt h) nonneg h.roots j).2[j]? = some r := by rw [← hs]; exact hr
  rw [ordIt_next h2, ← hs]
  have h1 := visA_vis (rs := refsAt h r.toNat) (fun x hx => by have := leadsM_lt (refsAt_leads hv _ x hx); have := (valid_small hv).1; omega) (m, wk)
  rw [← e] at h1
  exact h1
theorem ordN_stop {h : HeapM} (hv : validM h = true) {m : Nat} {wk : List Int} {j : Nat} (hs : (m.testBit, wk) = ordIt (refsAt h) nonneg h.roots j) (hj : j = wk.length) : wk = orderM h := by
  have h1 : (ordIt (refsAt h) nonneg h.roots j).2 = wk := by rw [← hs]
  have := ord_end hv (i := j) (by rw [h1, hj])
  rw [← this, h1]
theorem ordN_len {h : HeapM} (hv : validM h = true) {m : Nat} {wk : List Int} {j : Nat} (hs : (m.testBit, wk) = ordIt (refsAt h) nonneg h.roots j) : wk.length ≤ h.cells.length := by
  have := (ord_ok hv j).le
  rw [← hs] at this
  simp only at this
  omega
theorem ordN_at {h : HeapM} (hv : validM h = true) {m : Nat} {wk : List Int} {j i : Nat} (hs : (m.testBit, wk) = ordIt (refsAt h) nonneg h.roots j) {r : Int} (hr : wk[i]? = some r) : ∃ k : Nat, r = (k : Int) ∧ k < h.cells.length := by
  have hm := (ord_ok hv j).met r (by rw [← hs]; exact List.mem_of_getElem? hr)
  have h0 : 0 ≤ r := by simpa [nonneg] using hm.1
  have hl := leadsM_lt (ord_leads hv j r (by rw [← hs]; exact List.mem_of_getElem? hr))
  obtain ⟨k, rfl⟩ := Int.eq_ofNat_of_zero_le h0
  exact ⟨k, rfl, by omega⟩
/-! ### The captured variables of metOrder -/
structure MoSt (lo : Nat) (w : World) (bm bk m : Nat) (S : Option Addr) (cS : Nat) (wk : List Int) : Prop where
  km : w.cell? ⟨bm, 0, none⟩ = some (.int .u64 (m : Int))
  fm : w.frozen? ⟨bm, 0, none⟩ = false
  kk : w.cell? ⟨bk, 0, none⟩ = some (.slice S wk.length cS)
  fk : w.frozen? ⟨bk, 0, none⟩ = false
  own : OF 3 fi w S cS wk
  nmk : bm ≠ bk
  am : bm ∉ blk S
  ak : bk ∉ blk S
  lm : lo ≤ bm
  lk : lo ≤ bk
  ls : ∀ b ∈ blk S, lo ≤ b
section
variable {lo : Nat} {w w' : World} {bm bk m : Nat} {S : Option Addr} {cS : Nat} {wk : List Int}
theorem MoSt.ltm (h : MoSt lo w bm bk m S cS wk) : bm < w.heap.size := World.block_lt_of_cell? w _ h.km
theorem MoSt.ltk (h : MoSt lo w bm bk m S cS wk) : bk < w.heap.size := World.block_lt_of_cell? w _ h.kk
theorem MoSt.setM (h : MoSt lo w bm bk m S cS wk) (m' : Nat) : MoSt lo (w.setCell ⟨bm, 0, none⟩ (.int .u64 (m' : Int))) bm bk m' S cS wk := by
  have h2 := h.nmk
  have h3 := h.nmk.symm
  have k1 := h.km
  have k2 := h.kk
  exact ⟨by simp [go_sem, k1], by simp [go_sem, h.fm], by simp [go_sem, k2, h2, h3], by simp [go_sem, h.fk], h.own.ne_ h.am, h.nmk, h.am, h.ak, h.lm, h.lk, h.ls⟩
theorem MoSt.setK (h : MoSt lo w bm bk m S cS wk) (hOn : Only (blk S) w w') {S' : Option Addr} {cS' n : Nat} {wk' : List Int} (hO : OF 3 fi w' S' cS' wk') (hn : n = wk'.length) (hg : ∀ g ∈ blk S', g ∈ blk S ∨ w.heap.size ≤ g) : MoSt lo (w'.setCell ⟨bk, 0, none⟩ (.slice S' n cS')) bm bk m S' cS' wk' := by
  have k1 := hOn.cell h.km h.am
  have k2 := hOn.cell h.kk h.ak
  have f1 := (hOn.frozenAt bm 0 h.ltm h.am).trans h.fm
  have f2 := (hOn.frozenAt bk 0 h.ltk h.ak).trans h.fk
  have lm := h.ltm
  have lk := h.ltk
  have key : ∀ b, b < w.heap.size → b ∉ blk S → b ∉ blk S' := fun b hb hn hc => by rcases hg b hc with h9 | h9; exact hn h9; omega
  have ak := key bk lk h.ak
  have h2 := h.nmk
  subst hn
  exact ⟨by simp [go_sem, k1, h2, h2.symm], by simp [go_sem, f1], by simp [go_sem, k2], by simp [go_sem, f2], hO.ne_ ak, h.nmk, key bm lm h.am, ak, h.lm, h.lk, fun b hb => by rcases hg b hb with h9 | h9; exact h.ls b h9; have := h.lm; omega⟩
theorem MoSt.below (h : MoSt lo w bm bk m S cS wk) (hb : Below w.heap.size w w') : MoSt lo w' bm bk m S cS wk :=
  ⟨cell_below h.km hb, ((bcell hb).2.1 _ _ h.ltm).trans h.fm, cell_below h.kk hb, ((bcell hb).2.1 _ _ h.ltk).trans h.fk, h.own.below hb, h.nmk, h.am, h.ak, h.lm, h.lk, h.ls⟩
end
set_option maxHeartbeats 4000000 in
theorem visitM_any (lo : Nat) (Ar : Option Addr) (rs : List Int) (cr : Nat) (bm bk m : Nat) (S : Option Addr) (cS : Nat) (wk : List Int) (w : World) (h : MoSt lo w bm bk m S cS wk) (hlo : lo ≤ w.heap.size) (hr : ∀ W, Below lo w W → RF fi W Ar rs)
    (hrl : rs.length ≤ 1048576) (hlt : ∀ r ∈ rs, r < 64) (hwk : wk.length ≤ 1048576) (hm : m < 18446744073709551616) :
    Calls Try.prog 94 #[.slice Ar rs.length cr, .pointer (some ⟨bm, 0, none⟩), .pointer (some ⟨bk, 0, none⟩)] w fun e w' => e = .returned (.tuple #[]) ∧
      (∃ S' cS', MoSt lo w' bm bk (visNL allB (m, wk) rs).1 S' cS' (visNL allB (m, wk) rs).2) ∧ Below lo w w' := by
  have HR := Lib.hid hr
  have HLT := Lib.hid hlt
  have H := Lib.hid h
  clear hr hlt h
  go_enter Try.func94, Try.ntmps94
  go_wp2
  go_loopw [8] (fun i wr => ∃ (j : Nat) (q : Nat × List Int) (S' : Option Addr) (cS' : Nat), j ≤ rs.length ∧ i = .int .i64 j ∧ Hid (q = visNL allB (m, wk) (rs.take j)) ∧ Hid (q.1 < 18446744073709551616 ∧ q.2.length ≤ 1048576 + j) ∧ MoSt lo wr bm bk q.1 S' cS' q.2 ∧ Below lo w wr) (fun i _ => rs.length - (intOf i).toNat)
  case atStart => exact ⟨0, (m, wk), S, cS, by omega, rfl, rfl, ⟨hm, by simpa using hwk⟩, H.out, Below.refl _ _⟩
  case round =>
    obtain ⟨j, ⟨n, us⟩, S', cS', hj, rfl, HQ, HB, hC, hBr⟩ := hrel
    have HC := Lib.hid hC
    have hn := HB.out.1
    have hul := HB.out.2
    simp only at hn hul
    have k1 := hC.km
    have k2 := hC.kk
    simp only at k1 k2
    have fm := hC.fm
    have fk := hC.fk
    have hbs := hBr.size
    by_cases hlt : j < rs.length
    · obtain ⟨b, o, r, rfl, gr, c1, hb⟩ := (HR.out wr hBr).at_ hlt
      have c1' : wr.cell? ⟨b, o + j, none⟩ = some (.int .i64 r) := c1
      have hr64 := HLT.out r (List.mem_of_getElem? gr)
      have HS := Lib.hid (visNL_snoc (s := allB) (st := (m, wk)) gr)
      have HB2 : Hid ((visN allB (n, us) r).1 < 18446744073709551616 ∧ (visN allB (n, us) r).2.length ≤ 1048576 + (j + 1)) := ⟨visN_lt hn hr64, by have := visN_len allB (n, us) r; simp only at this; omega⟩
      clear gr c1 hC
      have HQ2 := HQ.out
      rcases Classical.em (r < 0) with h0 | h0
      · have e : visN allB (n, us) r = (n, us) := visN_out (by rw [allB_has hr64]; simp [nonneg]; omega)
        have HN : Hid ((n, us) = visNL allB (m, wk) (rs.take (j + 1))) := by unfold Hid; rw [HS.out, ← HQ.out, e]
        rw [e] at HB2
        clear HQ2 e
        go_wp2_with fail
        go_roundw
        case rel => exact ⟨j + 1, (n, us), S', cS', by omega, by go_num, HN, HB2, HC.out, hBr⟩
        case measure => simp [intOf]; omega
      have hr0 : 0 ≤ r := by omega
      have h1 : hasB allB r = true := by rw [allB_has hr64]; simp [nonneg]; omega
      clear h0
      rcases bool_ft (hasB n r) with h2 | h2
      · have e : visN allB (n, us) r = (n ||| 2 ^ r.toNat, us ++ [r]) := visN_new h1 h2
        have HN : Hid ((n ||| 2 ^ r.toNat, us ++ [r]) = visNL allB (m, wk) (rs.take (j + 1))) := by unfold Hid; rw [HS.out, ← HQ.out, e]
        rw [e] at HB2
        have hne : bk ≠ bm := HC.out.nmk.symm
        have hne2 : bm ≠ bk := HC.out.nmk
        have hkz := HC.out.ltk
        have hmz := HC.out.ltm
        have hlm := HC.out.lm
        have hlk := HC.out.lk
        clear HQ2 e h1
        obtain ⟨n2, hn2⟩ : ∃ n2, n2 = n ||| 2 ^ r.toNat := ⟨_, rfl⟩
        rw [← hn2] at HN HB2
        have hN2 := Lib.hid hn2
        clear hn2
        go_wp2_with (go_at_call 54; ((with_reducible refine (has_any n _ _ (by omega) hn).mono ?_); rw [h2]); rintro e w2 ⟨rfl, rfl⟩)
        (with_reducible refine (add_any bm n r _ hr0 hr64 hn k1 fm).mono ?_)
        rintro e w2 ⟨rfl, hw2⟩
        rw [← hN2.out] at hw2
        have hA : MoSt lo w2 bm bk n2 S' cS' us := by rw [hw2]; exact (HC.out.setM n2).below (Below.drew (Below.refl _ _))
        have hBA : Below lo w w2 := by rw [hw2]; exact (hBr.setCell (p := ⟨bm, 0, none⟩) hlm _).drew
        have kkA := hA.kk
        have fkA := hA.fk
        have hzA := hBA.size
        have hkA := hA.ltk
        have HA := Lib.hid hA
        have HBA := Lib.hid hBA
        clear hw2 hA hBA k1 k2 fm fk c1' hkz hmz hBr
        go_wp2_with (at_builtin; refine wpList_appi rfl (.tmp 22) (.tmp 24) rfl us rfl rfl ((HA.out.below blw_).own) (RF.sing (x := r) (by simp [go_sem, fi])) (by simp; omega) ?_
                     intro S2 c2 w3 hO3 hOn3 hg3
                     have hA2 := HA.out.below (show Below w2.heap.size w2 (w2.alloc (.cells #[.int .i64 r] 3)) from blw_)
                     have kk3 := hOn3.cell hA2.kk hA2.ak
                     have fk3 := (hOn3.frozenAt bk 0 hA2.ltk hA2.ak).trans hA2.fk
                     have hkz3 := Nat.lt_of_lt_of_le hA2.ltk hOn3.size
                     have hC3 := Lib.hid (MoSt.setK hA2 hOn3 hO3 (n := us.length + 1) (by simp) hg3)
                     have hB3 : Below lo w w3 := (HBA.out.alloc (by omega) _).trans (hOn3.below (by simp; omega) hA2.ls)
                     clear hA2 hOn3 hO3 hg3)
        go_roundw
        case rel => exact ⟨j + 1, (n2, us ++ [r]), S2, c2, by omega, by go_num, HN, HB2, hC3.out, hB3.setCell HC.out.lk _⟩
        case measure => simp [intOf]; omega
      · have e : visN allB (n, us) r = (n, us) := visN_met h2
        have HN : Hid ((n, us) = visNL allB (m, wk) (rs.take (j + 1))) := by unfold Hid; rw [HS.out, ← HQ.out, e]
        rw [e] at HB2
        clear HQ2 e h1
        go_wp2_with (go_at_call 54; ((with_reducible refine (has_any n _ _ (by omega) hn).mono ?_); rw [h2]); rintro e w2 ⟨rfl, rfl⟩)
        go_roundw
        case rel => exact ⟨j + 1, (n, us), S', cS', by omega, by go_num, HN, HB2, HC.out, hBr⟩
        case measure => simp [intOf]; omega
    · have hje : j = rs.length := by omega
      have HF : Hid ((n, us) = visNL allB (m, wk) rs) := by unfold Hid; rw [HQ.out, hje, List.take_length]
      go_wp2
      go_end0
      refine ⟨rfl, ⟨S', cS', ?_⟩, hBr⟩
      rw [← HF.out]
      exact hC
set_option maxHeartbeats 4000000 in
theorem metOrder_any (v : Value) (h : HeapM) (w : World) (hv : RH w v h) (hva : validM h = true) :
    Calls Try.prog 74 #[v] w fun e w' => ∃ S c, e = .returned (.slice S (orderM h).length c) ∧ OF 3 fi w' S c (orderM h) ∧ (∀ b ∈ blk S, w.heap.size ≤ b) ∧ Below w.heap.size w w' := by
  obtain ⟨A, c, A', c', rfl, hc, hr, hl1, hl2⟩ := hv
  obtain ⟨v1, v2_, v3⟩ := valid_small hva
  have v2 : h.roots.length ≤ 4 := by omega
  obtain ⟨lt1, lt2⟩ := validM_lt hva
  have HVA := Lib.hid hva
  have HLT1 := Lib.hid lt1
  have HLT := Lib.hid lt2
  have HV3 := Lib.hid v3
  have HR := Lib.hid hr
  have HC := Lib.hid hc
  clear lt1 lt2 v3 v2_ hva hr hc
  have hS0 : MoSt (w.heap.size + 1) (((((w.alloc (.cells #[.slice A h.cells.length c, .slice A' h.roots.length c'] 26)).alloc (.cells #[] 3)).alloc (.cells #[.slice (some ⟨w.heap.size + 1, 0, none⟩) 0 0] 24)).alloc (.cells #[.int .u64 0] 73))) (w.heap.size + 1 + 1 + 1) (w.heap.size + 1 + 1) 0 (some ⟨w.heap.size + 1, 0, none⟩) 0 [] :=
    ⟨by simp [go_sem], by simp [go_sem], by simp [go_sem], by simp [go_sem], OF.new1 (by rw [Below.heap_alloc _ _ _ (by first | omega | (simp; done) | (simp; omega)), Below.heap_alloc _ _ _ (by first | omega | (simp; done) | (simp; omega))]; exact heap_alloc_at _ _ _ (by simp)), by omega, fun hc => (by have := mem_blk_some hc; omega), fun hc => (by have := mem_blk_some hc; omega), by omega, by omega, fun b hb => by have := mem_blk_some hb; omega⟩
  have hX0 : Below w.heap.size w (((((w.alloc (.cells #[.slice A h.cells.length c, .slice A' h.roots.length c'] 26)).alloc (.cells #[] 3)).alloc (.cells #[.slice (some ⟨w.heap.size + 1, 0, none⟩) 0 0] 24)).alloc (.cells #[.int .u64 0] 73))) := blw_
  have kb0 : (((((w.alloc (.cells #[.slice A h.cells.length c, .slice A' h.roots.length c'] 26)).alloc (.cells #[] 3)).alloc (.cells #[.slice (some ⟨w.heap.size + 1, 0, none⟩) 0 0] 24)).alloc (.cells #[.int .u64 0] 73))).cell? ⟨w.heap.size, 0, none⟩ = some (.slice A h.cells.length c) := by simp [go_sem]
  have kc0 : (((((w.alloc (.cells #[.slice A h.cells.length c, .slice A' h.roots.length c'] 26)).alloc (.cells #[] 3)).alloc (.cells #[.slice (some ⟨w.heap.size + 1, 0, none⟩) 0 0] 24)).alloc (.cells #[.int .u64 0] 73))).cell? ⟨w.heap.size, 1, none⟩ = some (.slice A' h.roots.length c') := by simp [go_sem]
  have hz0 : (((((w.alloc (.cells #[.slice A h.cells.length c, .slice A' h.roots.length c'] 26)).alloc (.cells #[] 3)).alloc (.cells #[.slice (some ⟨w.heap.size + 1, 0, none⟩) 0 0] 24)).alloc (.cells #[.int .u64 0] 73))).heap.size = w.heap.size + 4 := by simp
  go_enter Try.func74, Try.ntmps74
  go_wp2_with fail
  generalize (((((w.alloc (.cells #[.slice A h.cells.length c, .slice A' h.roots.length c'] 26)).alloc (.cells #[] 3)).alloc (.cells #[.slice (some ⟨w.heap.size + 1, 0, none⟩) 0 0] 24)).alloc (.cells #[.int .u64 0] 73))) = W0 at *
  (with_reducible refine (visitM_any (w.heap.size + 1) A' h.roots c' (w.heap.size + 1 + 1 + 1) (w.heap.size + 1 + 1) 0 (some ⟨w.heap.size + 1, 0, none⟩) 0 [] W0 hS0 (by omega) (fun W hW => HR.out.below (hX0.trans (hW.mono (Nat.le_succ _)))) (by omega) (fun r hr => by have := HLT.out r hr; omega) (by simp) (by omega)).mono ?_)
  rintro e w1 ⟨rfl, ⟨S1, c1, hS1⟩, hB1⟩
  have hX1 : Below w.heap.size w w1 := hX0.trans (hB1.mono (Nat.le_succ _))
  have kb1 := (hB1.cell (p := ⟨w.heap.size, 0, none⟩) (Nat.lt_succ_self _)).trans kb0
  obtain ⟨m1, wk1, hmw⟩ : ∃ m1 wk1, (m1, wk1) = visNL allB (0, []) h.roots := ⟨_, _, rfl⟩
  rw [← hmw] at hS1
  have HOI := Lib.hid (ordN_start HVA.out hmw)
  have hm64 : m1 < 18446744073709551616 := by have h7 := visNL_lt (s := allB) h.roots (st := (0, [])) (by simp) (fun r hr => by have := HLT.out r hr; omega); rw [← hmw] at h7; exact h7
  have HS1 := Lib.hid hS1
  clear hS0 hX0 kb0 kc0 hz0 hB1 hmw hS1
  go_wp2
  go_loopw [6] (fun i wr => ∃ (j m : Nat) (S : Option Addr) (cS : Nat) (wk : List Int), j ≤ wk.length ∧ i = .int .i64 j ∧ Hid ((m.testBit, wk) = ordIt (refsAt h) nonneg h.roots j) ∧ m < 18446744073709551616 ∧ Hid (MoSt (w.heap.size + 1) wr (w.heap.size + 1 + 1 + 1) (w.heap.size + 1 + 1) m S cS wk) ∧ wr.cell? ⟨w.heap.size, 0, none⟩ = some (.slice A h.cells.length c) ∧ Below w.heap.size w wr) (fun i _ => 40 - (intOf i).toNat)
  case atStart => exact ⟨0, m1, S1, c1, wk1, by omega, rfl, HOI, hm64, HS1, kb1, hX1⟩
  case round =>
    clear HOI hm64 HS1 kb1 hX1
    obtain ⟨j, m, S, cS, wk, hj, rfl, HOI, hm, HS, kb, hBr⟩ := hrel
    have q2 := HS.out.kk
    have hwl : wk.length ≤ 40 := by have := ordN_len HVA.out HOI.out; omega
    by_cases hlt : j < wk.length
    · have hwj := List.getElem?_eq_getElem hlt
      obtain ⟨r, hr⟩ : ∃ r, r = wk[j] := ⟨_, rfl⟩
      rw [← hr] at hwj
      clear hr
      obtain ⟨k, rfl, hkn⟩ := ordN_at HVA.out HOI.out hwj
      obtain ⟨q, rfl, hq⟩ := HS.out.own.some_ hlt
      have mq : wr.cell? ⟨q, j, none⟩ = some (.int .i64 (k : Int)) := HS.out.own.cell hwj
      obtain ⟨b, o, cc, Ac, cr2, rfl, gc, -, -, d2, hrr, hrl2, hb⟩ := HC.out.at_ hkn
      have d2' := cell_below d2 hBr
      have HRR := Lib.hid hrr
      have HCR := Lib.hid (refsAt_of gc)
      have hrl3 := HV3.out cc (List.mem_of_getElem? gc)
      have HLT3 : Hid (∀ r ∈ cc.refs, r < 64) := fun r hr => by have := HLT1.out cc (List.mem_of_getElem? gc) r hr; omega
      have HWJ := Lib.hid hwj
      have hjI : (j : Int) < (wk.length : Int) := by omega
      have hkI : (k : Int) < (h.cells.length : Int) := by omega
      have hj0 : (0 : Int) ≤ (j : Int) := by omega
      have hk0 : (0 : Int) ≤ (k : Int) := by omega
      have hbs := hBr.size
      have hbk := HS.out.ltk
      clear hwj gc hrr hrl2 d2
      go_upto_region 8 with fail
      go_still_tail 10, (by kernel_rfl)
      change wpList _ _ _ _ _ wr.drew
      go_wp2_with fail
      (with_reducible refine (visitM_any (w.heap.size + 1) Ac cc.refs cr2 (w.heap.size + 1 + 1 + 1) (w.heap.size + 1 + 1) m _ _ wk _ (HS.out.below (Below.drew (Below.refl _ _))) (by simp; omega) (fun W hW => HRR.out.below ((Below.drew hBr).trans (hW.mono (Nat.le_succ _)))) (by omega) HLT3.out (by omega) hm).mono ?_)
      rintro e w2 ⟨rfl, ⟨S2, c2, hS2⟩, hB2⟩
      have hX2 : Below w.heap.size w w2 := (Below.drew hBr).trans (hB2.mono (Nat.le_succ _))
      have kb2 := (hB2.cell (p := ⟨w.heap.size, 0, none⟩) (Nat.lt_succ_self _)).trans (show wr.drew.cell? ⟨w.heap.size, 0, none⟩ = _ from cell_below kb (Below.drew (Below.refl _ _)))
      obtain ⟨m2, wk2, hmw⟩ : ∃ m2 wk2, (m2, wk2) = visNL allB (m, wk) cc.refs := ⟨_, _, rfl⟩
      have HOI2 := Lib.hid (ordN_round HVA.out HOI.out HWJ.out (m' := m2) (wk' := wk2) (by rw [Int.toNat_natCast, HCR.out]; exact hmw))
      rw [← hmw] at hS2
      have hm2 : m2 < 18446744073709551616 := by have h7 := visNL_lt (s := allB) cc.refs (st := (m, wk)) hm HLT3.out; rw [← hmw] at h7; exact h7
      have hge : wk.length ≤ wk2.length := by
        have h8 : (visNL allB (m, wk) cc.refs).2.length = wk2.length := by rw [← hmw]
        rw [← h8]
        have key : ∀ (rs : List Int) (st : Nat × List Int), st.2.length ≤ (visNL allB st rs).2.length := by
          intro rs
          induction rs with
          | nil => intro st; exact Nat.le_refl _
          | cons r rs ih => intro st; refine Nat.le_trans ?_ (ih _); unfold visN; split <;> simp
        exact key cc.refs (m, wk)
      have HS2 := Lib.hid hS2
      clear hS2 hmw hB2 kb q2 mq d2' hBr
      go_wp2
      go_roundw
      case rel => exact ⟨j + 1, m2, S2, c2, wk2, by omega, by go_num, HOI2, hm2, HS2, kb2, hX2⟩
      case measure => simp [intOf]; omega
    · have hje : j = wk.length := by omega
      have HF := Lib.hid (ordN_stop HVA.out HOI.out hje)
      clear hje
      go_wp2
      go_ret
      exact ⟨S, cS, by rw [← HF.out]; rfl, by rw [← HF.out]; exact HS.out.own, fun b hb => by have := HS.out.ls b hb; omega, hBr⟩
end Go.Proofs.Ytkikeanpbffpkaa

/- The program's new numbers and its order of sliding. -/
namespace Go.Proofs.Ytkikeanpbffpkaa
open Go.RowKit
set_option maxRecDepth 100000
set_option linter.unusedSimpArgs false
set_option linter.unusedVariables false
def renM (nm : List Int) (r : Int) : Int := if 0 ≤ r then (nm[r.toNat]?).getD (-1) else r
theorem renM_new (order : List Int) (n : Nat) (r : Int) : newName order n r = renM (namesM order n order.length) r := rfl
theorem set_rep {n j : Nat} (h : j < n) : (List.replicate j (-1 : Int) ++ List.replicate (n - j) 0).set j (-1) = List.replicate (j + 1) (-1) ++ List.replicate (n - (j + 1)) 0 := by
  apply List.ext_getElem?
  intro i
  rw [List.getElem?_set]
  simp only [List.getElem?_append, List.getElem?_replicate, List.length_replicate, List.length_append]
  grind
set_option maxHeartbeats 4000000 in
theorem numbersIn_any (A : Option Addr) (order : List Int) (c n : Nat) (w : World) (hr : RF fi w A order) (hl : order.length ≤ 1048576) (hn : n ≤ 1048576) (hlt : ∀ r ∈ order, 0 ≤ r ∧ r < n) (hnd : order.Pairwise fun a b => a ≠ b) :
    Calls Try.prog 75 #[.slice A order.length c, .int .i64 (n : Int)] w fun e w' => ∃ S cS, e = .returned (.slice S n cS) ∧ OF 3 fi w' S cS (namesM order n order.length) ∧ (∀ b ∈ blk S, w.heap.size ≤ b) ∧ Below w.heap.size w w' := by
  have hmk := mk_ints n (by omega)
  have HR := Lib.hid hr
  have HLT := Lib.hid hlt
  have HND := Lib.hid hnd
  clear hr hlt hnd
  go_enter Try.func75, Try.ntmps75
  go_wp2
  go_loopw [13] (fun i wr => ∃ (j : Nat), j ≤ n ∧ i = .int .i64 j ∧ OF 3 fi wr (some ⟨w.heap.size, 0, none⟩) n (List.replicate j (-1) ++ List.replicate (n - j) 0) ∧ Below w.heap.size w wr) (fun i _ => n - (intOf i).toNat)
  case atStart => exact ⟨0, by omega, rfl, OF.of_blkn (by simp) (by simpa using heap_alloc_at w _ _ rfl) (by simp only [maxLen]; simp; omega), blw_⟩
  case round =>
    obtain ⟨j, hj, rfl, hO, Y⟩ := hrel
    by_cases hlt : j < n
    · have f2 := hO.frozen j
      have hlI : (j : Int) < (n : Int) := by omega
      have m2 : ∃ x, wr.cell? ⟨w.heap.size, j, none⟩ = some (.int .i64 x) := ⟨_, hO.cell (List.getElem?_eq_getElem (by simp; omega))⟩
      obtain ⟨x, m2⟩ := m2
      have HO2 := Lib.hid (hO.set_ j (-1 : Int))
      clear hO
      go_wp2
      go_roundw
      case rel => exact ⟨j + 1, by omega, by go_num, by rw [← set_rep hlt]; exact HO2.out, blw_⟩
      case measure => simp [intOf]; omega
    · have hje : j = n := by omega
      subst hje
      have HO := Lib.hid (show OF 3 fi wr (some ⟨w.heap.size, 0, none⟩) j (namesM order j 0) from by rw [namesM_zero]; simpa using hO)
      have hge : ¬ (j : Int) < (j : Int) := by omega
      clear hO
      go_wp2
      go_loopw [22] (fun i wr => ∃ (k : Nat), k ≤ order.length ∧ i = .int .i64 k ∧ Hid (OF 3 fi wr (some ⟨w.heap.size, 0, none⟩) j (namesM order j k)) ∧ Below w.heap.size w wr) (fun i _ => order.length - (intOf i).toNat)
      case atStart => exact ⟨0, by omega, rfl, HO, Y⟩
      case round =>
        clear HO Y
        obtain ⟨k, hk, rfl, HO, Y⟩ := hrel
        by_cases hlt2 : k < order.length
        · obtain ⟨b, o, r, rfl, gr, m, hb⟩ := HR.out.at_ hlt2
          have n1 : wr.cell? ⟨b, o + k, none⟩ = some (.int .i64 r) := cell_below m Y
          obtain ⟨hr0, hrn⟩ := HLT.out r (List.mem_of_getElem? gr)
          have HN := Lib.hid (namesM_succ (n := j) gr hr0 HND.out)
          have f2 := HO.out.frozen r.toNat
          have m2 : ∃ x, wr.cell? ⟨w.heap.size, r.toNat, none⟩ = some (.int .i64 x) := ⟨_, HO.out.cell (List.getElem?_eq_getElem (by rw [namesM_len]; omega))⟩
          obtain ⟨x, m2⟩ := m2
          have HO2 : Hid (OF 3 fi (wr.setCell ⟨w.heap.size, r.toNat, none⟩ (.int .i64 (k : Int))) (some ⟨w.heap.size, 0, none⟩) j (namesM order j (k + 1))) := by unfold Hid; rw [HN.out]; exact HO.out.set_ r.toNat (k : Int)
          clear m gr
          go_wp2
          go_roundw
          case rel => exact ⟨k + 1, by omega, by go_num, HO2, blw_⟩
          case measure => simp [intOf]; omega
        · have hke : k = order.length := by omega
          subst hke
          go_wp2
          go_ret
          exact ⟨_, _, rfl, HO.out, fun b hb => by rw [mem_blk_some hb]; exact Nat.le_refl _, Y⟩
set_option maxHeartbeats 4000000 in
theorem renamed_any (A B : Option Addr) (rs nm : List Int) (c c2 n : Nat) (w : World) (hr : RF fi w A rs) (hm : RF fi w B nm) (hl : rs.length ≤ 1048576) (hnl : nm.length = n) (hn : n ≤ 1048576) (hlt : ∀ r ∈ rs, r < n) :
    Calls Try.prog 76 #[.slice A rs.length c, .slice B n c2] w fun e w' => ∃ S cS, e = .returned (.slice S rs.length cS) ∧ OF 3 fi w' S cS (rs.map (renM nm)) ∧ (∀ b ∈ blk S, w.heap.size ≤ b) ∧ Below w.heap.size w w' := by
  have HR := Lib.hid hr
  have HM := Lib.hid hm
  have HLT := Lib.hid hlt
  have HNL := Lib.hid hnl
  clear hr hm hlt hnl
  go_enter Try.func76, Try.ntmps76
  go_wp2
  go_loopw [5, 11] (fun s5 i wr => ∃ (j : Nat) (S : Option Addr) (cS : Nat) (ys : List Int), j ≤ rs.length ∧ i = .int .i64 j ∧ s5 = .slice S ys.length cS ∧ Hid (ys = (rs.take j).map (renM nm)) ∧ Hid (OF 3 fi wr S cS ys) ∧ Hid (∀ b ∈ blk S, w.heap.size ≤ b) ∧ Below w.heap.size w wr) (fun _ i _ => rs.length - (intOf i).toNat)
  case atStart => exact ⟨0, some ⟨w.heap.size, 0, none⟩, 0, [], by omega, rfl, rfl, rfl, OF.new0 (heap_alloc_at _ _ _ rfl), fun b hb => by rw [mem_blk_some hb]; exact Nat.le_refl _, blw_⟩
  case round =>
    obtain ⟨j, S, cS, ys, hj, rfl, rfl, HY, HO, HLO, Y⟩ := hrel
    have sY := Y.size
    have hyl : ys.length ≤ 1048576 := by rw [HY.out, List.length_map, List.length_take]; omega
    by_cases hlt : j < rs.length
    · obtain ⟨b, o, r, rfl, gr, m, hb⟩ := HR.out.at_ hlt
      have n1 : wr.cell? ⟨b, o + j, none⟩ = some (.int .i64 r) := cell_below m Y
      have hrn := HLT.out r (List.mem_of_getElem? gr)
      have HS : Hid ((rs.take (j + 1)).map (renM nm) = ys ++ [renM nm r]) := by unfold Hid; rw [take_snoc_of gr, List.map_append, ← HY.out]; rfl
      clear m gr
      rcases Classical.em (r < 0) with h0 | h0
      · have HV : Hid (renM nm r = r) := by unfold Hid renM; rw [if_neg (by omega)]
        go_wp2_with (at_builtin; (refine wpList_appi rfl (.tmp 21) (.tmp 23) rfl ys rfl rfl (HO.out.below blw_) (RF.singR (x := r) (by simp [go_sem, fi])) (by simp; omega) ?_); intro S2 cS2 w3 hO3 hOn3 hg3; have HB3 : Hid (Below w.heap.size w w3) := Below.trans blw_ (hOn3.below (by simp; omega) (fun b9 hb9 => HLO.out b9 hb9)); have HLO3 : Hid (∀ b9 ∈ blk S2, w.heap.size ≤ b9) := (fun b9 hb9 => by rcases hg3 b9 hb9 with h9 | h9; exact HLO.out b9 h9; (try simp at h9); omega); have HO3 := Lib.hid hO3; clear hO3 hOn3 hg3)
        go_roundw
        case rel => exact ⟨j + 1, S2, cS2, ys ++ [r], by omega, by go_num, by simp, by unfold Hid; rw [HS.out, HV.out], HO3, HLO3, HB3.out⟩
        case measure => simp [intOf]; omega
      · have hr0 : 0 ≤ r := by omega
        have hrm : r.toNat < nm.length := by rw [HNL.out]; omega
        obtain ⟨b2, o2, x, rfl, gx, m2, hb2⟩ := HM.out.at_ hrm
        have n2 : wr.cell? ⟨b2, o2 + r.toNat, none⟩ = some (.int .i64 x) := cell_below m2 Y
        have HV : Hid (renM nm r = x) := by unfold Hid renM; rw [if_pos hr0, gx]; rfl
        have hrI : r < (n : Int) := hrn
        clear m2 gx h0
        go_wp2_with (at_builtin; (refine wpList_appi rfl (.tmp 21) (.tmp 23) rfl ys rfl rfl (HO.out.below blw_) (RF.singR (x := x) (by simp [go_sem, fi])) (by simp; omega) ?_); intro S2 cS2 w3 hO3 hOn3 hg3; have HB3 : Hid (Below w.heap.size w w3) := Below.trans blw_ (hOn3.below (by simp; omega) (fun b9 hb9 => HLO.out b9 hb9)); have HLO3 : Hid (∀ b9 ∈ blk S2, w.heap.size ≤ b9) := (fun b9 hb9 => by rcases hg3 b9 hb9 with h9 | h9; exact HLO.out b9 h9; (try simp at h9); omega); have HO3 := Lib.hid hO3; clear hO3 hOn3 hg3)
        go_roundw
        case rel => exact ⟨j + 1, S2, cS2, ys ++ [x], by omega, by go_num, by simp, by unfold Hid; rw [HS.out, HV.out], HO3, HLO3, HB3.out⟩
        case measure => simp [intOf]; omega
    · have hje : j = rs.length := by omega
      have HE : Hid (ys = rs.map (renM nm)) := by unfold Hid; rw [HY.out, hje, List.take_length]
      have HEL : Hid (ys.length = rs.length) := by unfold Hid; rw [HE.out, List.length_map]
      clear hje HY
      go_wp2
      go_ret
      exact ⟨S, cS, by rw [← HEL.out]; rfl, by rw [← HE.out]; exact HO.out, HLO.out, Y⟩
end Go.Proofs.Ytkikeanpbffpkaa
