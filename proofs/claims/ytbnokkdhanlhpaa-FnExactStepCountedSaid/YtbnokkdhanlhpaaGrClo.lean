/- Texts of one family, one behind the other: Clo. -/
import Derived.Test.YtbnokkdhanlhpaaChecked
import Derived.Deep.LoopGhost
import Derived.Test.YtbnokkdhanlhpaaGrCopy
import Derived.Test.YtbnokkdhanlhpaaGrOwn
import Derived.Test.YtbnokkdhanlhpaaSnapV
import Derived.Test.YtbnokkdhanlhpaaGrData
/- closure of the program: the cells of a set that can be reached by cells of the set. -/
namespace Go.Proofs.Ytbnokkdhanlhpaa
open Go.RowKit
set_option maxRecDepth 100000
set_option linter.unusedSimpArgs false
set_option linter.unusedVariables false
theorem RF.sing {α : Type} {f : α → Value} {w : World} {g : Nat} {x : α} (h : w.cell? ⟨g, 0, none⟩ = some (f x)) : RF f w (some ⟨g, 0, none⟩) [x] := fun i hi => by
  obtain rfl : i = 0 := by simp at hi; omega
  exact ⟨g, 0, x, rfl, rfl, h⟩
theorem OF.pop {α : Type} {T : TypeId} {f : α → Value} {w : World} {A : Option Addr} {c : Nat} {xs : List α} {x : α} (h : OF T f w A c (xs ++ [x])) : OF T f w A c xs := by
  obtain ⟨_, h2⟩ := h
  rcases h2 with ⟨-, h0⟩ | ⟨g', cap', cur, hv, hg, hh, hn, hcap, hsz, htake⟩
  · simp at h0
  · injection hv with e1 e2 e3
    subst e1; subst e3
    rw [List.length_append, List.length_singleton] at hn htake
    refine ⟨by simp, .inr ⟨g', c, cur, rfl, hg, hh, by omega, hcap, hsz, ?_⟩⟩
    have h3 : (cur.toList.take ((xs.length + 1) * 1)).take (xs.length * 1) = ((xs ++ [x]).map f).take (xs.length * 1) := by rw [htake]
    rw [List.take_take, Nat.min_eq_left (by omega)] at h3
    rw [h3]
    simp
/-! ### Sets as numbers -/
def visN (s : Nat) (st : Nat × List Int) (r : Int) : Nat × List Int := if hasB s r && !hasB st.1 r then (st.1 ||| 2 ^ r.toNat, st.2 ++ [r]) else st
def visNL (s : Nat) (st : Nat × List Int) (rs : List Int) : Nat × List Int := rs.foldl (visN s) st
theorem visNL_snoc {s : Nat} {st : Nat × List Int} {rs : List Int} {k : Nat} {r : Int} (h : rs[k]? = some r) : visNL s st (rs.take (k + 1)) = visN s (visNL s st (rs.take k)) r := by
  unfold visNL; rw [take_snoc_of h, List.foldl_append]; rfl
theorem visN_out {s : Nat} {st : Nat × List Int} {r : Int} (h : hasB s r = false) : visN s st r = st := by unfold visN; rw [h]; rfl
theorem visN_met {s : Nat} {st : Nat × List Int} {r : Int} (h : hasB st.1 r = true) : visN s st r = st := by unfold visN; rw [h]; simp
theorem visN_new {s : Nat} {st : Nat × List Int} {r : Int} (h : hasB s r = true) (h2 : hasB st.1 r = false) : visN s st r = (st.1 ||| 2 ^ r.toNat, st.2 ++ [r]) := by unfold visN; rw [h, h2]; rfl
theorem visN_vis (s : Nat) (st : Nat × List Int) (r : Int) : ((visN s st r).1.testBit, (visN s st r).2) = vis1 (hasB s) (st.1.testBit, st.2) r := by
  rcases bool_ft (hasB s r) with h1 | h1
  · rw [visN_out h1, vis1_no (.inl h1)]
  · have h0 : 0 ≤ r := by unfold hasB at h1; simp at h1; exact h1.1
    have h3 : hasB st.1 r = st.1.testBit r.toNat := hasB_at h0
    rcases bool_ft (hasB st.1 r) with h2 | h2
    · rw [visN_new h1 h2, vis1_yes h1 (by show st.1.testBit r.toNat = false; rw [← h3]; exact h2)]
      congr 1
      funext k
      rw [or_pow_test]
      by_cases e : k = r.toNat
      · simp [e]
      · have e2 : ¬ r.toNat = k := fun h => e h.symm
        simp [e, e2]
    · rw [visN_met h2, vis1_no (.inr (by show st.1.testBit r.toNat = true; rw [← h3]; exact h2))]
theorem visNL_vis (s : Nat) (rs : List Int) : ∀ st : Nat × List Int, ((visNL s st rs).1.testBit, (visNL s st rs).2) = visL (hasB s) (st.1.testBit, st.2) rs := by
  induction rs with
  | nil => intro st; rfl
  | cons r rs ih =>
    intro st
    show ((visNL s (visN s st r) rs).1.testBit, (visNL s (visN s st r) rs).2) = visL (hasB s) (vis1 (hasB s) (st.1.testBit, st.2) r) rs
    rw [ih, visN_vis]
theorem visN_lt {s : Nat} {st : Nat × List Int} {r : Int} (h : st.1 < 18446744073709551616) (hr : r < 64) : (visN s st r).1 < 18446744073709551616 := by
  unfold visN; split
  · exact or_lt64 h (pow_lt64 (by omega))
  · exact h
theorem visN_len (s : Nat) (st : Nat × List Int) (r : Int) : (visN s st r).2.length ≤ st.2.length + 1 := by unfold visN; split <;> simp
/-! ### The captured variables of closure -/
structure ClSt (lo : Nat) (w : World) (bw bm bk s m : Nat) (S : Option Addr) (cS : Nat) (wk : List Int) : Prop where
  kw : w.cell? ⟨bw, 0, none⟩ = some (.int .u64 (s : Int))
  km : w.cell? ⟨bm, 0, none⟩ = some (.int .u64 (m : Int))
  fm : w.frozen? ⟨bm, 0, none⟩ = false
  kk : w.cell? ⟨bk, 0, none⟩ = some (.slice S wk.length cS)
  fk : w.frozen? ⟨bk, 0, none⟩ = false
  own : OF 3 fi w S cS wk
  nwm : bw ≠ bm
  nwk : bw ≠ bk
  nmk : bm ≠ bk
  aw : bw ∉ blk S
  am : bm ∉ blk S
  ak : bk ∉ blk S
  lw : lo ≤ bw
  lm : lo ≤ bm
  lk : lo ≤ bk
  ls : ∀ b ∈ blk S, lo ≤ b
section
variable {lo : Nat} {w w' : World} {bw bm bk s m : Nat} {S : Option Addr} {cS : Nat} {wk : List Int}
theorem ClSt.ltw (h : ClSt lo w bw bm bk s m S cS wk) : bw < w.heap.size := World.block_lt_of_cell? w _ h.kw
theorem ClSt.ltm (h : ClSt lo w bw bm bk s m S cS wk) : bm < w.heap.size := World.block_lt_of_cell? w _ h.km
theorem ClSt.ltk (h : ClSt lo w bw bm bk s m S cS wk) : bk < w.heap.size := World.block_lt_of_cell? w _ h.kk
/-- The set has changed. -/
theorem ClSt.setM (h : ClSt lo w bw bm bk s m S cS wk) (m' : Nat) : ClSt lo (w.setCell ⟨bm, 0, none⟩ (.int .u64 (m' : Int))) bw bm bk s m' S cS wk := by
  have h1 := h.nwm
  have h2 := h.nmk
  have h3 := h.nmk.symm
  have k0 := h.kw
  have k1 := h.km
  have k2 := h.kk
  exact ⟨by simp [go_sem, k0, h1, h1.symm], by simp [go_sem, k1], by simp [go_sem, h.fm], by simp [go_sem, k2, h2, h3], by simp [go_sem, h.fk], h.own.ne_ h.am, h.nwm, h.nwk, h.nmk, h.aw, h.am, h.ak, h.lw, h.lm, h.lk, h.ls⟩
/-- Another row of work is stored. -/
theorem ClSt.setK (h : ClSt lo w bw bm bk s m S cS wk) (hOn : Only (blk S) w w') {S' : Option Addr} {cS' n : Nat} {wk' : List Int} (hO : OF 3 fi w' S' cS' wk') (hn : n = wk'.length) (hg : ∀ g ∈ blk S', g ∈ blk S ∨ w.heap.size ≤ g) : ClSt lo (w'.setCell ⟨bk, 0, none⟩ (.slice S' n cS')) bw bm bk s m S' cS' wk' := by
  have k0 := hOn.cell h.kw h.aw
  have k1 := hOn.cell h.km h.am
  have k2 := hOn.cell h.kk h.ak
  have f1 := (hOn.frozenAt bm 0 h.ltm h.am).trans h.fm
  have f2 := (hOn.frozenAt bk 0 h.ltk h.ak).trans h.fk
  have lw := h.ltw
  have lm := h.ltm
  have lk := h.ltk
  have key : ∀ b, b < w.heap.size → b ∉ blk S → b ∉ blk S' := fun b hb hn hc => by rcases hg b hc with h9 | h9; exact hn h9; omega
  have ak := key bk lk h.ak
  have h1 := h.nwk
  have h2 := h.nmk
  subst hn
  exact ⟨by simp [go_sem, k0, h1, h1.symm], by simp [go_sem, k1, h2, h2.symm], by simp [go_sem, f1], by simp [go_sem, k2], by simp [go_sem, f2], hO.ne_ ak, h.nwm, h.nwk, h.nmk, key bw lw h.aw, key bm lm h.am, ak, h.lw, h.lm, h.lk, fun b hb => by rcases hg b hb with h9 | h9; exact h.ls b h9; have := h.lw; omega⟩
theorem ClSt.below (h : ClSt lo w bw bm bk s m S cS wk) (hb : Below w.heap.size w w') : ClSt lo w' bw bm bk s m S cS wk :=
  ⟨cell_below h.kw hb, cell_below h.km hb, ((bcell hb).2.1 _ _ h.ltm).trans h.fm, cell_below h.kk hb, ((bcell hb).2.1 _ _ h.ltk).trans h.fk, h.own.below hb, h.nwm, h.nwk, h.nmk, h.aw, h.am, h.ak, h.lw, h.lm, h.lk, h.ls⟩
end
set_option maxHeartbeats 4000000 in
theorem visit_any (lo : Nat) (Ar : Option Addr) (rs : List Int) (cr : Nat) (bw bm bk s m : Nat) (S : Option Addr) (cS : Nat) (wk : List Int) (w : World) (h : ClSt lo w bw bm bk s m S cS wk) (hlo : lo ≤ w.heap.size) (hr : ∀ W, Below lo w W → RF fi W Ar rs)
    (hrl : rs.length ≤ 1048576) (hlt : ∀ r ∈ rs, r < 64) (hwk : wk.length ≤ 1048576) (hs : s < 18446744073709551616) (hm : m < 18446744073709551616) :
    Calls Try.prog 123 #[.slice Ar rs.length cr, .pointer (some ⟨bw, 0, none⟩), .pointer (some ⟨bm, 0, none⟩), .pointer (some ⟨bk, 0, none⟩)] w fun e w' => e = .returned (.tuple #[]) ∧
      (∃ S' cS', ClSt lo w' bw bm bk s (visNL s (m, wk) rs).1 S' cS' (visNL s (m, wk) rs).2) ∧ Below lo w w' := by
  have HR := Lib.hid hr
  have HLT := Lib.hid hlt
  have H := Lib.hid h
  clear hr hlt h
  go_enter Try.func123, Try.ntmps123
  go_wp2
  go_loopw [9] (fun i wr => ∃ (j : Nat) (q : Nat × List Int) (S' : Option Addr) (cS' : Nat), j ≤ rs.length ∧ i = .int .i64 j ∧ Hid (q = visNL s (m, wk) (rs.take j)) ∧ Hid (q.1 < 18446744073709551616 ∧ q.2.length ≤ 1048576 + j) ∧ ClSt lo wr bw bm bk s q.1 S' cS' q.2 ∧ Below lo w wr) (fun i _ => rs.length - (intOf i).toNat)
  case atStart => exact ⟨0, (m, wk), S, cS, by omega, rfl, rfl, ⟨hm, by simpa using hwk⟩, H.out, Below.refl _ _⟩
  case round =>
    obtain ⟨j, ⟨n, us⟩, S', cS', hj, rfl, HQ, HB, hC, hBr⟩ := hrel
    have HC := Lib.hid hC
    have hn := HB.out.1
    have hul := HB.out.2
    simp only at hn hul
    have k0 := hC.kw
    have k1 := hC.km
    have k2 := hC.kk
    simp only at k1 k2
    have fm := hC.fm
    have fk := hC.fk
    have hbs := hBr.size
    by_cases hlt : j < rs.length
    · obtain ⟨b, o, r, rfl, gr, c1, hb⟩ := (HR.out wr hBr).at_ hlt
      have c1' : wr.cell? ⟨b, o + j, none⟩ = some (.int .i64 r) := c1
      have hr64 := HLT.out r (List.mem_of_getElem? gr)
      have HS := Lib.hid (visNL_snoc (s := s) (st := (m, wk)) gr)
      have HB2 : Hid ((visN s (n, us) r).1 < 18446744073709551616 ∧ (visN s (n, us) r).2.length ≤ 1048576 + (j + 1)) := ⟨visN_lt hn hr64, by have := visN_len s (n, us) r; simp only at this; omega⟩
      clear gr c1 hC
      have HQ2 := HQ.out
      rcases bool_ft (hasB s r) with h1 | h1
      · have e : visN s (n, us) r = (n, us) := visN_out h1
        have HN : Hid ((n, us) = visNL s (m, wk) (rs.take (j + 1))) := by unfold Hid; rw [HS.out, ← HQ.out, e]
        rw [e] at HB2
        clear HQ2
        go_wp2_with (go_at_call 66; (with_reducible refine (has_any s _ _ (by omega) hs).mono ?_); rw [h1]; rintro e w2 ⟨rfl, rfl⟩)
        go_roundw
        case rel => exact ⟨j + 1, (n, us), S', cS', by omega, by go_num, HN, HB2, HC.out, hBr⟩
        case measure => simp [intOf]; omega
      have h0 : 0 ≤ r := by unfold hasB at h1; simp at h1; exact h1.1
      rcases bool_ft (hasB n r) with h2 | h2
      · have e : visN s (n, us) r = (n ||| 2 ^ r.toNat, us ++ [r]) := visN_new h1 h2
        have HN : Hid ((n ||| 2 ^ r.toNat, us ++ [r]) = visNL s (m, wk) (rs.take (j + 1))) := by unfold Hid; rw [HS.out, ← HQ.out, e]
        rw [e] at HB2
        have hne : bk ≠ bm := HC.out.nmk.symm
        have hne2 : bm ≠ bk := HC.out.nmk
        have hkz := HC.out.ltk
        have hmz := HC.out.ltm
        have hlm := HC.out.lm
        have hlk := HC.out.lk
        clear HQ2 e
        obtain ⟨n2, hn2⟩ : ∃ n2, n2 = n ||| 2 ^ r.toNat := ⟨_, rfl⟩
        rw [← hn2] at HN HB2
        have hN2 := Lib.hid hn2
        go_wp2_with (go_at_call 66; (first | ((with_reducible refine (has_any s _ _ (by omega) hs).mono ?_); rw [h1]) | ((with_reducible refine (has_any n _ _ (by omega) hn).mono ?_); rw [h2])); rintro e w2 ⟨rfl, rfl⟩)
        (with_reducible refine (add_any bm n r _ h0 hr64 hn k1 fm).mono ?_)
        rintro e w2 ⟨rfl, hw2⟩
        rw [← hN2.out] at hw2
        have hA : ClSt lo w2 bw bm bk s n2 S' cS' us := by rw [hw2]; exact (HC.out.setM n2).below (Below.drew (Below.refl _ _))
        have hBA : Below lo w w2 := by rw [hw2]; exact (hBr.setCell (p := ⟨bm, 0, none⟩) hlm _).drew
        have kkA := hA.kk
        have fkA := hA.fk
        have hzA := hBA.size
        have hkA := hA.ltk
        have HA := Lib.hid hA
        have HBA := Lib.hid hBA
        clear hw2 hA hBA k0 k1 k2 fm fk c1' hkz hmz hBr
        go_wp2_with (at_builtin; refine wpList_appi rfl (.tmp 24) (.tmp 26) rfl us rfl rfl ((HA.out.below blw_).own) (RF.sing (x := r) (by simp [go_sem, fi])) (by simp; omega) ?_
                     intro S2 c2 w3 hO3 hOn3 hg3
                     have hA2 := HA.out.below (show Below w2.heap.size w2 (w2.alloc (.cells #[.int .i64 r] 3)) from blw_)
                     have kk3 := hOn3.cell hA2.kk hA2.ak
                     have fk3 := (hOn3.frozenAt bk 0 hA2.ltk hA2.ak).trans hA2.fk
                     have hkz3 := Nat.lt_of_lt_of_le hA2.ltk hOn3.size
                     have hC3 := Lib.hid (ClSt.setK hA2 hOn3 hO3 (n := us.length + 1) (by simp) hg3)
                     have hB3 : Below lo w w3 := (HBA.out.alloc (by omega) _).trans (hOn3.below (by simp; omega) hA2.ls)
                     clear hA2 hOn3 hO3 hg3)
        go_roundw
        case rel => exact ⟨j + 1, (n2, us ++ [r]), S2, c2, by omega, by go_num, HN, HB2, hC3.out, hB3.setCell HC.out.lk _⟩
        case measure => simp [intOf]; omega
      · have e : visN s (n, us) r = (n, us) := visN_met h2
        have HN : Hid ((n, us) = visNL s (m, wk) (rs.take (j + 1))) := by unfold Hid; rw [HS.out, ← HQ.out, e]
        rw [e] at HB2
        clear HQ2 e
        go_wp2_with (go_at_call 66; (first | ((with_reducible refine (has_any s _ _ (by omega) hs).mono ?_); rw [h1]) | ((with_reducible refine (has_any n _ _ (by omega) hn).mono ?_); rw [h2])); rintro e w2 ⟨rfl, rfl⟩)
        go_roundw
        case rel => exact ⟨j + 1, (n, us), S', cS', by omega, by go_num, HN, HB2, HC.out, hBr⟩
        case measure => simp [intOf]; omega
    · have hje : j = rs.length := by omega
      have HF : Hid ((n, us) = visNL s (m, wk) rs) := by unfold Hid; rw [HQ.out, hje, List.take_length]
      go_wp2
      go_end0
      refine ⟨rfl, ⟨S', cS', ?_⟩, hBr⟩
      rw [← HF.out]
      exact hC
end Go.Proofs.Ytbnokkdhanlhpaa
