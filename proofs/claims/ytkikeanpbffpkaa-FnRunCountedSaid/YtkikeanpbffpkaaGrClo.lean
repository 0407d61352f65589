/- Texts of one family, one behind the other: Clo, CloL, CloC, CloR. -/
import Derived.Test.YtkikeanpbffpkaaChecked
import Derived.Deep.LoopGhost
import Derived.Test.YtkikeanpbffpkaaGrCopy
import Derived.Test.YtkikeanpbffpkaaGrOwn
import Derived.Test.YtkikeanpbffpkaaSnapV
import Derived.Test.YtkikeanpbffpkaaGrData
import Derived.Test.YtkikeanpbffpkaaGrTo
import Derived.Test.YtkikeanpbffpkaaSet
import Derived.Deep.RegionHeld3
import Derived.RegionTactic
import Derived.BigRegion
import Derived.Deep.DeepCutAuto
import Derived.Test.YtkikeanpbffpkaaGrHeap
/- closure of the program: the cells of a set that can be reached by cells of the set. -/
namespace Go.Proofs.Ytkikeanpbffpkaa
open Go.RowKit
set_option maxRecDepth 100000
set_option linter.unusedSimpArgs false
set_option linter.unusedVariables false
theorem RF.sing {α : Type} {f : α → Value} {w : World} {g : Nat} {x : α} (h : w.cell? ⟨g, 0, none⟩ = some (f x)) : RF f w (some ⟨g, 0, none⟩) [x] := fun i hi => by
  obtain rfl : i = 0 := by simp at hi; omega
  exact ⟨g, 0, x, rfl, rfl, h⟩
theorem OF.pop {α : Type} {T : TypeId} {f : α → Value} {w : World} {A : Option Addr} {c : Nat} {xs : List α} {x : α} (h : OF T f w A c (xs ++ [x])) : OF T f w A c xs := by
  obtain ⟨_, h2⟩ := h
  rcases h2 with ⟨-, h0⟩ | ⟨g', cap', cur, hv, hg, hh, hn, hcap, hsz, htake⟩
  · simp at h0
  · injection hv with e1 e2 e3
    subst e1; subst e3
    rw [List.length_append, List.length_singleton] at hn htake
    refine ⟨by simp, .inr ⟨g', c, cur, rfl, hg, hh, by omega, hcap, hsz, ?_⟩⟩
    have h3 : (cur.toList.take ((xs.length + 1) * 1)).take (xs.length * 1) = ((xs ++ [x]).map f).take (xs.length * 1) := by rw [htake]
    rw [List.take_take, Nat.min_eq_left (by omega)] at h3
    rw [h3]
    simp
/-! ### Sets as numbers -/
def visN (s : Nat) (st : Nat × List Int) (r : Int) : Nat × List Int := if hasB s r && !hasB st.1 r then (st.1 ||| 2 ^ r.toNat, st.2 ++ [r]) else st
def visNL (s : Nat) (st : Nat × List Int) (rs : List Int) : Nat × List Int := rs.foldl (visN s) st
theorem visNL_snoc {s : Nat} {st : Nat × List Int} {rs : List Int} {k : Nat} {r : Int} (h : rs[k]? = some r) : visNL s st (rs.take (k + 1)) = visN s (visNL s st (rs.take k)) r := by
  unfold visNL; rw [take_snoc_of h, List.foldl_append]; rfl
theorem visN_out {s : Nat} {st : Nat × List Int} {r : Int} (h : hasB s r = false) : visN s st r = st := by unfold visN; rw [h]; rfl
theorem visN_met {s : Nat} {st : Nat × List Int} {r : Int} (h : hasB st.1 r = true) : visN s st r = st := by unfold visN; rw [h]; simp
theorem visN_new {s : Nat} {st : Nat × List Int} {r : Int} (h : hasB s r = true) (h2 : hasB st.1 r = false) : visN s st r = (st.1 ||| 2 ^ r.toNat, st.2 ++ [r]) := by unfold visN; rw [h, h2]; rfl
theorem visN_vis (s : Nat) (st : Nat × List Int) (r : Int) : ((visN s st r).1.testBit, (visN s st r).2) = vis1 (hasB s) (st.1.testBit, st.2) r := by
  rcases bool_ft (hasB s r) with h1 | h1
  · rw [visN_out h1, vis1_no (.inl h1)]
  · have h0 : 0 ≤ r := by unfold hasB at h1; simp at h1; exact h1.1
    have h3 : hasB st.1 r = st.1.testBit r.toNat := hasB_at h0
    rcases bool_ft (hasB st.1 r) with h2 | h2
    · rw [visN_new h1 h2, vis1_yes h1 (by show st.1.testBit r.toNat = false; rw [← h3]; exact h2)]
      congr 1
      funext k
      rw [or_pow_test]
      by_cases e : k = r.toNat
      · simp [e]
      · have e2 : ¬ r.toNat = k := fun h => e h.symm
        simp [e, e2]
    · rw [visN_met h2, vis1_no (.inr (by show st.1.testBit r.toNat = true; rw [← h3]; exact h2))]
theorem visNL_vis (s : Nat) (rs : List Int) : ∀ st : Nat × List Int, ((visNL s st rs).1.testBit, (visNL s st rs).2) = visL (hasB s) (st.1.testBit, st.2) rs := by
  induction rs with
  | nil => intro st; rfl
  | cons r rs ih =>
    intro st
    show ((visNL s (visN s st r) rs).1.testBit, (visNL s (visN s st r) rs).2) = visL (hasB s) (vis1 (hasB s) (st.1.testBit, st.2) r) rs
    rw [ih, visN_vis]
theorem visN_lt {s : Nat} {st : Nat × List Int} {r : Int} (h : st.1 < 18446744073709551616) (hr : r < 64) : (visN s st r).1 < 18446744073709551616 := by
  unfold visN; split
  · exact or_lt64 h (pow_lt64 (by omega))
  · exact h
theorem visN_len (s : Nat) (st : Nat × List Int) (r : Int) : (visN s st r).2.length ≤ st.2.length + 1 := by unfold visN; split <;> simp
/-! ### The captured variables of closure -/
structure ClSt (lo : Nat) (w : World) (bw bm bk s m : Nat) (S : Option Addr) (cS : Nat) (wk : List Int) : Prop where
  kw : w.cell? ⟨bw, 0, none⟩ = some (.int .u64 (s : Int))
  km : w.cell? ⟨bm, 0, none⟩ = some (.int .u64 (m : Int))
  fm : w.frozen? ⟨bm, 0, none⟩ = false
  kk : w.cell? ⟨bk, 0, none⟩ = some (.slice S wk.length cS)
  fk : w.frozen? ⟨bk, 0, none⟩ = false
  own : OF 3 fi w S cS wk
  nwm : bw ≠ bm
  nwk : bw ≠ bk
  nmk : bm ≠ bk
  aw : bw ∉ blk S
  am : bm ∉ blk S
  ak : bk ∉ blk S
  lw : lo ≤ bw
  lm : lo ≤ bm
  lk : lo ≤ bk
  ls : ∀ b ∈ blk S, lo ≤ b
section
variable {lo : Nat} {w w' : World} {bw bm bk s m : Nat} {S : Option Addr} {cS : Nat} {wk : List Int}
theorem ClSt.ltw (h : ClSt lo w bw bm bk s m S cS wk) : bw < w.heap.size := World.block_lt_of_cell? w _ h.kw
theorem ClSt.ltm (h : ClSt lo w bw bm bk s m S cS wk) : bm < w.heap.size := World.block_lt_of_cell? w _ h.km
theorem ClSt.ltk (h : ClSt lo w bw bm bk s m S cS wk) : bk < w.heap.size := World.block_lt_of_cell? w _ h.kk
/-- The set has changed. -/
theorem ClSt.setM (h : ClSt lo w bw bm bk s m S cS wk) (m' : Nat) : ClSt lo (w.setCell ⟨bm, 0, none⟩ (.int .u64 (m' : Int))) bw bm bk s m' S cS wk := by
  have h1 := h.nwm
  have h2 := h.nmk
  have h3 := h.nmk.symm
  have k0 := h.kw
  have k1 := h.km
  have k2 := h.kk
  exact ⟨by simp [go_sem, k0, h1, h1.symm], by simp [go_sem, k1], by simp [go_sem, h.fm], by simp [go_sem, k2, h2, h3], by simp [go_sem, h.fk], h.own.ne_ h.am, h.nwm, h.nwk, h.nmk, h.aw, h.am, h.ak, h.lw, h.lm, h.lk, h.ls⟩
/-- Another row of work is stored. -/
theorem ClSt.setK (h : ClSt lo w bw bm bk s m S cS wk) (hOn : Only (blk S) w w') {S' : Option Addr} {cS' n : Nat} {wk' : List Int} (hO : OF 3 fi w' S' cS' wk') (hn : n = wk'.length) (hg : ∀ g ∈ blk S', g ∈ blk S ∨ w.heap.size ≤ g) : ClSt lo (w'.setCell ⟨bk, 0, none⟩ (.slice S' n cS')) bw bm bk s m S' cS' wk' := by
  have k0 := hOn.cell h.kw h.aw
  have k1 := hOn.cell h.km h.am
  have k2 := hOn.cell h.kk h.ak
  have f1 := (hOn.frozenAt bm 0 h.ltm h.am).trans h.fm
  have f2 := (hOn.frozenAt bk 0 h.ltk h.ak).trans h.fk
  have lw := h.ltw
  have lm := h.ltm
  have lk := h.ltk
  have key : ∀ b, b < w.heap.size → b ∉ blk S → b ∉ blk S' := fun b hb hn hc => by rcases hg b hc with h9 | h9; exact hn h9; omega
  have ak := key bk lk h.ak
  have h1 := h.nwk
  have h2 := h.nmk
  subst hn
  exact ⟨by simp [go_sem, k0, h1, h1.symm], by simp [go_sem, k1, h2, h2.symm], by simp [go_sem, f1], by simp [go_sem, k2], by simp [go_sem, f2], hO.ne_ ak, h.nwm, h.nwk, h.nmk, key bw lw h.aw, key bm lm h.am, ak, h.lw, h.lm, h.lk, fun b hb => by rcases hg b hb with h9 | h9; exact h.ls b h9; have := h.lw; omega⟩
theorem ClSt.below (h : ClSt lo w bw bm bk s m S cS wk) (hb : Below w.heap.size w w') : ClSt lo w' bw bm bk s m S cS wk :=
  ⟨cell_below h.kw hb, cell_below h.km hb, ((bcell hb).2.1 _ _ h.ltm).trans h.fm, cell_below h.kk hb, ((bcell hb).2.1 _ _ h.ltk).trans h.fk, h.own.below hb, h.nwm, h.nwk, h.nmk, h.aw, h.am, h.ak, h.lw, h.lm, h.lk, h.ls⟩
end
set_option maxHeartbeats 4000000 in
theorem visit_any (lo : Nat) (Ar : Option Addr) (rs : List Int) (cr : Nat) (bw bm bk s m : Nat) (S : Option Addr) (cS : Nat) (wk : List Int) (w : World) (h : ClSt lo w bw bm bk s m S cS wk) (hlo : lo ≤ w.heap.size) (hr : ∀ W, Below lo w W → RF fi W Ar rs)
    (hrl : rs.length ≤ 1048576) (hlt : ∀ r ∈ rs, r < 64) (hwk : wk.length ≤ 1048576) (hs : s < 18446744073709551616) (hm : m < 18446744073709551616) :
    Calls Try.prog 95 #[.slice Ar rs.length cr, .pointer (some ⟨bw, 0, none⟩), .pointer (some ⟨bm, 0, none⟩), .pointer (some ⟨bk, 0, none⟩)] w fun e w' => e = .returned (.tuple #[]) ∧
      (∃ S' cS', ClSt lo w' bw bm bk s (visNL s (m, wk) rs).1 S' cS' (visNL s (m, wk) rs).2) ∧ Below lo w w' := by
  have HR := Lib.hid hr
  have HLT := Lib.hid hlt
  have H := Lib.hid h
  clear hr hlt h
  go_enter Try.func95, Try.ntmps95
  go_wp2
  go_loopw [9] (fun i wr => ∃ (j : Nat) (q : Nat × List Int) (S' : Option Addr) (cS' : Nat), j ≤ rs.length ∧ i = .int .i64 j ∧ Hid (q = visNL s (m, wk) (rs.take j)) ∧ Hid (q.1 < 18446744073709551616 ∧ q.2.length ≤ 1048576 + j) ∧ ClSt lo wr bw bm bk s q.1 S' cS' q.2 ∧ Below lo w wr) (fun i _ => rs.length - (intOf i).toNat)
  case atStart => exact ⟨0, (m, wk), S, cS, by omega, rfl, rfl, ⟨hm, by simpa using hwk⟩, H.out, Below.refl _ _⟩
  case round =>
    obtain ⟨j, ⟨n, us⟩, S', cS', hj, rfl, HQ, HB, hC, hBr⟩ := hrel
    have HC := Lib.hid hC
    have hn := HB.out.1
    have hul := HB.out.2
    simp only at hn hul
    have k0 := hC.kw
    have k1 := hC.km
    have k2 := hC.kk
    simp only at k1 k2
    have fm := hC.fm
    have fk := hC.fk
    have hbs := hBr.size
    by_cases hlt : j < rs.length
    · obtain ⟨b, o, r, rfl, gr, c1, hb⟩ := (HR.out wr hBr).at_ hlt
      have c1' : wr.cell? ⟨b, o + j, none⟩ = some (.int .i64 r) := c1
      have hr64 := HLT.out r (List.mem_of_getElem? gr)
      have HS := Lib.hid (visNL_snoc (s := s) (st := (m, wk)) gr)
      have HB2 : Hid ((visN s (n, us) r).1 < 18446744073709551616 ∧ (visN s (n, us) r).2.length ≤ 1048576 + (j + 1)) := ⟨visN_lt hn hr64, by have := visN_len s (n, us) r; simp only at this; omega⟩
      clear gr c1 hC
      have HQ2 := HQ.out
      rcases bool_ft (hasB s r) with h1 | h1
      · have e : visN s (n, us) r = (n, us) := visN_out h1
        have HN : Hid ((n, us) = visNL s (m, wk) (rs.take (j + 1))) := by unfold Hid; rw [HS.out, ← HQ.out, e]
        rw [e] at HB2
        clear HQ2
        go_wp2_with (go_at_call 54; (with_reducible refine (has_any s _ _ (by omega) hs).mono ?_); rw [h1]; rintro e w2 ⟨rfl, rfl⟩)
        go_roundw
        case rel => exact ⟨j + 1, (n, us), S', cS', by omega, by go_num, HN, HB2, HC.out, hBr⟩
        case measure => simp [intOf]; omega
      have h0 : 0 ≤ r := by unfold hasB at h1; simp at h1; exact h1.1
      rcases bool_ft (hasB n r) with h2 | h2
      · have e : visN s (n, us) r = (n ||| 2 ^ r.toNat, us ++ [r]) := visN_new h1 h2
        have HN : Hid ((n ||| 2 ^ r.toNat, us ++ [r]) = visNL s (m, wk) (rs.take (j + 1))) := by unfold Hid; rw [HS.out, ← HQ.out, e]
        rw [e] at HB2
        have hne : bk ≠ bm := HC.out.nmk.symm
        have hne2 : bm ≠ bk := HC.out.nmk
        have hkz := HC.out.ltk
        have hmz := HC.out.ltm
        have hlm := HC.out.lm
        have hlk := HC.out.lk
        clear HQ2 e
        obtain ⟨n2, hn2⟩ : ∃ n2, n2 = n ||| 2 ^ r.toNat := ⟨_, rfl⟩
        rw [← hn2] at HN HB2
        have hN2 := Lib.hid hn2
        go_wp2_with (go_at_call 54; (first | ((with_reducible refine (has_any s _ _ (by omega) hs).mono ?_); rw [h1]) | ((with_reducible refine (has_any n _ _ (by omega) hn).mono ?_); rw [h2])); rintro e w2 ⟨rfl, rfl⟩)
        (with_reducible refine (add_any bm n r _ h0 hr64 hn k1 fm).mono ?_)
        rintro e w2 ⟨rfl, hw2⟩
        rw [← hN2.out] at hw2
        have hA : ClSt lo w2 bw bm bk s n2 S' cS' us := by rw [hw2]; exact (HC.out.setM n2).below (Below.drew (Below.refl _ _))
        have hBA : Below lo w w2 := by rw [hw2]; exact (hBr.setCell (p := ⟨bm, 0, none⟩) hlm _).drew
        have kkA := hA.kk
        have fkA := hA.fk
        have hzA := hBA.size
        have hkA := hA.ltk
        have HA := Lib.hid hA
        have HBA := Lib.hid hBA
        clear hw2 hA hBA k0 k1 k2 fm fk c1' hkz hmz hBr
        go_wp2_with (at_builtin; refine wpList_appi rfl (.tmp 24) (.tmp 26) rfl us rfl rfl ((HA.out.below blw_).own) (RF.sing (x := r) (by simp [go_sem, fi])) (by simp; omega) ?_
                     intro S2 c2 w3 hO3 hOn3 hg3
                     have hA2 := HA.out.below (show Below w2.heap.size w2 (w2.alloc (.cells #[.int .i64 r] 3)) from blw_)
                     have kk3 := hOn3.cell hA2.kk hA2.ak
                     have fk3 := (hOn3.frozenAt bk 0 hA2.ltk hA2.ak).trans hA2.fk
                     have hkz3 := Nat.lt_of_lt_of_le hA2.ltk hOn3.size
                     have hC3 := Lib.hid (ClSt.setK hA2 hOn3 hO3 (n := us.length + 1) (by simp) hg3)
                     have hB3 : Below lo w w3 := (HBA.out.alloc (by omega) _).trans (hOn3.below (by simp; omega) hA2.ls)
                     clear hA2 hOn3 hO3 hg3)
        go_roundw
        case rel => exact ⟨j + 1, (n2, us ++ [r]), S2, c2, by omega, by go_num, HN, HB2, hC3.out, hB3.setCell HC.out.lk _⟩
        case measure => simp [intOf]; omega
      · have e : visN s (n, us) r = (n, us) := visN_met h2
        have HN : Hid ((n, us) = visNL s (m, wk) (rs.take (j + 1))) := by unfold Hid; rw [HS.out, ← HQ.out, e]
        rw [e] at HB2
        clear HQ2 e
        go_wp2_with (go_at_call 54; (first | ((with_reducible refine (has_any s _ _ (by omega) hs).mono ?_); rw [h1]) | ((with_reducible refine (has_any n _ _ (by omega) hn).mono ?_); rw [h2])); rintro e w2 ⟨rfl, rfl⟩)
        go_roundw
        case rel => exact ⟨j + 1, (n, us), S', cS', by omega, by go_num, HN, HB2, HC.out, hBr⟩
        case measure => simp [intOf]; omega
    · have hje : j = rs.length := by omega
      have HF : Hid ((n, us) = visNL s (m, wk) rs) := by unfold Hid; rw [HQ.out, hje, List.take_length]
      go_wp2
      go_end0
      refine ⟨rfl, ⟨S', cS', ?_⟩, hBr⟩
      rw [← HF.out]
      exact hC
end Go.Proofs.Ytkikeanpbffpkaa

/- A set as a list of flags. -/
namespace Go.Proofs.Ytkikeanpbffpkaa
open Go.RowKit
set_option maxRecDepth 100000
set_option linter.unusedSimpArgs false
set_option linter.unusedVariables false
def listB (s n : Nat) : List Bool := (List.range n).map s.testBit
def listBk (s n j : Nat) : List Bool := (List.range n).map fun k => decide (k < j) && s.testBit k
theorem listB_len (s n : Nat) : (listB s n).length = n := by simp [listB]
theorem listBk_len (s n j : Nat) : (listBk s n j).length = n := by simp [listBk]
theorem listBk_zero (s n : Nat) : listBk s n 0 = List.replicate n false := by
  apply List.ext_getElem
  · simp [listBk]
  · intro i h1 h2; simp [listBk]
theorem listBk_full (s n : Nat) : listBk s n n = listB s n := by
  apply List.ext_getElem
  · simp [listBk, listB]
  · intro i h1 h2; simp [listBk] at h1; simp [listBk, listB, h1]
theorem listBk_set (s n j : Nat) (h : j < n) : (listBk s n j).set j (s.testBit j) = listBk s n (j + 1) := by
  apply List.ext_getElem
  · simp [listBk]
  · intro i h1 h2
    rw [List.getElem_set]
    simp only [listBk, List.getElem_map, List.getElem_range]
    by_cases e : j = i
    · subst e; simp
    · have e2 : (decide (i < j)) = decide (i < j + 1) := by rw [decide_eq_decide]; omega
      rw [if_neg e, e2]
set_option maxHeartbeats 4000000 in
theorem list_any (s n : Nat) (w : World) (hs : s < 18446744073709551616) (hn : n ≤ 64) :
    Calls Try.prog 58 #[.int .u64 (s : Int), .int .i64 (n : Int)] w fun e w' => e = .returned (.slice (some ⟨w.heap.size, 0, none⟩) n n) ∧ OF 4 fb w' (some ⟨w.heap.size, 0, none⟩) n (listB s n) ∧ Below w.heap.size w w' := by
  have hmk := mk_bools n (by omega)
  go_enter Try.func58, Try.ntmps58
  go_wp2_with fail
  have hO0 : OF 4 fb (w.alloc (.cells (rowF fb (List.replicate n false)) 4)) (some ⟨w.heap.size, 0, none⟩) n (listBk s n 0) := by
    rw [listBk_zero]
    exact OF.of_blkn (by simp) (heap_alloc_at _ _ _ rfl) (by simp only [maxLen, List.length_replicate]; omega)
  have hX0 : Below w.heap.size w (w.alloc (.cells (rowF fb (List.replicate n false)) 4)) := blw_
  generalize (w.alloc (.cells (rowF fb (List.replicate n false)) 4)) = W0 at *
  have HO0 := Lib.hid hO0
  clear hO0
  go_loopw [11] (fun i wr => ∃ (j : Nat), j ≤ n ∧ i = .int .i64 j ∧ Hid (OF 4 fb wr (some ⟨w.heap.size, 0, none⟩) n (listBk s n j)) ∧ Below w.heap.size w wr) (fun i _ => n - (intOf i).toNat)
  case atStart => exact ⟨0, by omega, rfl, HO0, hX0⟩
  case round =>
    obtain ⟨j, hj, rfl, HO, hBr⟩ := hrel
    by_cases hlt : j < n
    · have hx : (listBk s n j)[j]? = some ((listBk s n j)[j]'(by rw [listBk_len]; exact hlt)) := List.getElem?_eq_getElem _
      have m0 := HO.out.cell hx
      have f0 := HO.out.frozen j
      have hw0 : w.heap.size < wr.heap.size := HO.out.lt _ (by simp [blk])
      have HN : Hid (OF 4 fb (wr.setCell ⟨w.heap.size, j, none⟩ (.bool (s.testBit j))) (some ⟨w.heap.size, 0, none⟩) n (listBk s n (j + 1))) := by
        have h9 := HO.out.set_ j (s.testBit j)
        rw [listBk_set s n j hlt] at h9
        exact h9
      have hbt := hasB_nat s j
      have hbs := hBr.size
      clear hx
      go_wp2_with (go_at_call 54; refine (has_any s _ _ (by omega) hs).mono ?_; rw [hbt]; rintro e w1 ⟨rfl, rfl⟩)
      go_roundw
      case rel => exact ⟨j + 1, by omega, by go_num, HN, hBr.setCell (p := ⟨w.heap.size, j, none⟩) (Nat.le_refl _) _⟩
      case measure => simp [intOf]; omega
    · have hje : j = n := by omega
      have HF : Hid (OF 4 fb wr (some ⟨w.heap.size, 0, none⟩) n (listB s n)) := by have h9 := HO.out; rw [hje, listBk_full] at h9; exact h9
      go_wp2
      go_ret
      exact ⟨rfl, HF.out, hBr⟩
end Go.Proofs.Ytkikeanpbffpkaa

/- closure, reachable and Reachable of the program. -/
namespace Go.Proofs.Ytkikeanpbffpkaa
open Go.RowKit
set_option maxRecDepth 100000
set_option linter.unusedSimpArgs false
set_option linter.unusedVariables false
theorem OF.new1 {α : Type} {T : TypeId} {f : α → Value} {w : World} {q : Nat} (h : w.heap[q]? = some (.cells #[] T (0, 0))) : OF T f w (some ⟨q, 0, none⟩) 0 ([] : List α) :=
  ⟨by simp, .inr ⟨q, 0, #[], rfl, Nat.zero_le _, h, by simp, by simp, by simp, by simp⟩⟩
theorem hasB_64 {s : Nat} (hs : s < 18446744073709551616) {r : Int} (h : hasB s r = true) : r.toNat < 64 := by
  unfold hasB at h
  simp at h
  rcases Nat.lt_or_ge r.toNat 64 with h1 | h1
  · exact h1
  · have h2 : s < 2 ^ r.toNat := Nat.lt_of_lt_of_le hs (by show 2 ^ 64 ≤ _; exact Nat.pow_le_pow_right (by omega) h1)
    rw [Nat.testBit_lt_two_pow h2] at h
    cases h.2
/-- The start of closure. -/
theorem clo_start {h : HeapM} {s : Nat} {fr : List Int} (hs : s < 18446744073709551616) {m : Nat} {wk : List Int} (e : (m, wk) = visNL s (0, []) fr) : CloI (refsAt h) (hasB s) fr m.testBit wk ∧ unmet 64 m.testBit + wk.length ≤ 64 := by
  have hv := visNL_vis s fr (0, [])
  rw [← e] at hv
  have e0 : (0 : Nat).testBit = fun _ => false := by funext k; simp
  simp only at hv
  rw [e0] at hv
  refine ⟨?_, ?_⟩
  · have := CloI.init (rf := refsAt h) (ok := hasB s) (fr := fr)
    rw [← hv] at this
    exact this
  · have h1 := visL_mu (ok := hasB s) (n := 64) fr (fun _ => false, []) (fun r _ h => hasB_64 hs h)
    rw [← hv] at h1
    have h2 := unmet_le 64 (fun _ => false)
    simp only [List.length_nil] at h1
    omega
/-- A round: the last number is taken out. -/
theorem clo_round {h : HeapM} {s : Nat} {fr : List Int} (hs : s < 18446744073709551616) {m m' : Nat} {us wk' : List Int} {r : Int} (hC : CloI (refsAt h) (hasB s) fr m.testBit (us ++ [r])) (e : (m', wk') = visNL s (m, us) (refsAt h r.toNat)) :
    CloI (refsAt h) (hasB s) fr m'.testBit wk' ∧ unmet 64 m'.testBit + wk'.length < unmet 64 m.testBit + (us ++ [r]).length := by
  have hv := visNL_vis s (refsAt h r.toNat) (m, us)
  rw [← e] at hv
  simp only at hv
  refine ⟨?_, ?_⟩
  · have hst := hC.step (wk' := us) (r := r) (fun x hx => by rcases List.mem_append.1 hx with h1 | h1; exact .inr h1; exact .inl (List.mem_singleton.1 h1)) (fun x hx => List.mem_append_left _ hx) (by simp)
    rw [← hv] at hst
    exact hst
  · have h1 := visL_mu (ok := hasB s) (n := 64) (refsAt h r.toNat) (m.testBit, us) (fun r _ h => hasB_64 hs h)
    rw [← hv] at h1
    simp only [List.length_append, List.length_singleton] at h1 ⊢
    omega
theorem OF.init {α : Type} {T : TypeId} {f : α → Value} {w : World} {A : Option Addr} {c : Nat} {xs : List α} {x : α} (h : OF T f w A c (xs ++ [x])) : OF T f w A c xs := by
  rcases ownsRow_block h with ⟨_, h0, _⟩ | ⟨g, cur, rfl, hg, hnc, hc, hs, ht⟩
  · simp at h0
  · refine ⟨by simp, .inr ⟨g, c, cur, rfl, Nat.zero_le _, hg, ?_, hc, hs, ?_⟩⟩
    · have h2 : (xs ++ [x]).length = xs.length + 1 := by simp
      omega
    · have h1 : (cur.toList.take ((xs ++ [x]).length * 1)).take (xs.length * 1) = ((xs ++ [x]).map f).take (xs.length * 1) := by rw [ht]
      rw [List.take_take, Nat.min_eq_left (by simp)] at h1
      rw [h1]; simp
theorem visNL_lt {s : Nat} (rs : List Int) : ∀ {st : Nat × List Int}, st.1 < 18446744073709551616 → (∀ r ∈ rs, r < 64) → (visNL s st rs).1 < 18446744073709551616 := by
  induction rs with
  | nil => intro st h _; exact h
  | cons r rs ih => intro st h hr; exact ih (visN_lt h (hr r (by simp))) fun x hx => hr x (by simp [hx])
theorem OF.cap {α : Type} {T : TypeId} {f : α → Value} {w : World} {A : Option Addr} {c : Nat} {xs : List α} (h : OF T f w A c xs) : xs.length ≤ c := by
  rcases ownsRow_block h with ⟨_, h0, h1⟩ | ⟨g, cur, rfl, hg, hnc, hc, hs, ht⟩
  · omega
  · exact hnc
theorem ClSt.pop {lo : Nat} {w : World} {bw bm bk s m : Nat} {S : Option Addr} {cS : Nat} {us : List Int} {r : Int} (h : ClSt lo w bw bm bk s m S cS (us ++ [r])) : ClSt lo (w.setCell ⟨bk, 0, none⟩ (.slice S us.length cS)) bw bm bk s m S cS us :=
  h.setK (Only.refl _ _) h.own.init rfl fun g hg => .inl hg
set_option maxHeartbeats 4000000 in
theorem closure_any (v : Value) (h : HeapM) (Ar : Option Addr) (fr : List Int) (cr s : Nat) (w : World) (hv : RH w v h) (hr : RF fi w Ar fr) (hs : s < 18446744073709551616) (hsc : ∀ r, hasB s r = true → r < h.cells.length)
    (hlt : ∀ c ∈ h.cells, ∀ r ∈ c.refs, r < 64) (hrl2 : ∀ c ∈ h.cells, c.refs.length ≤ 1048576) (hrl : fr.length ≤ 1048576) (hrt : ∀ r ∈ fr, r < 64) :
    Calls Try.prog 78 #[v, .slice Ar fr.length cr, .int .u64 (s : Int)] w fun e w' => ∃ m : Nat, e = .returned (.int .u64 (m : Int)) ∧ m < 18446744073709551616 ∧ (∀ k, m.testBit k = true ↔ Rch (refsAt h) (hasB s) fr k) ∧ Below w.heap.size w w' := by
  obtain ⟨A, c, A', c', rfl, hc, -, hl1, hl2⟩ := hv
  have HC := Lib.hid hc
  have HR := Lib.hid hr
  have HSC := Lib.hid hsc
  have HLT := Lib.hid hlt
  have HRL := Lib.hid hrl2
  have HRT := Lib.hid hrt
  clear hc hr hsc hlt hrl2 hrt
  have hS0 : ClSt (w.heap.size + 1) ((((((w.alloc (.cells #[.slice A h.cells.length c, .slice A' h.roots.length c'] 26)).alloc (.cells #[.int .u64 (s : Int)] 73)).alloc (.cells #[.int .u64 0] 73)).alloc (.cells #[] 3)).alloc (.cells #[.slice (some ⟨w.heap.size + 1 + 1 + 1, 0, none⟩) 0 0] 24))) (w.heap.size + 1) (w.heap.size + 1 + 1) (w.heap.size + 1 + 1 + 1 + 1) s 0 (some ⟨w.heap.size + 1 + 1 + 1, 0, none⟩) 0 [] :=
    ⟨by simp [go_sem], by simp [go_sem], by simp [go_sem], by simp [go_sem], by simp [go_sem], OF.new1 (by rw [Below.heap_alloc _ _ _ (by first | omega | (simp; done) | (simp; omega))]; exact heap_alloc_at _ _ _ (by simp)), by omega, by omega, by omega, by simp [blk], by simp [blk], by simp [blk], by omega, by omega, by omega, fun b hb => by have := mem_blk_some hb; omega⟩
  have hX0 : Below w.heap.size w ((((((w.alloc (.cells #[.slice A h.cells.length c, .slice A' h.roots.length c'] 26)).alloc (.cells #[.int .u64 (s : Int)] 73)).alloc (.cells #[.int .u64 0] 73)).alloc (.cells #[] 3)).alloc (.cells #[.slice (some ⟨w.heap.size + 1 + 1 + 1, 0, none⟩) 0 0] 24))) := blw_
  have kb0 : ((((((w.alloc (.cells #[.slice A h.cells.length c, .slice A' h.roots.length c'] 26)).alloc (.cells #[.int .u64 (s : Int)] 73)).alloc (.cells #[.int .u64 0] 73)).alloc (.cells #[] 3)).alloc (.cells #[.slice (some ⟨w.heap.size + 1 + 1 + 1, 0, none⟩) 0 0] 24))).cell? ⟨w.heap.size, 0, none⟩ = some (.slice A h.cells.length c) := by simp [go_sem]
  have hz0 : ((((((w.alloc (.cells #[.slice A h.cells.length c, .slice A' h.roots.length c'] 26)).alloc (.cells #[.int .u64 (s : Int)] 73)).alloc (.cells #[.int .u64 0] 73)).alloc (.cells #[] 3)).alloc (.cells #[.slice (some ⟨w.heap.size + 1 + 1 + 1, 0, none⟩) 0 0] 24))).heap.size = w.heap.size + 5 := by simp
  go_enter Try.func78, Try.ntmps78
  go_wp2_with fail
  generalize ((((((w.alloc (.cells #[.slice A h.cells.length c, .slice A' h.roots.length c'] 26)).alloc (.cells #[.int .u64 (s : Int)] 73)).alloc (.cells #[.int .u64 0] 73)).alloc (.cells #[] 3)).alloc (.cells #[.slice (some ⟨w.heap.size + 1 + 1 + 1, 0, none⟩) 0 0] 24))) = W0 at *
  (with_reducible refine (visit_any (w.heap.size + 1) Ar fr cr (w.heap.size + 1) (w.heap.size + 1 + 1) (w.heap.size + 1 + 1 + 1 + 1) s 0 (some ⟨w.heap.size + 1 + 1 + 1, 0, none⟩) 0 [] W0 hS0 (by omega) (fun W hW => HR.out.below (hX0.trans (hW.mono (Nat.le_succ _)))) hrl HRT.out (by simp) hs (by omega)).mono ?_)
  rintro e w1 ⟨rfl, ⟨S1, c1, hS1⟩, hB1⟩
  have hX1 : Below w.heap.size w w1 := hX0.trans (hB1.mono (Nat.le_succ _))
  have kb1 := (hB1.cell (p := ⟨w.heap.size, 0, none⟩) (Nat.lt_succ_self _)).trans kb0
  obtain ⟨m1, wk1, hmw⟩ : ∃ m1 wk1, (m1, wk1) = visNL s (0, []) fr := ⟨_, _, rfl⟩
  have hst := clo_start (h := h) hs hmw
  rw [← hmw] at hS1
  have hm64 : m1 < 18446744073709551616 := by have h7 := visNL_lt (s := s) fr (st := (0, [])) (by simp) HRT.out; rw [← hmw] at h7; exact h7
  have HS1 := Lib.hid hS1
  have HCL := Lib.hid hst.1
  have hle := hst.2
  clear hS0 hX0 kb0 hz0 hB1 hmw hst hS1
  go_wp2
  go_loopg [] (unmet 64 m1.testBit + wk1.length) (fun k wr => ∃ (m : Nat) (S : Option Addr) (cS : Nat) (wk : List Int), Hid (CloI (refsAt h) (hasB s) fr m.testBit wk) ∧ Hid (k = unmet 64 m.testBit + wk.length) ∧ k ≤ 64 ∧ m < 18446744073709551616 ∧ Hid (ClSt (w.heap.size + 1) wr (w.heap.size + 1) (w.heap.size + 1 + 1) (w.heap.size + 1 + 1 + 1 + 1) s m S cS wk) ∧ wr.cell? ⟨w.heap.size, 0, none⟩ = some (.slice A h.cells.length c) ∧ Below w.heap.size w wr)
  case atStart => exact ⟨m1, S1, c1, wk1, HCL, rfl, hle, hm64, HS1, kb1, hX1⟩
  case round =>
    clear HCL hle hm64 HS1 kb1 hX1
    obtain ⟨m, S, cS, wk, HCL, HK, hk64, hm, HS, kb, hBr⟩ := hrel
    have q1 := HS.out.km
    have q2 := HS.out.kk
    have f2 := HS.out.fk
    rcases List.eq_nil_or_concat wk with rfl | ⟨us, r, rfl⟩
    · have hd := HCL.out.done
      have HD := Lib.hid hd
      clear hd
      go_wp2
      go_ret
      exact ⟨m, rfl, hm, HD.out, hBr⟩
    · rw [List.concat_eq_append] at *
      rw [List.length_append, List.length_singleton] at q2
      have hmet := (HCL.out.met r (by simp)).1
      have hr0 : 0 ≤ r := by unfold hasB at hmet; simp at hmet; exact hmet.1
      have hrc := HSC.out r hmet
      obtain ⟨k, rfl⟩ := Int.eq_ofNat_of_zero_le hr0
      have hkn : k < h.cells.length := by omega
      obtain ⟨q, rfl, hq⟩ := HS.out.own.some_ (j := us.length) (by simp)
      have mq : wr.cell? ⟨q, us.length, none⟩ = some (.int .i64 (k : Int)) := HS.out.own.cell (by simp)
      obtain ⟨b, o, cc, Ac, cr2, rfl, gc, -, -, d2, hrr, hrl2, hb⟩ := HC.out.at_ hkn
      have d2' := cell_below d2 hBr
      have HRR := Lib.hid hrr
      have HCR := Lib.hid (refsAt_of gc)
      have hrl3 := HRL.out cc (List.mem_of_getElem? gc)
      have HLT3 := Lib.hid (HLT.out cc (List.mem_of_getElem? gc))
      have hul : us.length ≤ 64 := by have := HK.out; rw [List.length_append, List.length_singleton] at this; omega
      have HP := Lib.hid HS.out.pop
      have hbs := hBr.size
      have hbk := HS.out.ltk
      have hne1 : b ≠ w.heap.size + 1 + 1 + 1 + 1 := by omega
      have hne2 : w.heap.size + 1 + 1 + 1 + 1 ≠ b := by omega
      have hcap : us.length ≤ cS := by have := HS.out.own.cap; rw [List.length_append, List.length_singleton] at this; omega
      have hBp : Below w.heap.size w (wr.setCell ⟨w.heap.size + 1 + 1 + 1 + 1, 0, none⟩ (.slice (some ⟨q, 0, none⟩) us.length cS)) := hBr.setCell (by simp; omega) _
      have kbp : (wr.setCell ⟨w.heap.size + 1 + 1 + 1 + 1, 0, none⟩ (.slice (some ⟨q, 0, none⟩) us.length cS)).cell? ⟨w.heap.size, 0, none⟩ = some (.slice (some ⟨b, o, none⟩) h.cells.length c) := by simp [go_sem, kb]
      have hzp : w.heap.size + 1 ≤ (wr.setCell ⟨w.heap.size + 1 + 1 + 1 + 1, 0, none⟩ (.slice (some ⟨q, 0, none⟩) us.length cS)).heap.size := by simp; omega
      have HBP := Lib.hid hBp
      have HKB := Lib.hid kbp
      clear hmet gc hrr hr0 d2 hrc hBp kbp
      go_wp2_with fail
      (with_reducible refine (visit_any (w.heap.size + 1) Ac cc.refs cr2 (w.heap.size + 1) (w.heap.size + 1 + 1) (w.heap.size + 1 + 1 + 1 + 1) s m _ _ us _ HP.out hzp (fun W hW => HRR.out.below (HBP.out.trans (hW.mono (Nat.le_succ _)))) hrl3 HLT3.out (by omega) hs hm).mono ?_)
      rintro e w2 ⟨rfl, ⟨S2, c2, hS2⟩, hB2⟩
      have hX2 : Below w.heap.size w w2 := HBP.out.trans (hB2.mono (Nat.le_succ _))
      have kb2 := (hB2.cell (p := ⟨w.heap.size, 0, none⟩) (Nat.lt_succ_self _)).trans HKB.out
      obtain ⟨m2, wk2, hmw⟩ : ∃ m2 wk2, (m2, wk2) = visNL s (m, us) cc.refs := ⟨_, _, rfl⟩
      have hst := clo_round (h := h) (m' := m2) (wk' := wk2) hs HCL.out (by rw [Int.toNat_natCast, HCR.out]; exact hmw)
      rw [← hmw] at hS2
      have hm2 : m2 < 18446744073709551616 := by have h7 := visNL_lt (s := s) cc.refs (st := (m, us)) hm HLT3.out; rw [← hmw] at h7; exact h7
      have HS2 := Lib.hid hS2
      have HC2 := Lib.hid hst.1
      have hlt2 : unmet 64 m2.testBit + wk2.length < gk := by rw [HK.out]; exact hst.2
      clear hS2 hst hmw hB2 kb q1 f2 q2 mq d2' hBr
      go_wp2
      go_roundg (unmet 64 m2.testBit + wk2.length)
      case rel => exact ⟨m2, S2, c2, wk2, HC2, rfl, by omega, hm2, HS2, kb2, hX2⟩
      case measure => exact hlt2
/-- What closure computes. -/
noncomputable def cloN (h : HeapM) (s : Nat) (fr : List Int) : Nat := bitsOf (rchL 64 (refsAt h) (hasB s) fr)
theorem cloN_test {h : HeapM} {s : Nat} (hs : s < 18446744073709551616) (fr : List Int) (k : Nat) : (cloN h s fr).testBit k = true ↔ Rch (refsAt h) (hasB s) fr k := by
  unfold cloN
  rw [bitsOf_test]
  by_cases hk : k < 64
  · exact rchL_at hk
  · refine ⟨fun h1 => ?_, fun h1 => ?_⟩
    · rw [getD_len (by rw [rchL_len]; omega)] at h1; cases h1
    · cases h1 with
      | start _ ho => have := hasB_64 hs ho; omega
      | next _ _ ho => have := hasB_64 hs ho; omega
theorem cloN_of {h : HeapM} {s : Nat} (hs : s < 18446744073709551616) {fr : List Int} {m : Nat} (hm : ∀ k, m.testBit k = true ↔ Rch (refsAt h) (hasB s) fr k) : m = cloN h s fr := by
  apply Nat.eq_of_testBit_eq
  intro k
  rw [Bool.eq_iff_iff, hm k, cloN_test hs]
theorem closureN_any (v : Value) (h : HeapM) (Ar : Option Addr) (fr : List Int) (cr s : Nat) (w : World) (hv : RH w v h) (hr : RF fi w Ar fr) (hs : s < 18446744073709551616) (hsc : ∀ r, hasB s r = true → r < h.cells.length)
    (hva : validM h = true) (hrl : fr.length ≤ 1048576) (hrt : ∀ r ∈ fr, r < 64) :
    Calls Try.prog 78 #[v, .slice Ar fr.length cr, .int .u64 (s : Int)] w fun e w' => e = .returned (.int .u64 (cloN h s fr : Nat)) ∧ Below w.heap.size w w' := by
  obtain ⟨v1, -, v3⟩ := valid_small hva
  refine (closure_any v h Ar fr cr s w hv hr hs hsc (fun c hc r hr => by have := (validM_lt hva).1 c hc r hr; omega) (fun c hc => by have := v3 c hc; omega) hrl hrt).mono ?_
  rintro e w' ⟨m, rfl, -, hm, hB⟩
  exact ⟨by rw [cloN_of hs hm], hB⟩
end Go.Proofs.Ytkikeanpbffpkaa

/- Reachability in the reference: l7Reach and Reachable. -/
namespace Go.Proofs.Ytkikeanpbffpkaa
open Go.RowKit
set_option maxRecDepth 100000
set_option linter.unusedSimpArgs false
set_option linter.unusedVariables false
theorem RF.singR {α : Type} {f : α → Value} {w : World} {g : Nat} {x : α} (h : w.cell? ⟨g, 0, none⟩ = some (f x)) : RF f w (some ⟨g, 0, none⟩) [x] := fun i hi => by
  obtain rfl : i = 0 := by simp at hi; omega
  exact ⟨g, 0, x, rfl, rfl, h⟩
theorem OF.new0 {α : Type} {T : TypeId} {f : α → Value} {w : World} {q : Nat} (h : w.heap[q]? = some (.cells #[] T (0, 0))) : OF T f w (some ⟨q, 0, none⟩) 0 ([] : List α) :=
  ⟨by simp, .inr ⟨q, 0, #[], rfl, Nat.zero_le _, h, by simp, by simp, by simp, by simp⟩⟩
def visB (st : List Bool × List Int) (r : Int) : List Bool × List Int := if 0 ≤ r ∧ st.1[r.toNat]? = some false then (st.1.set r.toNat true, st.2 ++ [r]) else st
def visBL (st : List Bool × List Int) (rs : List Int) : List Bool × List Int := rs.foldl visB st
theorem visBL_snoc {st : List Bool × List Int} {rs : List Int} {k : Nat} {r : Int} (h : rs[k]? = some r) : visBL st (rs.take (k + 1)) = visB (visBL st (rs.take k)) r := by
  unfold visBL; rw [take_snoc_of h, List.foldl_append]; rfl
theorem visB_neg {st : List Bool × List Int} {r : Int} (h : r < 0) : visB st r = st := by unfold visB; rw [if_neg (by omega)]
theorem visB_met {st : List Bool × List Int} {r : Int} (h : st.1[r.toNat]? = some true) : visB st r = st := by unfold visB; rw [if_neg (by rw [h]; simp)]
theorem visB_new {st : List Bool × List Int} {r : Int} (h0 : 0 ≤ r) (h : st.1[r.toNat]? = some false) : visB st r = (st.1.set r.toNat true, st.2 ++ [r]) := by unfold visB; rw [if_pos ⟨h0, h⟩]
theorem visB_len (st : List Bool × List Int) (r : Int) : (visB st r).1.length = st.1.length := by unfold visB; split <;> simp
theorem visB_len2 (st : List Bool × List Int) (r : Int) : (visB st r).2.length ≤ st.2.length + 1 := by unfold visB; split <;> simp
def getB (l : List Bool) : Nat → Bool := fun k => l.getD k false
theorem getB_set {l : List Bool} {i : Nat} (h : i < l.length) : getB (l.set i true) = fun k => if k = i then true else getB l k := by
  funext k
  unfold getB
  by_cases e : k = i
  · subst e; simp [List.getD, h]
  · have e2 : ¬ i = k := fun h => e h.symm
    simp [List.getD, List.getElem?_set, e, e2]
theorem visB_vis {st : List Bool × List Int} {r : Int} (h : r < st.1.length) : (getB (visB st r).1, (visB st r).2) = vis1 nonneg (getB st.1, st.2) r := by
  by_cases h0 : 0 ≤ r
  · have hl : r.toNat < st.1.length := by omega
    have hx := List.getElem?_eq_getElem hl
    have hg : getB st.1 r.toNat = st.1[r.toNat] := by unfold getB; rw [List.getD, hx]; rfl
    rcases bool_ft (st.1[r.toNat]) with e | e
    · rw [e] at hx hg
      rw [visB_new h0 hx, vis1_yes (by simp [nonneg, h0]) hg, getB_set hl]
    · rw [e] at hx hg
      rw [visB_met hx, vis1_no (.inr hg)]
  · rw [visB_neg (by omega), vis1_no (.inl (by simp [nonneg]; omega))]
theorem visBL_vis (rs : List Int) : ∀ (st : List Bool × List Int), (∀ r ∈ rs, r < st.1.length) → (getB (visBL st rs).1, (visBL st rs).2) = visL nonneg (getB st.1, st.2) rs := by
  induction rs with
  | nil => intro st _; rfl
  | cons r rs ih =>
    intro st h
    show (getB (visBL (visB st r) rs).1, (visBL (visB st r) rs).2) = visL nonneg (vis1 nonneg (getB st.1, st.2) r) rs
    rw [ih _ (fun x hx => by rw [visB_len]; exact h x (by simp [hx])), visB_vis (h r (by simp))]
theorem visBL_len (rs : List Int) : ∀ (st : List Bool × List Int), (visBL st rs).1.length = st.1.length := by
  induction rs with
  | nil => intro st; rfl
  | cons r rs ih => intro st; exact (ih _).trans (visB_len st r)
theorem visBL_len2 (rs : List Int) : ∀ (st : List Bool × List Int), (visBL st rs).2.length ≤ st.2.length + rs.length := by
  induction rs with
  | nil => intro st; exact Nat.le_refl _
  | cons r rs ih => intro st; have h1 := ih (visB st r); have h2 := visB_len2 st r; show (visBL (visB st r) rs).2.length ≤ _; rw [List.length_cons]; omega
theorem visB_ge (st : List Bool × List Int) (r : Int) : st.2.length ≤ (visB st r).2.length := by unfold visB; split <;> simp
theorem visBL_ge (rs : List Int) : ∀ (st : List Bool × List Int), st.2.length ≤ (visBL st rs).2.length := by
  induction rs with
  | nil => intro st; exact Nat.le_refl _
  | cons r rs ih => intro st; exact Nat.le_trans (visB_ge st r) (ih (visB st r))
theorem visL_pre {ok : Int → Bool} (rs : List Int) : ∀ (M : Nat → Bool) (a b : List Int), visL ok (M, a ++ b) rs = ((visL ok (M, b) rs).1, a ++ (visL ok (M, b) rs).2) := by
  induction rs with
  | nil => intro M a b; rfl
  | cons r rs ih =>
    intro M a b
    show visL ok (vis1 ok (M, a ++ b) r) rs = ((visL ok (vis1 ok (M, b) r) rs).1, a ++ (visL ok (vis1 ok (M, b) r) rs).2)
    unfold vis1
    split
    · simp only [List.append_assoc]; exact ih _ _ _
    · exact ih _ _ _
theorem getB_rep (n : Nat) : getB (List.replicate n false) = fun _ => false := by
  funext k
  unfold getB
  by_cases h : k < n <;> simp [List.getD, h, List.getElem?_replicate]
/-- The start: the numbers fr are met. -/
theorem reach_start {h : HeapM} {fr : List Int} (hf : ∀ r ∈ fr, r < h.cells.length) {us : List Bool} {wk : List Int} (e : (us, wk) = visBL (List.replicate h.cells.length false, []) fr) :
    CloI (refsAt h) nonneg fr (getB us) (wk.drop 0) ∧ OrdI nonneg h.cells.length (getB us, wk) := by
  have hv := visBL_vis fr (List.replicate h.cells.length false, []) (by simpa using hf)
  rw [← e, getB_rep] at hv
  have h1 : getB us = (visL nonneg (fun _ => false, []) fr).1 := by rw [← hv]
  have h2 : wk = (visL nonneg (fun _ => false, []) fr).2 := by rw [← hv]
  refine ⟨?_, ?_⟩
  · have := CloI.init (rf := refsAt h) (ok := nonneg) (fr := fr)
    rw [← h1, ← h2] at this
    exact this
  · rw [hv]
    exact (OrdI.start nonneg _).visL fr fun r hr h0 => by have := hf r hr; have h3 : 0 ≤ r := (by simpa [nonneg] using h0); omega
/-- A round: number i of the list is looked at. -/
theorem reach_round {h : HeapM} (hv : ∀ c ∈ h.cells, ∀ r ∈ c.refs, r < h.cells.length) {fr : List Int} {us us' : List Bool} {wk wk' : List Int} {i : Nat} {r : Int} (hu : us.length = h.cells.length) (hC : CloI (refsAt h) nonneg fr (getB us) (wk.drop i)) (hO : OrdI nonneg h.cells.length (getB us, wk))
    (hr : wk[i]? = some r) (e : (us', wk') = visBL (us, wk) (refsAt h r.toNat)) : CloI (refsAt h) nonneg fr (getB us') (wk'.drop (i + 1)) ∧ OrdI nonneg h.cells.length (getB us', wk') := by
  have hlt : ∀ x ∈ refsAt h r.toNat, x < h.cells.length := by
    intro x hx
    unfold refsAt at hx
    split at hx
    · next c hc => exact hv c (List.mem_of_getElem? hc) x hx
    · simp at hx
  have hvb := visBL_vis (refsAt h r.toNat) (us, wk) (by rw [hu]; exact hlt)
  rw [← e] at hvb
  have hi := (List.getElem?_eq_some_iff.1 hr).1
  refine ⟨?_, ?_⟩
  · have hst := hC.step (wk' := wk.drop (i + 1)) (r := r) (fun x hx => by rw [drop_cons_of hr] at hx; exact List.mem_cons.1 hx) (fun x hx => by rw [drop_cons_of hr]; exact List.mem_cons_of_mem _ hx) (by rw [drop_cons_of hr]; simp)
    have hp := visL_pre (ok := nonneg) (refsAt h r.toNat) (getB us) (wk.take (i + 1)) (wk.drop (i + 1))
    rw [List.take_append_drop] at hp
    have h1 : getB us' = (visL nonneg (getB us, wk.drop (i + 1)) (refsAt h r.toNat)).1 := by
      have := congrArg Prod.fst hvb; rw [hp] at this; exact this
    have h2 : wk' = wk.take (i + 1) ++ (visL nonneg (getB us, wk.drop (i + 1)) (refsAt h r.toNat)).2 := by
      have := congrArg Prod.snd hvb; rw [hp] at this; exact this
    rw [← h1] at hst
    have h3 : wk'.drop (i + 1) = (visL nonneg (getB us, wk.drop (i + 1)) (refsAt h r.toNat)).2 := by
      rw [h2]; exact List.drop_left' (by rw [List.length_take]; omega)
    rw [h3]; exact hst
  · rw [hvb]
    exact hO.visL _ fun x hx h0 => by have := hlt x hx; have h3 : 0 ≤ x := (by simpa [nonneg] using h0); omega
theorem reach_final {h : HeapM} {fr : List Int} {us : List Bool} {wk : List Int} {i : Nat} (hu : us.length = h.cells.length) (hC : CloI (refsAt h) nonneg fr (getB us) (wk.drop i)) (hi : wk.length ≤ i) : us = rchL h.cells.length (refsAt h) nonneg fr := by
  rw [List.drop_eq_nil_of_le hi] at hC
  exact rchL_of hu (fun k => rfl) hC
set_option maxHeartbeats 4000000 in
theorem l7Reach_any (v : Value) (h : HeapM) (Ar : Option Addr) (fr : List Int) (cr : Nat) (w : World) (hv : RH w v h) (hva : validM h = true) (hr : RF fi w Ar fr) (hrl : fr.length ≤ 1048576) (hlt : ∀ r ∈ fr, r < h.cells.length) :
    Calls Try.prog 100 #[v, .slice Ar fr.length cr] w fun e w' => ∃ S c, e = .returned (.slice S h.cells.length c) ∧ OF 4 fb w' S c (rchL h.cells.length (refsAt h) nonneg fr) ∧ (∀ b ∈ blk S, w.heap.size ≤ b) ∧ Below w.heap.size w w' := by
  obtain ⟨A, c, A', c', rfl, hc, -, hl1, hl2⟩ := hv
  obtain ⟨v1, v2, v3⟩ := valid_small hva
  obtain ⟨lt1, -⟩ := validM_lt hva
  have HLT1 := Lib.hid lt1
  have HLT := Lib.hid hlt
  have HV3 := Lib.hid v3
  have HR := Lib.hid hr
  have HC := Lib.hid hc
  have hmk := mk_bools h.cells.length (by omega)
  clear lt1 hlt v3 v2 hva hr hc
  go_enter Try.func100, Try.ntmps100
  go_wp2_with fail
  have gb0 : w.heap.size + 1 < ((((w.alloc (.cells #[.slice A h.cells.length c, .slice A' h.roots.length c'] 26)).alloc (.cells (rowF fb (List.replicate h.cells.length false)) 4)).alloc (.cells #[] 3))).heap.size := by simp
  have hU0 : OF 4 fb ((((w.alloc (.cells #[.slice A h.cells.length c, .slice A' h.roots.length c'] 26)).alloc (.cells (rowF fb (List.replicate h.cells.length false)) 4)).alloc (.cells #[] 3))) (some ⟨w.heap.size + 1, 0, none⟩) h.cells.length (List.replicate h.cells.length false) := OF.of_blkn (by simp) (by rw [Below.heap_alloc _ _ _ (by first | omega | (simp; done) | (simp; omega))]; exact heap_alloc_at _ _ _ (by simp)) (by simp only [maxLen, List.length_replicate]; omega)
  have hK0 : OF 3 fi ((((w.alloc (.cells #[.slice A h.cells.length c, .slice A' h.roots.length c'] 26)).alloc (.cells (rowF fb (List.replicate h.cells.length false)) 4)).alloc (.cells #[] 3))) (some ⟨w.heap.size + 1 + 1, 0, none⟩) 0 ([] : List Int) := OF.new0 (heap_alloc_at _ _ _ (by simp))
  have hX0 : Below w.heap.size w ((((w.alloc (.cells #[.slice A h.cells.length c, .slice A' h.roots.length c'] 26)).alloc (.cells (rowF fb (List.replicate h.cells.length false)) 4)).alloc (.cells #[] 3))) := blw_
  have kb0 : ((((w.alloc (.cells #[.slice A h.cells.length c, .slice A' h.roots.length c'] 26)).alloc (.cells (rowF fb (List.replicate h.cells.length false)) 4)).alloc (.cells #[] 3))).cell? ⟨w.heap.size, 0, none⟩ = some (.slice A h.cells.length c) := by simp [go_sem]
  have hz0 : ((((w.alloc (.cells #[.slice A h.cells.length c, .slice A' h.roots.length c'] 26)).alloc (.cells (rowF fb (List.replicate h.cells.length false)) 4)).alloc (.cells #[] 3))).heap.size = w.heap.size + 3 := by simp
  generalize ((((w.alloc (.cells #[.slice A h.cells.length c, .slice A' h.roots.length c'] 26)).alloc (.cells (rowF fb (List.replicate h.cells.length false)) 4)).alloc (.cells #[] 3))) = W0 at *
  have HU0 := Lib.hid hU0
  have HK0 := Lib.hid hK0
  clear hU0 hK0 gb0
  go_loopw [6, 7] (fun s6 i wr => ∃ (j : Nat) (us : List Bool) (S : Option Addr) (cS : Nat) (wk : List Int), j ≤ fr.length ∧ i = .int .i64 j ∧ s6 = .slice S wk.length cS ∧ Hid ((us, wk) = visBL (List.replicate h.cells.length false, []) (fr.take j)) ∧ Hid (OF 4 fb wr (some ⟨w.heap.size + 1, 0, none⟩) h.cells.length us) ∧ Hid (OF 3 fi wr S cS wk) ∧ Hid (∀ b ∈ blk S, w.heap.size + 2 ≤ b) ∧ wr.cell? ⟨w.heap.size, 0, none⟩ = some (.slice A h.cells.length c) ∧ w.heap.size + 2 ≤ wr.heap.size ∧ Below w.heap.size w wr) (fun _ i _ => fr.length - (intOf i).toNat)
  case atStart => exact ⟨0, List.replicate h.cells.length false, _, _, [], by omega, rfl, rfl, rfl, HU0, HK0, fun b hb => (by have := mem_blk_some hb; omega), kb0, by omega, hX0⟩
  case round =>
    obtain ⟨j, us, S, cS, wk, hj, rfl, rfl, HQ, HU, HK, HSL, kb, hzr, hBr⟩ := hrel
    have hul : us.length = h.cells.length := by have := visBL_len (fr.take j) (List.replicate h.cells.length false, []); rw [← HQ.out] at this; simpa using this
    have hwl : wk.length ≤ 1048576 := by have := visBL_len2 (fr.take j) (List.replicate h.cells.length false, []); rw [← HQ.out, List.length_take] at this; simp only [List.length_nil] at this; omega
    have HGB : Hid (w.heap.size + 1 ∉ blk S) := fun hc => by have := HSL.out _ hc; omega
    have HBS : Hid (w.heap.size ∉ blk S) := fun hc => by have := HSL.out _ hc; omega
    by_cases hlt : j < fr.length
    · obtain ⟨b, o, r, rfl, gr, c1, hb⟩ := HR.out.at_ hlt
      have c1' : wr.cell? ⟨b, o + j, none⟩ = some (.int .i64 r) := cell_below c1 hBr
      have hbn : b ≠ w.heap.size + 1 := by omega
      have hbn2 : w.heap.size + 1 ≠ b := by omega
      have hrn := HLT.out r (List.mem_of_getElem? gr)
      have HS := Lib.hid (visBL_snoc (st := (List.replicate h.cells.length false, [])) gr)
      clear gr c1
      rcases Classical.em (r < 0) with h0 | h0
      · have HN : Hid ((us, wk) = visBL (List.replicate h.cells.length false, []) (fr.take (j + 1))) := by unfold Hid; rw [HS.out, ← HQ.out, visB_neg h0]
        go_wp2
        go_roundw
        case rel => exact ⟨j + 1, us, S, cS, wk, by omega, by go_num, rfl, HN, HU, HK, HSL, kb, hzr, hBr⟩
        case measure => simp [intOf]; omega
      have hr0 : 0 ≤ r := by omega
      have hrl2 : r.toNat < us.length := by omega
      have hu := List.getElem?_eq_getElem hrl2
      obtain ⟨x, hx⟩ : ∃ x, x = us[r.toNat] := ⟨_, rfl⟩
      rw [← hx] at hu
      have m2 : wr.cell? ⟨w.heap.size + 1, r.toNat, none⟩ = some (.bool x) := HU.out.cell hu
      have f2 := HU.out.frozen r.toNat
      clear hx h0
      rcases bool_ft x with rfl | rfl
      · have HN : Hid ((us.set r.toNat true, wk ++ [r]) = visBL (List.replicate h.cells.length false, []) (fr.take (j + 1))) := by unfold Hid; rw [HS.out, ← HQ.out, visB_new hr0 hu]
        have HU2 : Hid (OF 4 fb (wr.setCell ⟨w.heap.size + 1, r.toNat, none⟩ (.bool true)) (some ⟨w.heap.size + 1, 0, none⟩) h.cells.length (us.set r.toNat true)) := HU.out.set_ r.toNat true; have HK2 : Hid (OF 3 fi (wr.setCell ⟨w.heap.size + 1, r.toNat, none⟩ (.bool true)) S cS wk) := HK.out.ne_ HGB.out; have kbs : (wr.setCell ⟨w.heap.size + 1, r.toNat, none⟩ (.bool true)).cell? ⟨w.heap.size, 0, none⟩ = some (.slice A h.cells.length c) := (by simp [go_sem, kb])
        clear hu
        go_wp2_with (at_builtin; (refine wpList_appi rfl (.tmp 43) (.tmp 48) rfl wk rfl rfl (HK2.out.below blw_) (RF.singR (x := r) (by simp [go_sem, fi])) (by simp; omega) ?_); intro S2 c2 w3 hO3 hOn3 hg3; have kb3 := hOn3.cell (cell_below kbs blw_) HBS.out; have hU3 : Hid (OF 4 fb w3 (some ⟨w.heap.size + 1, 0, none⟩) h.cells.length (us.set r.toNat true)) := OF.only (OF.below HU2.out blw_) hOn3 (fun b9 hb9 hc9 => HGB.out (by rw [mem_blk_some hb9] at hc9; exact hc9)); have hB3 : Below w.heap.size w w3 := Below.trans blw_ (hOn3.below (by simp; omega) (fun b9 hb9 => Nat.le_trans (by omega) (HSL.out b9 hb9))); have HSL3 : Hid (∀ b9 ∈ blk S2, w.heap.size + 2 ≤ b9) := (fun b9 hb9 => by rcases hg3 b9 hb9 with h9 | h9; exact HSL.out b9 h9; simp at h9; omega); have HK3 := Lib.hid hO3; have hOn3s : w.heap.size + 2 ≤ w3.heap.size := Nat.le_trans (by simp; omega) hOn3.size; clear hO3 hOn3 hg3)
        go_roundw
        case rel => exact ⟨j + 1, _, S2, c2, wk ++ [r], by omega, by go_num, by simp, HN, hU3, HK3, HSL3, kb3, by have := hOn3s; omega, hB3⟩
        case measure => simp [intOf]; omega
      · have HN : Hid ((us, wk) = visBL (List.replicate h.cells.length false, []) (fr.take (j + 1))) := by unfold Hid; rw [HS.out, ← HQ.out, visB_met hu]
        clear hu
        go_wp2
        go_roundw
        case rel => exact ⟨j + 1, us, S, cS, wk, by omega, by go_num, rfl, HN, HU, HK, HSL, kb, hzr, hBr⟩
        case measure => simp [intOf]; omega
    · have hje : j = fr.length := by omega
      have hst := reach_start (us := us) (wk := wk) HLT.out (by have := HQ.out; rw [hje, List.take_length] at this; exact this)
      have HCL := Lib.hid hst.1
      have HOR := Lib.hid hst.2
      have HUL := Lib.hid hul
      clear hst hul hje HQ
      go_wp2
      go_loopw [6, 8] (fun s6 i wr => ∃ (j : Nat) (us : List Bool) (S : Option Addr) (cS : Nat) (wk : List Int), j ≤ wk.length ∧ i = .int .i64 j ∧ s6 = .slice S wk.length cS ∧ Hid (CloI (refsAt h) nonneg fr (getB us) (wk.drop j)) ∧ Hid (OrdI nonneg h.cells.length (getB us, wk)) ∧ Hid (us.length = h.cells.length) ∧ Hid (OF 4 fb wr (some ⟨w.heap.size + 1, 0, none⟩) h.cells.length us) ∧ Hid (OF 3 fi wr S cS wk) ∧ Hid (∀ b ∈ blk S, w.heap.size + 2 ≤ b) ∧ wr.cell? ⟨w.heap.size, 0, none⟩ = some (.slice A h.cells.length c) ∧ w.heap.size + 2 ≤ wr.heap.size ∧ Below w.heap.size w wr) (fun _ i _ => 40 - (intOf i).toNat)
      case atStart => exact ⟨0, us, S, cS, wk, by omega, rfl, rfl, HCL, HOR, HUL, HU, HK, HSL, kb, hzr, hBr⟩
      case round =>
        clear HCL HOR HUL HU HK HSL kb hzr hBr HGB HBS hwl hlt
        obtain ⟨j0, us0, S0, cS0, wk0, hj, rfl, rfl, HCL, HOR, HUL, HU, HK, HSL, kb, hzr, hBr⟩ := hrel
        have hwl : wk0.length ≤ 40 := by have := HOR.out.le; simp only at this; omega
        by_cases hlt : j0 < wk0.length
        · have hwj := List.getElem?_eq_getElem hlt
          obtain ⟨r, hr⟩ : ∃ r, r = wk0[j0] := ⟨_, rfl⟩
          rw [← hr] at hwj
          clear hr
          have hmet := HOR.out.met r (List.mem_of_getElem? hwj)
          have hr0 : 0 ≤ r := by simpa [nonneg] using hmet.1
          obtain ⟨k, rfl⟩ := Int.eq_ofNat_of_zero_le hr0
          have hkn : k < h.cells.length := by
            have h3 : getB us0 k = true := by simpa using hmet.2
            rcases Nat.lt_or_ge k us0.length with h4 | h4
            · rw [← HUL.out]; exact h4
            · unfold getB at h3; rw [getD_len h4] at h3; cases h3
          obtain ⟨q, rfl, hq⟩ := HK.out.some_ hlt
          have mq : wr.cell? ⟨q, j0, none⟩ = some (.int .i64 (k : Int)) := HK.out.cell hwj
          obtain ⟨b, o, cc, Ac, cr2, rfl, gc, -, -, d2, hrr, hrl2, hb⟩ := HC.out.at_ hkn
          have d2' := cell_below d2 hBr
          have HRR := Lib.hid hrr
          have HCR := Lib.hid (refsAt_of gc)
          have hrl3 := HV3.out cc (List.mem_of_getElem? gc)
          have HLT3 := Lib.hid (HLT1.out cc (List.mem_of_getElem? gc))
          have HWJ := Lib.hid hwj
          clear hmet hwj gc hrr hr0 d2
          go_wp2
          go_quiet (fail)
          go_wp2
          go_loopw [6, 10] (fun s6 i wr => ∃ (j : Nat) (us : List Bool) (S : Option Addr) (cS : Nat) (wk : List Int), j ≤ cc.refs.length ∧ i = .int .i64 j ∧ s6 = .slice S wk.length cS ∧ Hid ((us, wk) = visBL (us0, wk0) (cc.refs.take j)) ∧ Hid (OF 4 fb wr (some ⟨w.heap.size + 1, 0, none⟩) h.cells.length us) ∧ Hid (OF 3 fi wr S cS wk) ∧ Hid (∀ b ∈ blk S, w.heap.size + 2 ≤ b) ∧ wr.cell? ⟨w.heap.size, 0, none⟩ = some (.slice (some ⟨b, o, none⟩) h.cells.length c) ∧ w.heap.size + 2 ≤ wr.heap.size ∧ Below w.heap.size w wr) (fun _ i _ => cc.refs.length - (intOf i).toNat)
          case atStart => exact ⟨0, us0, _, _, wk0, by omega, rfl, rfl, rfl, HU.out.below (Below.drewn (Below.refl _ _)), HK.out.below (Below.drewn (Below.refl _ _)), HSL, cell_below kb (Below.drewn (Below.refl _ _)), hzr, Below.drewn hBr⟩
          case round =>
            clear HU HK HSL kb hzr hBr mq d2'
            obtain ⟨j, us, S, cS, wk, hj2, rfl, rfl, HQ, HU, HK, HSL, kb, hzr, hBr⟩ := hrel
            have hul : us.length = h.cells.length := by have := visBL_len (cc.refs.take j) (us0, wk0); rw [← HQ.out] at this; exact this.trans HUL.out
            have hwl2 : wk.length ≤ 1048576 := by have := visBL_len2 (cc.refs.take j) (us0, wk0); rw [← HQ.out, List.length_take] at this; simp only at this; omega
            have HGB : Hid (w.heap.size + 1 ∉ blk S) := fun hc => by have := HSL.out _ hc; omega
            have HBS : Hid (w.heap.size ∉ blk S) := fun hc => by have := HSL.out _ hc; omega
            by_cases hlt2 : j < cc.refs.length
            · obtain ⟨b2, o2, r, rfl, gr, c1, hb2⟩ := HRR.out.at_ hlt2
              have c1' : wr.cell? ⟨b2, o2 + j, none⟩ = some (.int .i64 r) := cell_below c1 hBr
              have hbn : b2 ≠ w.heap.size + 1 := by omega
              have hbn2 : w.heap.size + 1 ≠ b2 := by omega
              have hrn := HLT3.out r (List.mem_of_getElem? gr)
              have HS := Lib.hid (visBL_snoc (st := (us0, wk0)) gr)
              clear gr c1
              rcases Classical.em (r < 0) with h0 | h0
              · have HN : Hid ((us, wk) = visBL (us0, wk0) (cc.refs.take (j + 1))) := by unfold Hid; rw [HS.out, ← HQ.out, visB_neg h0]
                go_wp2
                go_roundw
                case rel => exact ⟨j + 1, us, S, cS, wk, by omega, by go_num, rfl, HN, HU, HK, HSL, kb, hzr, hBr⟩
                case measure => simp [intOf]; omega
              have hr0 : 0 ≤ r := by omega
              have hrl4 : r.toNat < us.length := by omega
              have hu := List.getElem?_eq_getElem hrl4
              obtain ⟨x, hx⟩ : ∃ x, x = us[r.toNat] := ⟨_, rfl⟩
              rw [← hx] at hu
              have m2 : wr.cell? ⟨w.heap.size + 1, r.toNat, none⟩ = some (.bool x) := HU.out.cell hu
              have f2 := HU.out.frozen r.toNat
              clear hx h0
              rcases bool_ft x with rfl | rfl
              · have HN : Hid ((us.set r.toNat true, wk ++ [r]) = visBL (us0, wk0) (cc.refs.take (j + 1))) := by unfold Hid; rw [HS.out, ← HQ.out, visB_new hr0 hu]
                have HU2 : Hid (OF 4 fb (wr.setCell ⟨w.heap.size + 1, r.toNat, none⟩ (.bool true)) (some ⟨w.heap.size + 1, 0, none⟩) h.cells.length (us.set r.toNat true)) := HU.out.set_ r.toNat true; have HK2 : Hid (OF 3 fi (wr.setCell ⟨w.heap.size + 1, r.toNat, none⟩ (.bool true)) S cS wk) := HK.out.ne_ HGB.out; have kbs : (wr.setCell ⟨w.heap.size + 1, r.toNat, none⟩ (.bool true)).cell? ⟨w.heap.size, 0, none⟩ = some (.slice (some ⟨b, o, none⟩) h.cells.length c) := (by simp [go_sem, kb])
                clear hu
                go_wp2_with (at_builtin; (refine wpList_appi rfl (.tmp 92) (.tmp 97) rfl wk rfl rfl (HK2.out.below blw_) (RF.singR (x := r) (by simp [go_sem, fi])) (by simp; omega) ?_); intro S2 c2 w3 hO3 hOn3 hg3; have kb3 := hOn3.cell (cell_below kbs blw_) HBS.out; have hU3 : Hid (OF 4 fb w3 (some ⟨w.heap.size + 1, 0, none⟩) h.cells.length (us.set r.toNat true)) := OF.only (OF.below HU2.out blw_) hOn3 (fun b9 hb9 hc9 => HGB.out (by rw [mem_blk_some hb9] at hc9; exact hc9)); have hB3 : Below w.heap.size w w3 := Below.trans blw_ (hOn3.below (by simp; omega) (fun b9 hb9 => Nat.le_trans (by omega) (HSL.out b9 hb9))); have HSL3 : Hid (∀ b9 ∈ blk S2, w.heap.size + 2 ≤ b9) := (fun b9 hb9 => by rcases hg3 b9 hb9 with h9 | h9; exact HSL.out b9 h9; simp at h9; omega); have HK3 := Lib.hid hO3; have hOn3s : w.heap.size + 2 ≤ w3.heap.size := Nat.le_trans (by simp; omega) hOn3.size; clear hO3 hOn3 hg3)
                go_roundw
                case rel => exact ⟨j + 1, _, S2, c2, wk ++ [r], by omega, by go_num, by simp, HN, hU3, HK3, HSL3, kb3, by have := hOn3s; omega, hB3⟩
                case measure => simp [intOf]; omega
              · have HN : Hid ((us, wk) = visBL (us0, wk0) (cc.refs.take (j + 1))) := by unfold Hid; rw [HS.out, ← HQ.out, visB_met hu]
                clear hu
                go_wp2
                go_roundw
                case rel => exact ⟨j + 1, us, S, cS, wk, by omega, by go_num, rfl, HN, HU, HK, HSL, kb, hzr, hBr⟩
                case measure => simp [intOf]; omega
            · have hje : j = cc.refs.length := by omega
              have hst := reach_round HLT1.out HUL.out HCL.out HOR.out HWJ.out (us' := us) (wk' := wk) (by have := HQ.out; rw [hje, List.take_length] at this; rw [Int.toNat_natCast, HCR.out]; exact this)
              have HC2 := Lib.hid hst.1
              have HO2 := Lib.hid hst.2
              have hge : wk0.length ≤ wk.length := by have := visBL_ge (cc.refs.take j) (us0, wk0); rw [← HQ.out] at this; exact this
              have HUL2 := Lib.hid hul
              clear hst hje hul HQ HCL HOR HUL
              go_wp2
              go_roundw
              case rel => exact ⟨j0 + 1, us, S, cS, wk, by omega, by go_num, rfl, HC2, HO2, HUL2, HU, HK, HSL, kb, hzr, hBr⟩
              case measure => simp [intOf]; omega
        · have hje : wk0.length ≤ j0 := by omega
          have HF := Lib.hid (reach_final HUL.out HCL.out hje)
          clear hje
          go_wp2
          go_ret
          exact ⟨_, _, rfl, by rw [← HF.out]; exact HU.out, fun b9 hb9 => by have := mem_blk_some hb9; omega, hBr⟩
set_option maxHeartbeats 4000000 in
theorem specReachable_any (v : Value) (h : HeapM) (w : World) (hv : RH w v h) :
    Calls Try.prog 98 #[v] w fun e w' => ∃ S c, e = .returned (.slice S (reachableM h).length c) ∧ OF 4 fb w' S c (reachableM h) ∧ (∀ b ∈ blk S, w.heap.size ≤ b) ∧ Below w.heap.size w w' := by
  have hv0 := hv
  obtain ⟨A, c, A', c', rfl, -, hr, -, -⟩ := hv
  have h0 : ((w.alloc (.cells #[.slice A h.cells.length c, .slice A' h.roots.length c'] 26))).cell? ⟨w.heap.size, 0, none⟩ = some (.slice A h.cells.length c) := by simp [go_sem]
  have h1 : ((w.alloc (.cells #[.slice A h.cells.length c, .slice A' h.roots.length c'] 26))).cell? ⟨w.heap.size, 1, none⟩ = some (.slice A' h.roots.length c') := by simp [go_sem]
  have HW : Hid (Below w.heap.size w ((w.alloc (.cells #[.slice A h.cells.length c, .slice A' h.roots.length c'] 26)))) := by unfold Hid; exact blw_
  cases hva : validM h
  · have HV := Lib.hid hva
    have HE : Hid (reachableM h = []) := by unfold Hid reachableM; rw [hva]; rfl
    clear hva
    go_enter Try.func98, Try.ntmps98
    go_wp2_with fail
    (with_reducible refine (specHeapValid_any _ h _ (hv0.below blw_)).mono ?_); rw [HV.out]; rintro e w1 ⟨rfl, hB1⟩
    have Y1 : Below ((w.alloc (.cells #[.slice A h.cells.length c, .slice A' h.roots.length c'] 26))).heap.size ((w.alloc (.cells #[.slice A h.cells.length c, .slice A' h.roots.length c'] 26))) w1 := blw_
    have X1 : Below w.heap.size w w1 := HW.out.trans (Y1.mono HW.out.size)
    have hX := X1.size
    clear hB1
    go_wp2
    go_ret
    refine ⟨some ⟨w1.heap.size, 0, none⟩, 0, by rw [HE.out]; rfl, ?_, fun b hb => by have := mem_blk_some hb; omega, X1.alloc hX _⟩
    rw [HE.out]
    exact OF.new0 (heap_alloc_at _ _ _ (by simp))
  · have HV := Lib.hid hva
    have HE : Hid (reachableM h = rchL h.cells.length (refsAt h) nonneg h.roots) := by unfold Hid reachableM; rw [hva]; rfl
    obtain ⟨v1, v2, -⟩ := valid_small hva
    have v2' : h.roots.length ≤ 1048576 := by omega
    have HLT := Lib.hid (validM_lt hva).2
    clear hva v2
    go_enter Try.func98, Try.ntmps98
    go_wp2_with fail
    (with_reducible refine (specHeapValid_any _ h _ (hv0.below blw_)).mono ?_); rw [HV.out]; rintro e w1 ⟨rfl, hB1⟩
    have Y1 : Below ((w.alloc (.cells #[.slice A h.cells.length c, .slice A' h.roots.length c'] 26))).heap.size ((w.alloc (.cells #[.slice A h.cells.length c, .slice A' h.roots.length c'] 26))) w1 := blw_
    have X1 : Below w.heap.size w w1 := HW.out.trans (Y1.mono HW.out.size)
    have hX := X1.size
    have a0 := cell_below h0 Y1
    have a1 := cell_below h1 Y1
    clear hB1
    go_wp2_with fail
    (with_reducible refine (l7Reach_any _ h A' h.roots c' _ (hv0.below blw_) HV.out (hr.below blw_) v2' HLT.out).mono ?_)
    rintro e w2 ⟨S, cS, rfl, hO, hlo, hB2⟩
    have X2 : Below w.heap.size w w2 := blw_
    have HO := Lib.hid hO
    clear hB2 hO
    go_wp2
    go_ret
    refine ⟨S, cS, by rw [HE.out, rchL_len]; rfl, by rw [HE.out]; exact HO.out, fun b hb => Nat.le_trans hX (hlo b hb), X2⟩
end Go.Proofs.Ytkikeanpbffpkaa
