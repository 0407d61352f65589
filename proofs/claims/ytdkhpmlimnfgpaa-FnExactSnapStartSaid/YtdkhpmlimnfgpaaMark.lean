/- mark..: all numbers and flags of a value of the call's own are overwritten; nothing else is. Conditions: lengths and numbers within bounds. -/
import Derived.Test.YtdkhpmlimnfgpaaChecked
import Derived.Test.YtdkhpmlimnfgpaaOwn2
import Derived.Test.YtdkhpmlimnfgpaaDataM
namespace Go.Proofs.Ytdkhpmlimnfgpaa
open Go.RowKit
set_option maxRecDepth 100000
set_option linter.unusedSimpArgs false
set_option linter.unusedVariables false
theorem mark_step {α : Type} {n j : Nat} {ms xs ys : List α} {m : α} (hm : ms[j]? = some m) (hx : xs.length = n) (hj : j < n) (hy : ys = ms.take j ++ xs.drop j) : ys.set j m = ms.take (j + 1) ++ xs.drop (j + 1) := by
  have hml := (List.getElem?_eq_some_iff.1 hm).1
  subst hy
  rw [List.set_append_right _ _ (by simp; omega), List.length_take, Nat.min_eq_left (by omega), Nat.sub_self, take_snoc_of hm, List.append_assoc]
  congr 1
  rw [List.drop_eq_getElem_cons (by omega)]
  rfl
theorem mark_at {α : Type} {j : Nat} {ms xs ys : List α} {x : α} (hx : xs[j]? = some x) (hm : j ≤ ms.length) (hy : ys = ms.take j ++ xs.drop j) : ys[j]? = some x := by
  subst hy
  rw [List.getElem?_append_right (by simp; omega)]
  simp [Nat.min_eq_left hm, hx]
theorem mark_done {α : Type} {ms xs ys : List α} (hl : ms.length = xs.length) (hy : ys = ms.take xs.length ++ xs.drop xs.length) : ys = ms := by
  rw [hy, ← hl, List.take_length, hl, List.drop_length, List.append_nil]
set_option maxHeartbeats 400000 in
theorem markIntS_any (A : Option Addr) (xs : List Int) (c : Nat) (k : Int) (w : World) (ho : OF 3 fi w A c xs) (hl : xs.length ≤ 1125899906842624) (hk0 : 0 ≤ k) (hk1 : k ≤ 1125899906842624) :
    Calls Try.prog 78 #[.slice A xs.length c, .int .i64 k] w fun e w' => e = .returned (.int .i64 (k + (xs.length : Int))) ∧ OF 3 fi w' A c (markI xs.length k) ∧ Only (blk A) w w' := by
  go_enter Try.func78, Try.ntmps78
  go_wp2
  go_loopw [1, 5] (fun q i wr => ∃ (j : Nat) (ys : List Int), j ≤ xs.length ∧ q = .int .i64 (k + (j : Int)) ∧ i = .int .i64 j ∧ Hid (ys = (markI xs.length k).take j ++ xs.drop j) ∧ OF 3 fi wr A c ys ∧ Only (blk A) w wr) (fun _ i _ => xs.length - (intOf i).toNat)
  case atStart => exact ⟨0, xs, by omega, by simp, rfl, by simp [Hid], ho, Only.refl _ _⟩
  case round =>
    obtain ⟨j, ys, hj, rfl, rfl, HY, hO, hOn⟩ := hrel
    by_cases hlt : j < xs.length
    · obtain ⟨g, rfl, hg⟩ := ho.some_ hlt
      have hy := mark_at (List.getElem?_eq_getElem hlt) (by rw [markI_len]; omega) HY.out
      have c1 : wr.cell? ⟨g, j, none⟩ = some (fi xs[j]) := hO.cell hy
      have f1 := hO.frozen j
      have HS := Lib.hid (mark_step (markI_at k hlt) rfl hlt HY.out)
      clear hy
      go_wp2
      go_roundw
      case rel => exact ⟨j + 1, _, by omega, by go_num, by go_num, HS.out, hO.set_ j _, hOn.setCell (.inl (by simp [blk])) _⟩
      case measure => simp [intOf]; omega
    · have hke : j = xs.length := by omega
      have HK := Lib.hid hke
      clear hke
      go_wp2
      go_ret
      refine ⟨ret_int (by rw [HK.out]), ?_, hOn⟩
      have e := HY.out
      rw [HK.out] at e
      rw [mark_done (markI_len _ _) e] at hO
      exact hO
set_option maxHeartbeats 400000 in
theorem markBoolS_any (A : Option Addr) (xs : List Bool) (c : Nat) (k : Int) (w : World) (ho : OF 4 fb w A c xs) (hl : xs.length ≤ 1125899906842624) (hk0 : 0 ≤ k) (hk1 : k ≤ 1125899906842624) :
    Calls Try.prog 79 #[.slice A xs.length c, .int .i64 k] w fun e w' => e = .returned (.int .i64 (k + (xs.length : Int))) ∧ OF 4 fb w' A c (markB xs.length k) ∧ Only (blk A) w w' := by
  go_enter Try.func79, Try.ntmps79
  go_wp2
  go_loopw [1, 5] (fun q i wr => ∃ (j : Nat) (ys : List Bool), j ≤ xs.length ∧ q = .int .i64 (k + (j : Int)) ∧ i = .int .i64 j ∧ Hid (ys = (markB xs.length k).take j ++ xs.drop j) ∧ OF 4 fb wr A c ys ∧ Only (blk A) w wr) (fun _ i _ => xs.length - (intOf i).toNat)
  case atStart => exact ⟨0, xs, by omega, by simp, rfl, by simp [Hid], ho, Only.refl _ _⟩
  case round =>
    obtain ⟨j, ys, hj, rfl, rfl, HY, hO, hOn⟩ := hrel
    by_cases hlt : j < xs.length
    · obtain ⟨g, rfl, hg⟩ := ho.some_ hlt
      have hy := mark_at (List.getElem?_eq_getElem hlt) (by rw [markB_len]; omega) HY.out
      have c1 : wr.cell? ⟨g, j, none⟩ = some (fb xs[j]) := hO.cell hy
      have f1 := hO.frozen j
      have HS := Lib.hid (mark_step (markB_at k hlt) rfl hlt HY.out)
      clear hy
      go_wp2
      go_roundw
      case rel => exact ⟨j + 1, _, by omega, by go_num, by go_num, HS.out, hO.set_ j _, hOn.setCell (.inl (by simp [blk])) _⟩
      case measure => simp [intOf]; omega
    · have hke : j = xs.length := by omega
      have HK := Lib.hid hke
      clear hke
      go_wp2
      go_ret
      refine ⟨ret_int (by rw [HK.out]), ?_, hOn⟩
      have e := HY.out
      rw [HK.out] at e
      rw [mark_done (markB_len _ _) e] at hO
      exact hO
set_option maxHeartbeats 400000 in
theorem markCellS_any (A : Option Addr) (os : List OCell) (c : Nat) (k : Int) (w : World) (ho : OC w A c os) (hnd : (blks os).Nodup) (hl : os.length ≤ 1048576) (hr : ∀ o ∈ os, o.c.refs.length ≤ 1048576) (hk0 : 0 ≤ k) (hk1 : k ≤ 1125899906842) :
    Calls Try.prog 77 #[.slice A os.length c, .int .i64 k] w fun e w' => e = .returned (.int .i64 (k + (sizeCs (os.map (·.c)) : Int))) ∧ ∃ os', OC w' A c os' ∧ os'.map (·.c) = markCs (os.map (·.c)) k ∧ blks os' = blks os ∧ Only (blk A ++ blks os) w w' := by
  have hsz := sizeCs_bound (os.map (·.c)) 1048576 (by simpa using hr)
  have hsz2 : sizeCs (os.map (·.c)) ≤ 1099513724928 := by
    refine Nat.le_trans hsz ?_
    rw [List.length_map]
    omega
  clear hsz
  go_enter Try.func77, Try.ntmps77
  go_wp2
  go_loopw [1, 5] (fun q i wr => ∃ (j : Nat) (ps : List OCell), j ≤ os.length ∧ q = .int .i64 (k + (sizeCs ((os.map (·.c)).take j) : Int)) ∧ i = .int .i64 j ∧ Hid (ps.map (·.c) = (markCs (os.map (·.c)) k).take j ++ (os.map (·.c)).drop j) ∧ OC wr A c ps ∧ Hid (blks ps = blks os) ∧ Only (blk A ++ blks os) w wr) (fun _ i _ => os.length - (intOf i).toNat)
  case atStart => exact ⟨0, os, by omega, by simp [sizeCs], rfl, by simp [Hid], ho, rfl, Only.refl _ _⟩
  case round =>
    obtain ⟨j, ps, hj, rfl, rfl, HY, hO, HB, hOn⟩ := hrel
    have hpl : ps.length = os.length := by
      have := congrArg List.length HY.out
      simp [markCs_len] at this
      omega
    by_cases hlt : j < os.length
    · obtain ⟨g, rfl, hg⟩ := ho.some_ hlt
      have hgw : g < wr.heap.size := Nat.lt_of_lt_of_le hg hOn.size
      have hp := List.getElem?_eq_getElem (l := ps) (i := j) (by omega)
      generalize ps[j] = p at hp
      have hdx : (os.map (·.c))[j]? = some os[j].c := by rw [List.getElem?_map, List.getElem?_eq_getElem hlt]; rfl
      have hpc : p.c = os[j].c := by
        have h1 := mark_at hdx (by rw [markCs_len, List.length_map]; omega) HY.out
        rw [List.getElem?_map, hp] at h1
        injection h1
      have hrl := hr os[j] (List.getElem_mem hlt)
      have hs := sizeCs_snoc hdx
      have hle := sizeCs_le (os.map (·.c)) j
      have hms := markCs_at (os.map (·.c)) k j _ hdx
      obtain ⟨g', hg', c0, c1, c2, _⟩ := hO.at_ hp
      injection hg' with hg'
      injection hg' with hg'
      subst hg'
      have f0 := hO.frozen (j * 3)
      have f1 := hO.frozen (j * 3 + 1)
      have HO2 := Lib.hid (hO.set2 j p (mk3 (k + (sizeCs ((os.map (·.c)).take j) : Int))) (k + (sizeCs ((os.map (·.c)).take j) : Int) + 1) hp)
      have hprl : p.c.refs.length = os[j].c.refs.length := by rw [hpc]
      have hp2 : (ps.set j ⟨⟨mk3 (k + (sizeCs ((os.map (·.c)).take j) : Int)), k + (sizeCs ((os.map (·.c)).take j) : Int) + 1, p.c.refs⟩, p.A, p.cap⟩)[j]? = some ⟨⟨mk3 (k + (sizeCs ((os.map (·.c)).take j) : Int)), k + (sizeCs ((os.map (·.c)).take j) : Int) + 1, p.c.refs⟩, p.A, p.cap⟩ := by
        rw [List.getElem?_set, if_pos rfl, if_pos (by omega)]
      have hnd2 : (blks (ps.set j ⟨⟨mk3 (k + (sizeCs ((os.map (·.c)).take j) : Int)), k + (sizeCs ((os.map (·.c)).take j) : Int) + 1, p.c.refs⟩, p.A, p.cap⟩)).Nodup := by
        rw [blks_set hp (by rfl), HB.out]; exact hnd
      have HP := Lib.hid hp
      have HP2 := Lib.hid hp2
      have HPC := Lib.hid hpc
      have HPL := Lib.hid hpl
      have HPR := Lib.hid hprl
      have HS := Lib.hid hs
      have HM := Lib.hid hms
      have hpr2 : p.c.refs.length ≤ 1048576 := by omega
      have hO2r := (HO2.out.2 _ (List.mem_of_getElem? hp2)).1
      clear hp hp2 hpc hpl hprl hs hms hdx
      go_wp2_with (go_at_call 78; refine (markIntS_any _ p.c.refs _ _ _ hO2r (by omega) (by omega) (by omega)).mono ?_; rintro e w' ⟨rfl, hR, hOn2⟩)
      go_roundw
      case rel =>
        have hx := HO2.out.refs_ hnd2 j _ HP2.out (markI_len _ _) hOn2 hR
        refine ⟨j + 1, _, by omega, by rw [HS.out, ← HPR.out]; go_num, by go_num, ?_, hx, ?_, ?_⟩
        · unfold Hid
          rw [List.set_set, List.map_set]
          refine mark_step ?_ (List.length_map ..) hlt HY.out
          dsimp only
          rw [HM.out, HPR.out]
          congr 3
          omega
        · unfold Hid
          rw [blks_set HP2.out (by rfl), blks_set HP.out (by rfl), HB.out]
        · refine ((hOn.setCell (.inl (by simp [blk])) _).setCell (.inl (by simp [blk])) _).trans (hOn2.mono fun b hb => ?_)
          rw [← HB.out]
          exact List.mem_append.2 (.inr (mem_blks (List.mem_of_getElem? HP.out) hb))
      case measure => simp [intOf]; omega
    · have hke : j = os.length := by omega
      have HK := Lib.hid hke
      clear hke hpl
      go_wp2
      go_ret
      have hlm : (os.map (·.c)).length = os.length := List.length_map ..
      refine ⟨ret_int (by rw [HK.out, ← hlm, List.take_length]), ps, hO, ?_, HB.out, hOn⟩
      have e := HY.out
      rw [HK.out, ← hlm] at e
      exact mark_done (markCs_len _ _) e
theorem mk_nd {A A' : Option Addr} {os : List OCell} (h : (blk A ++ blks os ++ blk A').Nodup) : (blks os).Nodup ∧ (∀ g ∈ blk A ++ blks os, g ∉ blk A') := by
  simp only [List.nodup_append, List.mem_append] at h ⊢
  exact ⟨h.1.2.1, fun g hg hg' => h.2.2 g hg g hg' rfl⟩
set_option maxHeartbeats 400000 in
theorem markHeap_any (A A' : Option Addr) (os : List OCell) (rs : List Int) (c c' : Nat) (k : Int) (w : World) (ho : OHs w A c A' c' os rs) (hl : os.length ≤ 1048576) (hr : ∀ o ∈ os, o.c.refs.length ≤ 1048576) (hl2 : rs.length ≤ 1048576) (hk0 : 0 ≤ k) (hk1 : k ≤ 1125899906842) :
    Calls Try.prog 21 #[.agg #[.slice A os.length c, .slice A' rs.length c'], .int .i64 k] w fun e w' => e = .returned (.int .i64 (k + (sizeCs (os.map (·.c)) : Int) + (rs.length : Int))) ∧
      ∃ os', OHs w' A c A' c' os' (markI rs.length (k + (sizeCs (os.map (·.c)) : Int))) ∧ os'.map (·.c) = markCs (os.map (·.c)) k ∧ blks os' = blks os ∧ Only (hblks A os A') w w' := by
  have hsz2 : sizeCs (os.map (·.c)) ≤ 1099513724928 := by
    refine Nat.le_trans (sizeCs_bound (os.map (·.c)) 1048576 (by simpa using hr)) ?_
    rw [List.length_map]
    omega
  have hlt := ho.lt
  have hlt1 : ∀ g ∈ blk A ++ blks os, g ≠ w.heap.size := fun g hg => by have := hlt g (List.mem_append.2 (.inl hg)); omega
  have hlt2 : ∀ g ∈ blk A', g ≠ w.heap.size := fun g hg => by have := hlt g (List.mem_append.2 (.inr hg)); omega
  have hni : w.heap.size ∉ blk A ++ blks os := fun h => hlt1 _ h rfl
  have hnd := mk_nd ho.nodup
  have HA := Lib.hid hnd.2
  have hnd1 := hnd.1
  have hC := ho.cells.below (w' := w.alloc (.cells #[.slice A os.length c, .slice A' rs.length c'] 29)) (by repeat (first | ((with_reducible refine Below.setc ?_ ?_ _); focus (first | omega | (simp; done) | (simp; omega))) | ((with_reducible refine Below.allocc ?_ ?_ _); focus (first | omega | (simp; done) | (simp; omega))) | (with_reducible refine Below.drew ?_) | (with_reducible refine Below.drewn ?_) | (with_reducible assumption) | (with_reducible exact Below.refl _ _) | ((with_reducible refine Below.stepp (by with_reducible assumption) ?_ ?_); focus (first | omega | (simp; done) | (simp; omega)))))
  have hF := ho.roots.below (w' := w.alloc (.cells #[.slice A os.length c, .slice A' rs.length c'] 29)) (by repeat (first | ((with_reducible refine Below.setc ?_ ?_ _); focus (first | omega | (simp; done) | (simp; omega))) | ((with_reducible refine Below.allocc ?_ ?_ _); focus (first | omega | (simp; done) | (simp; omega))) | (with_reducible refine Below.drew ?_) | (with_reducible refine Below.drewn ?_) | (with_reducible assumption) | (with_reducible exact Below.refl _ _) | ((with_reducible refine Below.stepp (by with_reducible assumption) ?_ ?_); focus (first | omega | (simp; done) | (simp; omega)))))
  have HO := Lib.hid ho
  clear ho hlt hlt1 hlt2 hnd
  go_enter Try.func21, Try.ntmps21
  go_wp2_with (go_at_call 77; refine (markCellS_any _ os _ _ _ hC hnd1 hl hr hk0 hk1).mono ?_; rintro e w1 ⟨rfl, os', hC1, hm1, hb1, hO1⟩; have y1 := hO1.cell (p := ⟨w.heap.size, 1, none⟩) (v := .slice A' rs.length c') (by simp [go_sem]) hni; have hF1 := hF.only hO1 (fun g hg hc => HA.out g hc hg); have HM1 := Lib.hid hm1; have HB1 := Lib.hid hb1; clear hm1 hb1)
  refine (markIntS_any _ rs _ _ _ hF1 (by omega) (by omega) (by omega)).mono ?_
  rintro e w2 ⟨rfl, hF2, hO2⟩
  go_wp2
  go_ret
  have hC2 : OC w2 A c os' := hC1.keep fun g hg => by
    rw [HB1.out] at hg
    exact hO2.block g (hC1.lt g (by rw [HB1.out]; exact hg)) (HA.out g hg)
  have hol : os'.length = os.length := by have := congrArg List.length HM1.out; simpa [markCs_len] using this
  refine ⟨rfl, os', ⟨hC2, hF2, by rw [HB1.out]; exact HO.out.nodup, by omega, by rw [markI_len]; omega⟩, HM1.out, HB1.out, ?_⟩
  have ha : Only (hblks A os A') w (w.alloc (.cells #[.slice A os.length c, .slice A' rs.length c'] 29)) := (Only.refl _ _).alloc _
  exact (ha.trans (hO1.mono fun g hg => List.mem_append.2 (.inl hg))).trans (hO2.mono fun g hg => List.mem_append.2 (.inr hg))
end Go.Proofs.Ytdkhpmlimnfgpaa
