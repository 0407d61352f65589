/- The copies to.. of the laws: what they return is new memory that reads as the argument does. Conditions: lengths at most 2^20. -/
import Derived.Test.YtkmfhadanbfadaaChecked
import Derived.OwnWalk
import Derived.Test.YtkmfhadanbfadaaGrOwn
namespace Go.Proofs.Ytkmfhadanbfadaa
open Go.RowKit
set_option maxRecDepth 100000
set_option linter.unusedSimpArgs false

theorem info_int : (Try.prog.info? 3).map (fun i => (i.zero, i.size, i.bytes)) = some (some (.int .i64 0), 1, 8) := by kernel_rfl
theorem info_cell : (Try.prog.info? 114).map (fun i => (i.zero, i.size, i.bytes)) = some (some (.agg #[.bool false, .int .i64 0, .slice none 0 0]), 3, 40) := by kernel_rfl
theorem mk_ints (n : Nat) (hn : n ≤ 1048577) (W : World) :
    (Instr.makeSlice 23 (.int .i64 (n : Int)) (.int .i64 (n : Int))).run Try.prog W = .ok (.slice (some ⟨W.heap.size, 0, none⟩) n n) (W.alloc (.cells (rowF fi (List.replicate n 0)) 3)) := by
  obtain ⟨i0, hi, hz0, hz1, hz2⟩ := info_parts info_int
  have h := run_make (P := Try.prog) W 23 3 i0 _ Try.underlying23 hi hz0 .i64 .i64 n n (by omega) (by omega) (by rw [hz2]; omega) (by omega)
  simp only [Int.toNat_natCast] at h
  rw [h, hz1, Nat.mul_one, ← rowF_made fi 0 n rfl]
  rfl
theorem info_bool : (Try.prog.info? 4).map (fun i => (i.zero, i.size, i.bytes)) = some (some (.bool false), 1, 1) := by kernel_rfl
theorem mk_bools (n : Nat) (hn : n ≤ 1048577) (W : World) :
    (Instr.makeSlice 26 (.int .i64 (n : Int)) (.int .i64 (n : Int))).run Try.prog W = .ok (.slice (some ⟨W.heap.size, 0, none⟩) n n) (W.alloc (.cells (rowF fb (List.replicate n false)) 4)) := by
  obtain ⟨i0, hi, hz0, hz1, hz2⟩ := info_parts info_bool
  have h := run_make (P := Try.prog) W 26 4 i0 _ Try.underlying26 hi hz0 .i64 .i64 n n (by omega) (by omega) (by rw [hz2]; omega) (by omega)
  simp only [Int.toNat_natCast] at h
  rw [h, hz1, Nat.mul_one, ← rowF_made fb false n rfl]
  rfl
theorem mk_cells (n : Nat) (hn : n ≤ 1048577) (W : World) :
    (Instr.makeSlice 30 (.int .i64 (n : Int)) (.int .i64 (n : Int))).run Try.prog W = .ok (.slice (some ⟨W.heap.size, 0, none⟩) n n) (W.alloc (.cells (rowC (List.replicate n zc)) 114)) := by
  obtain ⟨i0, hi, hz0, hz1, hz2⟩ := info_parts info_cell
  have h := run_make (P := Try.prog) W 30 114 i0 _ Try.underlying30 hi hz0 .i64 .i64 n n (by omega) (by omega) (by rw [hz2]; omega) (by omega)
  simp only [Int.toNat_natCast] at h
  rw [h, hz1, ← rowC_made n]
  rfl
theorem set_take {α : Type} {xs ys : List α} {k : Nat} {x : α} (z : α) (hx : xs[k]? = some x) (hy : ys = xs.take k ++ List.replicate (xs.length - k) z) : ys.set k x = xs.take (k + 1) ++ List.replicate (xs.length - (k + 1)) z := by
  obtain ⟨hk, rfl⟩ := List.getElem?_eq_some_iff.1 hx
  subst hy
  rw [List.set_append_right _ _ (by simp; omega), List.length_take, Nat.min_eq_left (by omega), Nat.sub_self, take_snoc_of hx, List.append_assoc]
  congr 1
  rw [show xs.length - k = (xs.length - (k + 1)) + 1 by omega, List.replicate_succ]
  rfl

set_option maxHeartbeats 400000 in
theorem toIntS_any (A : Option Addr) (xs : List Int) (c : Nat) (w : World) (hr : RF fi w A xs) (hn : xs.length ≤ 1048576) :
    Calls Try.prog 38 #[.slice A xs.length c] w fun e w' => ∃ g, e = .returned (.slice (some ⟨g, 0, none⟩) xs.length xs.length) ∧ g = w.heap.size ∧ w' = w.alloc (.cells (rowF fi xs) 3) := by
  have hmk := mk_ints xs.length (by omega)
  go_enter Try.func38, Try.ntmps38
  go_wp2
  go_loopw [4] (fun i wr => ∃ (k : Nat) (ys : List Int), k ≤ xs.length ∧ i = .int .i64 k ∧ Hid (ys = xs.take k ++ List.replicate (xs.length - k) 0) ∧ wr = w.alloc (.cells (rowF fi ys) 3)) (fun i _ => xs.length - (intOf i).toNat)
  case atStart => exact ⟨0, _, by omega, rfl, by simp [Hid], rfl⟩
  case round =>
    obtain ⟨k, ys, hk, rfl, HY, rfl⟩ := hrel
    clear hmk
    by_cases hlt : k < xs.length
    · obtain ⟨b, o, x, rfl, hx, c1, hb⟩ := hr.at_ hlt
      have Hx := Lib.hid hx
      clear hx
      have hlen : ys.length = xs.length := by rw [HY.out]; simp; omega
      obtain ⟨y, hy⟩ : ∃ y, ys[k]? = some y := ⟨_, List.getElem?_eq_getElem (by omega)⟩
      have hrow : (rowF fi ys)[k]? = some (.int .i64 y) := by rw [rowF_get, hy]; rfl
      have HL := Lib.hid hlen
      clear hlen hy
      have c2 : w.cell? ⟨b, o + k, none⟩ = some (.int .i64 x) := c1
      clear c1
      go_wp2
      go_roundw
      case rel => exact ⟨k + 1, ys.set k x, by omega, by go_num, set_take 0 Hx.out HY.out, by rw [← rowF_set]; rfl⟩
      case measure => simp [intOf]; omega
    · have hke : k = xs.length := by omega
      have HK := Lib.hid hke
      clear hke
      go_wp2
      go_ret
      exact ⟨_, rfl, rfl, by rw [show ys = xs by rw [HY.out, HK.out]; simp]⟩
set_option maxHeartbeats 400000 in
theorem toBoolS_any (A : Option Addr) (xs : List Bool) (c : Nat) (w : World) (hr : RF fb w A xs) (hn : xs.length ≤ 1048576) :
    Calls Try.prog 72 #[.slice A xs.length c] w fun e w' => ∃ g, e = .returned (.slice (some ⟨g, 0, none⟩) xs.length xs.length) ∧ g = w.heap.size ∧ w' = w.alloc (.cells (rowF fb xs) 4) := by
  have hmk := mk_bools xs.length (by omega)
  go_enter Try.func72, Try.ntmps72
  go_wp2
  go_loopw [4] (fun i wr => ∃ (k : Nat) (ys : List Bool), k ≤ xs.length ∧ i = .int .i64 k ∧ Hid (ys = xs.take k ++ List.replicate (xs.length - k) false) ∧ wr = w.alloc (.cells (rowF fb ys) 4)) (fun i _ => xs.length - (intOf i).toNat)
  case atStart => exact ⟨0, _, by omega, rfl, by simp [Hid], rfl⟩
  case round =>
    obtain ⟨k, ys, hk, rfl, HY, rfl⟩ := hrel
    clear hmk
    by_cases hlt : k < xs.length
    · obtain ⟨b, o, x, rfl, hx, c1, hb⟩ := hr.at_ hlt
      have Hx := Lib.hid hx
      clear hx
      have hlen : ys.length = xs.length := by rw [HY.out]; simp; omega
      obtain ⟨y, hy⟩ : ∃ y, ys[k]? = some y := ⟨_, List.getElem?_eq_getElem (by omega)⟩
      have hrow : (rowF fb ys)[k]? = some (.bool y) := by rw [rowF_get, hy]; rfl
      have HL := Lib.hid hlen
      clear hlen hy
      have c2 : w.cell? ⟨b, o + k, none⟩ = some (.bool x) := c1
      clear c1
      go_wp2
      go_roundw
      case rel => exact ⟨k + 1, ys.set k x, by omega, by go_num, set_take false Hx.out HY.out, by rw [← rowF_set]; rfl⟩
      case measure => simp [intOf]; omega
    · have hke : k = xs.length := by omega
      have HK := Lib.hid hke
      clear hke
      go_wp2
      go_ret
      exact ⟨_, rfl, rfl, by rw [show ys = xs by rw [HY.out, HK.out]; simp]⟩
theorem toBoolS_own (A : Option Addr) (xs : List Bool) (c : Nat) (w : World) (hr : RF fb w A xs) (hn : xs.length ≤ 1048576) :
    Calls Try.prog 72 #[.slice A xs.length c] w fun e w' => ∃ g, e = .returned (.slice (some ⟨g, 0, none⟩) xs.length xs.length) ∧ w.heap.size ≤ g ∧ OF 4 fb w' (some ⟨g, 0, none⟩) xs.length xs ∧ Below w.heap.size w w' :=
  (toBoolS_any A xs c w hr hn).mono fun e w' ⟨g, he, hg, hw⟩ => by
    subst hg; subst hw
    exact ⟨_, he, Nat.le_refl _, OF.of_blk (heap_alloc_new _ _) (by simp only [maxLen]; omega), (by repeat (first | ((with_reducible refine Below.setc ?_ ?_ _); focus (first | omega | (simp; done) | (simp; omega))) | ((with_reducible refine Below.allocc ?_ ?_ _); focus (first | omega | (simp; done) | (simp; omega))) | (with_reducible refine Below.drew ?_) | (with_reducible refine Below.drewn ?_) | (with_reducible assumption) | (with_reducible exact Below.refl _ _) | ((with_reducible refine Below.stepp (by with_reducible assumption) ?_ ?_); focus (first | omega | (simp; done) | (simp; omega)))))⟩
theorem toIntS_own (A : Option Addr) (xs : List Int) (c : Nat) (w : World) (hr : RF fi w A xs) (hn : xs.length ≤ 1048576) :
    Calls Try.prog 38 #[.slice A xs.length c] w fun e w' => ∃ g, e = .returned (.slice (some ⟨g, 0, none⟩) xs.length xs.length) ∧ w.heap.size ≤ g ∧ OF 3 fi w' (some ⟨g, 0, none⟩) xs.length xs ∧ Below w.heap.size w w' :=
  (toIntS_any A xs c w hr hn).mono fun e w' ⟨g, he, hg, hw⟩ => by
    subst hg; subst hw
    exact ⟨_, he, Nat.le_refl _, OF.of_blk (heap_alloc_new _ _) (by simp only [maxLen]; omega), (by repeat (first | ((with_reducible refine Below.setc ?_ ?_ _); focus (first | omega | (simp; done) | (simp; omega))) | ((with_reducible refine Below.allocc ?_ ?_ _); focus (first | omega | (simp; done) | (simp; omega))) | (with_reducible refine Below.drew ?_) | (with_reducible refine Below.drewn ?_) | (with_reducible assumption) | (with_reducible exact Below.refl _ _) | ((with_reducible refine Below.stepp (by with_reducible assumption) ?_ ?_); focus (first | omega | (simp; done) | (simp; omega)))))⟩
set_option maxHeartbeats 400000 in
theorem toCell_any (u : Bool) (d : Int) (A : Option Addr) (xs : List Int) (c : Nat) (w : World) (hr : RF fi w A xs) (hn : xs.length ≤ 1048576) :
    Calls Try.prog 158 #[.agg #[.bool u, .int .i64 d, .slice A xs.length c]] w fun e w' => ∃ g, e = .returned (.agg #[.bool u, .int .i64 d, .slice (some ⟨g, 0, none⟩) xs.length xs.length]) ∧
      w.heap.size ≤ g ∧ OF 3 fi w' (some ⟨g, 0, none⟩) xs.length xs ∧ Below w.heap.size w w' := by
  go_enter Try.func158, Try.ntmps158
  go_wp2_with (go_at_call 38; refine (toIntS_own _ _ _ _ (hr.below (by repeat (first | ((with_reducible refine Below.setc ?_ ?_ _); focus (first | omega | (simp; done) | (simp; omega))) | ((with_reducible refine Below.allocc ?_ ?_ _); focus (first | omega | (simp; done) | (simp; omega))) | (with_reducible refine Below.drew ?_) | (with_reducible refine Below.drewn ?_) | (with_reducible assumption) | (with_reducible exact Below.refl _ _) | ((with_reducible refine Below.stepp (by with_reducible assumption) ?_ ?_); focus (first | omega | (simp; done) | (simp; omega)))))) hn).mono ?_; rintro e w' ⟨g, rfl, hg, ho, hB⟩; obtain ⟨hbc, hbf, hbz⟩ := bcell hB; simp at hg)
  refine bodyPost_ret (v := .agg #[.bool u, .int .i64 d, .slice (some ⟨g, 0, none⟩) xs.length xs.length]) (by simp [results, Try.results158, go_sem, hbc]) rfl ⟨g, rfl, by omega, ?_, ?_⟩
  · refine ho.keep fun i hi => ?_
    simp [blk] at hi
    subst hi
    rw [heap_setCell_ne _ _ _ (by simp; omega), heap_setCell_ne _ _ _ (by simp; omega), heap_setCell_ne _ _ _ (by simp; omega), heap_setCell_ne _ _ _ (by simp; omega)]
  · exact (by repeat (first | ((with_reducible refine Below.setc ?_ ?_ _); focus (first | omega | (simp; done) | (simp; omega))) | ((with_reducible refine Below.allocc ?_ ?_ _); focus (first | omega | (simp; done) | (simp; omega))) | (with_reducible refine Below.drew ?_) | (with_reducible refine Below.drewn ?_) | (with_reducible assumption) | (with_reducible exact Below.refl _ _) | ((with_reducible refine Below.stepp (by with_reducible assumption) ?_ ?_); focus (first | omega | (simp; done) | (simp; omega)))))
set_option maxHeartbeats 400000 in
theorem toCellS_any (A : Option Addr) (cs : List CellM) (c : Nat) (w : World) (hc : RC w A cs) (hn : cs.length ≤ 1048576) (hr : ∀ d ∈ cs, d.refs.length ≤ 1048576) :
    Calls Try.prog 121 #[.slice A cs.length c] w fun e w' => ∃ g os, e = .returned (.slice (some ⟨g, 0, none⟩) cs.length cs.length) ∧ os.map (·.c) = cs ∧ OC w' (some ⟨g, 0, none⟩) cs.length os ∧
      (blk (some ⟨g, 0, none⟩) ++ blks os).Nodup ∧ (∀ b ∈ blk (some ⟨g, 0, none⟩) ++ blks os, w.heap.size ≤ b) ∧ Below w.heap.size w w' := by
  have hmk := mk_cells cs.length (by omega)
  go_enter Try.func121, Try.ntmps121
  go_wp2
  clear hmk
  go_loopw [4] (fun i wr => ∃ (k : Nat) (rs : List OCell), k ≤ cs.length ∧ i = .int .i64 k ∧ Hid (rs.map (·.c) = cs.take k) ∧ Hid (OC wr (some ⟨w.heap.size, 0, none⟩) cs.length (rs ++ List.replicate (cs.length - k) zc)) ∧
    (blks rs).Nodup ∧ (∀ b ∈ blks rs, w.heap.size < b) ∧ Below w.heap.size w wr ∧ w.heap.size < wr.heap.size) (fun i _ => cs.length - (intOf i).toNat)
  case atStart =>
    refine ⟨0, [], by omega, rfl, rfl, ?_, List.Pairwise.nil, by simp [blks], (by repeat (first | ((with_reducible refine Below.setc ?_ ?_ _); focus (first | omega | (simp; done) | (simp; omega))) | ((with_reducible refine Below.allocc ?_ ?_ _); focus (first | omega | (simp; done) | (simp; omega))) | (with_reducible refine Below.drew ?_) | (with_reducible refine Below.drewn ?_) | (with_reducible assumption) | (with_reducible exact Below.refl _ _) | ((with_reducible refine Below.stepp (by with_reducible assumption) ?_ ?_); focus (first | omega | (simp; done) | (simp; omega))))), by simp⟩
    have h := OC.of_blk (os := List.replicate cs.length zc) (heap_alloc_new w _) (by simp [maxLen]; omega) (fun o ho => by rw [(List.mem_replicate.1 ho).2]; exact zc_own)
    simpa [Hid] using h
  case round =>
    obtain ⟨k, rs, hk, rfl, HR, HO, hnd, hlo, hB, hsz⟩ := hrel
    by_cases hlt : k < cs.length
    · obtain ⟨b, o, d, Ar, cr, rfl, hx, c1, c2, c3, hrf, hrl, hb⟩ := (hc.below hB).at_ hlt
      have hdl := hr d (List.mem_of_getElem? hx)
      have Hx := Lib.hid hx
      clear hx
      have hrl2 : rs.length = k := by have := congrArg List.length HR.out; simpa [Nat.min_eq_left hk] using this
      have hz : (rs ++ List.replicate (cs.length - k) zc)[k]? = some zc := by
        rw [List.getElem?_append_right (by omega), hrl2, Nat.sub_self, List.getElem?_replicate, if_pos (by omega)]
      obtain ⟨g', hg', e1, e2, e3, hg3⟩ := OC.at_ HO.out hz
      injection hg' with hg'
      injection hg' with hg'
      subst hg'
      have HL := Lib.hid hrl2
      clear hrl2 hz hr hc
      have f1 := HO.out.frozen (k * 3)
      have f2 := HO.out.frozen (k * 3 + 1)
      have f3 := HO.out.frozen (k * 3 + 2)
      go_wp2_with (go_at_call 158; refine (toCell_any _ _ _ _ _ _ hrf hdl).mono ?_; rintro e w' ⟨g, rfl, hg, ho, hB2⟩; obtain ⟨hbc, hbf, hbz⟩ := bcell hB2)
      go_roundw
      case rel =>
        have hz2 : cs.length - k = (cs.length - (k + 1)) + 1 := by omega
        have hset : (rs ++ List.replicate (cs.length - k) zc).set k ⟨d, some ⟨g, 0, none⟩, d.refs.length⟩ = (rs ++ [⟨d, some ⟨g, 0, none⟩, d.refs.length⟩]) ++ List.replicate (cs.length - (k + 1)) zc := by
          rw [List.set_append_right _ _ (by rw [HL.out]; omega), HL.out, Nat.sub_self, hz2, List.replicate_succ, List.append_assoc]
          rfl
        have hnew : ∀ b ∈ blks rs, b < g := fun b hb => by
          have := OC.lt HO.out b (by rw [blks_append]; simp [hb])
          omega
        refine ⟨k + 1, rs ++ [⟨d, some ⟨g, 0, none⟩, d.refs.length⟩], by omega, by go_num, ?_, ?_, ?_, ?_, (by repeat (first | ((with_reducible refine Below.setc ?_ ?_ _); focus (first | omega | (simp; done) | (simp; omega))) | ((with_reducible refine Below.allocc ?_ ?_ _); focus (first | omega | (simp; done) | (simp; omega))) | (with_reducible refine Below.drew ?_) | (with_reducible refine Below.drewn ?_) | (with_reducible assumption) | (with_reducible exact Below.refl _ _) | ((with_reducible refine Below.stepp (by with_reducible assumption) ?_ ?_); focus (first | omega | (simp; done) | (simp; omega))))), by simp; omega⟩
        · unfold Hid
          rw [take_snoc_of Hx.out, List.map_append, HR.out]; rfl
        · unfold Hid
          rw [← hset]
          exact (HO.out.below hB2).set_ k ⟨d, some ⟨g, 0, none⟩, d.refs.length⟩ (by simp [HL.out]; omega) ho hrl
        · rw [blks_append]
          refine List.nodup_append.2 ⟨hnd, by simp [blks, blk], fun a ha b hb => ?_⟩
          have := hnew a ha
          simp [blks, blk] at hb
          omega
        · intro b hb
          rw [blks_append] at hb
          rcases List.mem_append.1 hb with hb | hb
          · exact hlo b hb
          · simp [blks, blk] at hb
            omega
      case measure => simp [intOf]; omega
    · have hke : k = cs.length := by omega
      have HK := Lib.hid hke
      clear hke
      go_wp2
      go_ret
      have h0 : cs.length - k = 0 := by rw [HK.out]; omega
      have h1 := HO.out
      rw [h0, List.replicate_zero, List.append_nil] at h1
      have h2 := HR.out
      rw [HK.out, List.take_length] at h2
      refine ⟨_, rs, rfl, h2, h1, ?_, ?_, hB⟩
      · simp only [blk, Option.toList, List.map_cons, List.map_nil, List.singleton_append, List.nodup_cons]
        exact ⟨fun hm => by have := hlo _ hm; omega, hnd⟩
      · intro b hb
        rcases List.mem_append.1 hb with hb | hb
        · simp [blk] at hb; omega
        · have := hlo b hb; omega
theorem nodup_app {a b c : List Nat} (h : a.Nodup) (hb : b.Nodup) (hd : ∀ x ∈ a, ∀ y ∈ b, x < y) (hc : c = a ++ b) : c.Nodup := by
  subst hc
  exact List.nodup_append.2 ⟨h, hb, fun x hx y hy => by have := hd x hx y hy; omega⟩
theorem OH.mk_ {lo : Nat} {w : World} {h : HeapM} {g g' : Nat} {os : List OCell} {c c' : Nat} (hm : os.map (·.c) = h.cells) (ho : OC w (some ⟨g, 0, none⟩) c os) (hr : OF 3 fi w (some ⟨g', 0, none⟩) c' h.roots)
    (hnd : (blk (some ⟨g, 0, none⟩) ++ blks os).Nodup) (hlt : ∀ b ∈ blk (some ⟨g, 0, none⟩) ++ blks os, b < g') (hlo : ∀ b ∈ blk (some ⟨g, 0, none⟩) ++ blks os, lo ≤ b) (hg : lo ≤ g') (h1 : h.cells.length ≤ 9223372036854775807) (h2 : h.roots.length ≤ 9223372036854775807) :
    OH lo w (.agg #[.slice (some ⟨g, 0, none⟩) h.cells.length c, .slice (some ⟨g', 0, none⟩) h.roots.length c']) h := by
  refine ⟨_, c, _, c', os, rfl, hm, ⟨ho, hr, ?_, ?_, h2⟩, ?_⟩
  · exact nodup_app hnd (by simp [blk]) (fun x hx y hy => by rw [mem_blk_some hy]; exact hlt x hx) rfl
  · rw [← hm, List.length_map] at h1; exact h1
  · intro b hb
    rcases List.mem_append.1 hb with hb | hb
    · exact hlo b hb
    · rw [mem_blk_some hb]; exact hg
set_option maxHeartbeats 400000 in
theorem toHeap_any (v : Value) (h : HeapM) (w : World) (hv : RH w v h) (hn : h.cells.length ≤ 1048576) (hr : ∀ d ∈ h.cells, d.refs.length ≤ 1048576) (hn2 : h.roots.length ≤ 1048576) :
    Calls Try.prog 46 #[v] w fun e w' => ∃ v', e = .returned v' ∧ OH w.heap.size w' v' h ∧ Below w.heap.size w w' := by
  obtain ⟨A, c, A', c', rfl, hc, hrr, -, -⟩ := hv
  go_enter Try.func46, Try.ntmps46
  go_wp2_with (first
    | (go_at_call 121; refine (toCellS_any _ _ _ _ (hc.below (by repeat (first | ((with_reducible refine Below.setc ?_ ?_ _); focus (first | omega | (simp; done) | (simp; omega))) | ((with_reducible refine Below.allocc ?_ ?_ _); focus (first | omega | (simp; done) | (simp; omega))) | (with_reducible refine Below.drew ?_) | (with_reducible refine Below.drewn ?_) | (with_reducible assumption) | (with_reducible exact Below.refl _ _) | ((with_reducible refine Below.stepp (by with_reducible assumption) ?_ ?_); focus (first | omega | (simp; done) | (simp; omega)))))) hn hr).mono ?_; rintro e w1 ⟨g, os, rfl, hm, ho, hnd, hlo, hB1⟩; obtain ⟨hbc, hbf, hbz⟩ := bcell hB1; have z0w1 : w.heap.size < w1.heap.size := (by (try simp at hbz); omega); have z1w1 : w.heap.size + 1 < w1.heap.size := (by (try simp at hbz); omega); have z2w1 : w.heap.size + 1 + 1 < w1.heap.size := (by (try simp at hbz); omega); have HM := Lib.hid hm; clear hm; have HL := Lib.hid hlo; clear hlo)
    | (go_at_call 38; refine (toIntS_own _ _ _ _ (hrr.below (by repeat (first | ((with_reducible refine Below.setc ?_ ?_ _); focus (first | omega | (simp; done) | (simp; omega))) | ((with_reducible refine Below.allocc ?_ ?_ _); focus (first | omega | (simp; done) | (simp; omega))) | (with_reducible refine Below.drew ?_) | (with_reducible refine Below.drewn ?_) | (with_reducible assumption) | (with_reducible exact Below.refl _ _) | ((with_reducible refine Below.stepp (by with_reducible assumption) ?_ ?_); focus (first | omega | (simp; done) | (simp; omega)))))) hn2).mono ?_; rintro e w2 ⟨g', rfl, hg', ho', hB2⟩; obtain ⟨hbc2, hbf2, hbz2⟩ := bcell hB2; have z0w2 : w.heap.size < w2.heap.size := (by (try simp at hbz2); omega); have z1w2 : w.heap.size + 1 < w2.heap.size := (by (try simp at hbz2); omega); have z2w2 : w.heap.size + 1 + 1 < w2.heap.size := (by (try simp at hbz2); omega)))
  have hL := HL.out
  simp only [World.size_alloc] at hL
  simp only [World.size_setCell] at hg'
  refine bodyPost_ret (v := .agg #[.slice (some ⟨g, 0, none⟩) h.cells.length h.cells.length, .slice (some ⟨g', 0, none⟩) h.roots.length h.roots.length]) (by simp [results, Try.results46, go_sem, hbc2, hbc, z0w1, z1w1, z2w1]) rfl ⟨_, rfl, OH.mk_ HM.out ?_ ?_ hnd (fun b hb => ?_) (fun b hb => ?_) ?_ (by omega) (by omega), (by repeat (first | ((with_reducible refine Below.setc ?_ ?_ _); focus (first | omega | (simp; done) | (simp; omega))) | ((with_reducible refine Below.allocc ?_ ?_ _); focus (first | omega | (simp; done) | (simp; omega))) | (with_reducible refine Below.drew ?_) | (with_reducible refine Below.drewn ?_) | (with_reducible assumption) | (with_reducible exact Below.refl _ _) | ((with_reducible refine Below.stepp (by with_reducible assumption) ?_ ?_); focus (first | omega | (simp; done) | (simp; omega)))))⟩
  · refine ho.keep fun b hb => ?_
    have h1 := hL b hb
    have h2 := ho.lt b hb
    (repeat (first | rw [heap_setCell_ne _ _ _ (by first | omega | (simp; done) | (simp; omega))] | rw [Below.block hB2 _ (by first | omega | (simp; done) | (simp; omega))] | rw [Below.heap_alloc _ _ _ (by first | omega | (simp; done) | (simp; omega))]))
  · refine ho'.keep fun b hb => ?_
    have h2 := ho'.lt b hb
    obtain rfl := mem_blk_some hb
    (repeat (first | rw [heap_setCell_ne _ _ _ (by first | omega | (simp; done) | (simp; omega))] | rw [Below.block hB2 _ (by first | omega | (simp; done) | (simp; omega))] | rw [Below.heap_alloc _ _ _ (by first | omega | (simp; done) | (simp; omega))]))
  · have h2 := ho.lt b hb
    omega
  · have := hL b hb
    omega
  · omega
theorem nodup_app1 {a : List Nat} {g : Nat} (h : a.Nodup) (hd : ∀ x ∈ a, x < g) : (a ++ blk (some ⟨g, 0, none⟩)).Nodup :=
  nodup_app h (by simp [blk]) (fun x hx y hy => by rw [mem_blk_some hy]; exact hd x hx) rfl
set_option maxHeartbeats 400000 in
theorem toAged_any (v : Value) (p : TwoM) (w : World) (hv : RTw w v p) (hn : p.store.cells.length ≤ 1048576) (hr : ∀ d ∈ p.store.cells, d.refs.length ≤ 1048576) (hn2 : p.store.roots.length ≤ 1048576) (hn3 : p.x.length ≤ 1048576) (hn4 : p.y.length ≤ 1048576) :
    Calls Try.prog 52 #[v] w fun e w' => ∃ v', e = .returned v' ∧ OTw w.heap.size w' v' p ∧ Below w.heap.size w w' := by
  obtain ⟨A, c, A', c', A2, c2, A3, c3, rfl, hh, hx, -, hy, -⟩ := hv
  go_enter Try.func52, Try.ntmps52
  go_wp2_with (go_at_call 46; refine (toHeap_any _ p.store _ ((hh.below (by repeat (first | ((with_reducible refine Below.setc ?_ ?_ _); focus (first | omega | (simp; done) | (simp; omega))) | ((with_reducible refine Below.allocc ?_ ?_ _); focus (first | omega | (simp; done) | (simp; omega))) | (with_reducible refine Below.drew ?_) | (with_reducible refine Below.drewn ?_) | (with_reducible assumption) | (with_reducible exact Below.refl _ _) | ((with_reducible refine Below.stepp (by with_reducible assumption) ?_ ?_); focus (first | omega | (simp; done) | (simp; omega)))))).rh _ _) hn hr hn2).mono ?_; rintro e w1 ⟨v', rfl, ⟨B, d, B', d', os, rfl, hm, ho, hlo⟩, hB1⟩; obtain ⟨hbc, hbf, hbz⟩ := bcell hB1; have z0w1 : w.heap.size < w1.heap.size := (by (try simp at hbz); omega); have z1w1 : w.heap.size + 1 < w1.heap.size := (by (try simp at hbz); omega); have z2w1 : w.heap.size + 1 + 1 < w1.heap.size := (by (try simp at hbz); omega); have HM := Lib.hid hm; clear hm; have HL := Lib.hid hlo; clear hlo; have HO := Lib.hid ho; clear ho)
  refine (toBoolS_own _ p.x _ _ (hx.below (by repeat (first | ((with_reducible refine Below.setc ?_ ?_ _); focus (first | omega | (simp; done) | (simp; omega))) | ((with_reducible refine Below.allocc ?_ ?_ _); focus (first | omega | (simp; done) | (simp; omega))) | (with_reducible refine Below.drew ?_) | (with_reducible refine Below.drewn ?_) | (with_reducible assumption) | (with_reducible exact Below.refl _ _) | ((with_reducible refine Below.stepp (by with_reducible assumption) ?_ ?_); focus (first | omega | (simp; done) | (simp; omega)))))) hn3).mono ?_
  rintro e w2 ⟨g', rfl, hg', ho', hB2⟩
  obtain ⟨hbc2, hbf2, hbz2⟩ := bcell hB2
  have z0w2 : w.heap.size < w2.heap.size := (by (try simp at hbz2); omega); have z1w2 : w.heap.size + 1 < w2.heap.size := (by (try simp at hbz2); omega); have z2w2 : w.heap.size + 1 + 1 < w2.heap.size := (by (try simp at hbz2); omega)
  go_wp2_with fail
  refine (toBoolS_own _ p.y _ _ (hy.below (by repeat (first | ((with_reducible refine Below.setc ?_ ?_ _); focus (first | omega | (simp; done) | (simp; omega))) | ((with_reducible refine Below.allocc ?_ ?_ _); focus (first | omega | (simp; done) | (simp; omega))) | (with_reducible refine Below.drew ?_) | (with_reducible refine Below.drewn ?_) | (with_reducible assumption) | (with_reducible exact Below.refl _ _) | ((with_reducible refine Below.stepp (by with_reducible assumption) ?_ ?_); focus (first | omega | (simp; done) | (simp; omega)))))) hn4).mono ?_
  rintro e w3 ⟨g2, rfl, hg2, ho2, hB3⟩
  obtain ⟨hbc3, hbf3, hbz3⟩ := bcell hB3
  have z0w3 : w.heap.size < w3.heap.size := (by (try simp at hbz3); omega); have z1w3 : w.heap.size + 1 < w3.heap.size := (by (try simp at hbz3); omega); have z2w3 : w.heap.size + 1 + 1 < w3.heap.size := (by (try simp at hbz3); omega)
  go_wp2_with fail
  have hL := HL.out
  simp only [World.size_alloc] at hL
  simp only [World.size_setCell] at hg' hg2 hbz2 hbz3
  refine bodyPost_ret (v := .agg #[.slice B p.store.cells.length d, .slice B' p.store.roots.length d', .slice (some ⟨g', 0, none⟩) p.x.length p.x.length, .slice (some ⟨g2, 0, none⟩) p.y.length p.y.length]) (by simp [results, Try.results52, go_sem, hbc3, hbc2, hbc, z0w1, z1w1, z2w1, z1w2, z2w2]) rfl ⟨_, rfl, ⟨B, d, B', d', os, _, _, _, _, rfl, HM.out, ?_, ?_, ?_, ?_, ?_, by omega, by omega⟩, (by repeat (first | ((with_reducible refine Below.setc ?_ ?_ _); focus (first | omega | (simp; done) | (simp; omega))) | ((with_reducible refine Below.allocc ?_ ?_ _); focus (first | omega | (simp; done) | (simp; omega))) | (with_reducible refine Below.drew ?_) | (with_reducible refine Below.drewn ?_) | (with_reducible assumption) | (with_reducible exact Below.refl _ _) | ((with_reducible refine Below.stepp (by with_reducible assumption) ?_ ?_); focus (first | omega | (simp; done) | (simp; omega)))))⟩
  · refine HO.out.keep fun b hb => ?_
    have h1 := hL b hb
    have h2 := HO.out.lt b hb
    (repeat (first | rw [heap_setCell_ne _ _ _ (by first | omega | (simp; done) | (simp; omega))] | rw [Below.block hB3 _ (by first | omega | (simp; done) | (simp; omega))] | rw [Below.block hB2 _ (by first | omega | (simp; done) | (simp; omega))] | rw [Below.heap_alloc _ _ _ (by first | omega | (simp; done) | (simp; omega))]))
  · refine ho'.keep fun b hb => ?_
    have h2 := ho'.lt b hb
    obtain rfl := mem_blk_some hb
    (repeat (first | rw [heap_setCell_ne _ _ _ (by first | omega | (simp; done) | (simp; omega))] | rw [Below.block hB3 _ (by first | omega | (simp; done) | (simp; omega))] | rw [Below.block hB2 _ (by first | omega | (simp; done) | (simp; omega))] | rw [Below.heap_alloc _ _ _ (by first | omega | (simp; done) | (simp; omega))]))
  · refine ho2.keep fun b hb => ?_
    have h2 := ho2.lt b hb
    obtain rfl := mem_blk_some hb
    (repeat (first | rw [heap_setCell_ne _ _ _ (by first | omega | (simp; done) | (simp; omega))] | rw [Below.block hB3 _ (by first | omega | (simp; done) | (simp; omega))] | rw [Below.block hB2 _ (by first | omega | (simp; done) | (simp; omega))] | rw [Below.heap_alloc _ _ _ (by first | omega | (simp; done) | (simp; omega))]))
  · have h2 := ho'.lt g' (by simp [blk])
    refine nodup_app1 (nodup_app1 HO.out.nodup (fun b hb => by have := HO.out.lt b hb; omega)) (fun b hb => ?_)
    rcases List.mem_append.1 hb with hb | hb
    · have := HO.out.lt b hb
      omega
    · obtain rfl := mem_blk_some hb
      omega
  · intro b hb
    rcases List.mem_append.1 hb with hb | hb
    · rcases List.mem_append.1 hb with hb | hb
      · have := hL b hb
        omega
      · obtain rfl := mem_blk_some hb
        omega
    · obtain rfl := mem_blk_some hb
      omega
end Go.Proofs.Ytkmfhadanbfadaa
