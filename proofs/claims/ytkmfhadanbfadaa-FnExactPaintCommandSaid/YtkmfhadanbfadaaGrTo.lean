/- Texts of one family, one behind the other: To, Eq, Cmds. -/
import Derived.Test.YtkmfhadanbfadaaChecked
import Derived.OwnWalk
import Derived.Test.YtkmfhadanbfadaaGrOwn
import Derived.StillTailTactics
import Derived.Test.YtkmfhadanbfadaaGrSz
/- The copies to.. of the laws: what they return is new memory that reads as the argument does. Conditions: lengths at most 2^20. -/
namespace Go.Proofs.Ytkmfhadanbfadaa
open Go.RowKit
set_option maxRecDepth 100000
set_option linter.unusedSimpArgs false

theorem info_int : (Try.prog.info? 3).map (fun i => (i.zero, i.size, i.bytes)) = some (some (.int .i64 0), 1, 8) := by kernel_rfl
theorem info_cell : (Try.prog.info? 114).map (fun i => (i.zero, i.size, i.bytes)) = some (some (.agg #[.bool false, .int .i64 0, .slice none 0 0]), 3, 40) := by kernel_rfl
theorem mk_ints (n : Nat) (hn : n ≤ 1048577) (W : World) :
    (Instr.makeSlice 23 (.int .i64 (n : Int)) (.int .i64 (n : Int))).run Try.prog W = .ok (.slice (some ⟨W.heap.size, 0, none⟩) n n) (W.alloc (.cells (rowF fi (List.replicate n 0)) 3)) := by
  obtain ⟨i0, hi, hz0, hz1, hz2⟩ := info_parts info_int
  have h := run_make (P := Try.prog) W 23 3 i0 _ Try.underlying23 hi hz0 .i64 .i64 n n (by omega) (by omega) (by rw [hz2]; omega) (by omega)
  simp only [Int.toNat_natCast] at h
  rw [h, hz1, Nat.mul_one, ← rowF_made fi 0 n rfl]
  rfl
theorem mk_cells (n : Nat) (hn : n ≤ 1048577) (W : World) :
    (Instr.makeSlice 30 (.int .i64 (n : Int)) (.int .i64 (n : Int))).run Try.prog W = .ok (.slice (some ⟨W.heap.size, 0, none⟩) n n) (W.alloc (.cells (rowC (List.replicate n zc)) 114)) := by
  obtain ⟨i0, hi, hz0, hz1, hz2⟩ := info_parts info_cell
  have h := run_make (P := Try.prog) W 30 114 i0 _ Try.underlying30 hi hz0 .i64 .i64 n n (by omega) (by omega) (by rw [hz2]; omega) (by omega)
  simp only [Int.toNat_natCast] at h
  rw [h, hz1, ← rowC_made n]
  rfl
theorem set_take {α : Type} {xs ys : List α} {k : Nat} {x : α} (z : α) (hx : xs[k]? = some x) (hy : ys = xs.take k ++ List.replicate (xs.length - k) z) : ys.set k x = xs.take (k + 1) ++ List.replicate (xs.length - (k + 1)) z := by
  obtain ⟨hk, rfl⟩ := List.getElem?_eq_some_iff.1 hx
  subst hy
  rw [List.set_append_right _ _ (by simp; omega), List.length_take, Nat.min_eq_left (by omega), Nat.sub_self, take_snoc_of hx, List.append_assoc]
  congr 1
  rw [show xs.length - k = (xs.length - (k + 1)) + 1 by omega, List.replicate_succ]
  rfl

set_option maxHeartbeats 400000 in
theorem toIntS_any (A : Option Addr) (xs : List Int) (c : Nat) (w : World) (hr : RF fi w A xs) (hn : xs.length ≤ 1048576) :
    Calls Try.prog 38 #[.slice A xs.length c] w fun e w' => ∃ g, e = .returned (.slice (some ⟨g, 0, none⟩) xs.length xs.length) ∧ g = w.heap.size ∧ w' = w.alloc (.cells (rowF fi xs) 3) := by
  have hmk := mk_ints xs.length (by omega)
  go_enter Try.func38, Try.ntmps38
  go_wp2
  go_loopw [4] (fun i wr => ∃ (k : Nat) (ys : List Int), k ≤ xs.length ∧ i = .int .i64 k ∧ Hid (ys = xs.take k ++ List.replicate (xs.length - k) 0) ∧ wr = w.alloc (.cells (rowF fi ys) 3)) (fun i _ => xs.length - (intOf i).toNat)
  case atStart => exact ⟨0, _, by omega, rfl, by simp [Hid], rfl⟩
  case round =>
    obtain ⟨k, ys, hk, rfl, HY, rfl⟩ := hrel
    clear hmk
    by_cases hlt : k < xs.length
    · obtain ⟨b, o, x, rfl, hx, c1, hb⟩ := hr.at_ hlt
      have Hx := Lib.hid hx
      clear hx
      have hlen : ys.length = xs.length := by rw [HY.out]; simp; omega
      obtain ⟨y, hy⟩ : ∃ y, ys[k]? = some y := ⟨_, List.getElem?_eq_getElem (by omega)⟩
      have hrow : (rowF fi ys)[k]? = some (.int .i64 y) := by rw [rowF_get, hy]; rfl
      have HL := Lib.hid hlen
      clear hlen hy
      have c2 : w.cell? ⟨b, o + k, none⟩ = some (.int .i64 x) := c1
      clear c1
      go_wp2
      go_roundw
      case rel => exact ⟨k + 1, ys.set k x, by omega, by go_num, set_take 0 Hx.out HY.out, by rw [← rowF_set]; rfl⟩
      case measure => simp [intOf]; omega
    · have hke : k = xs.length := by omega
      have HK := Lib.hid hke
      clear hke
      go_wp2
      go_ret
      exact ⟨_, rfl, rfl, by rw [show ys = xs by rw [HY.out, HK.out]; simp]⟩
theorem toIntS_own (A : Option Addr) (xs : List Int) (c : Nat) (w : World) (hr : RF fi w A xs) (hn : xs.length ≤ 1048576) :
    Calls Try.prog 38 #[.slice A xs.length c] w fun e w' => ∃ g, e = .returned (.slice (some ⟨g, 0, none⟩) xs.length xs.length) ∧ w.heap.size ≤ g ∧ OF 3 fi w' (some ⟨g, 0, none⟩) xs.length xs ∧ Below w.heap.size w w' :=
  (toIntS_any A xs c w hr hn).mono fun e w' ⟨g, he, hg, hw⟩ => by
    subst hg; subst hw
    exact ⟨_, he, Nat.le_refl _, OF.of_blk (heap_alloc_new _ _) (by simp only [maxLen]; omega), (by repeat (first | ((with_reducible refine Below.setc ?_ ?_ _); focus (first | omega | (simp; done) | (simp; omega))) | ((with_reducible refine Below.allocc ?_ ?_ _); focus (first | omega | (simp; done) | (simp; omega))) | (with_reducible refine Below.drew ?_) | (with_reducible refine Below.drewn ?_) | (with_reducible assumption) | (with_reducible exact Below.refl _ _) | ((with_reducible refine Below.stepp (by with_reducible assumption) ?_ ?_); focus (first | omega | (simp; done) | (simp; omega)))))⟩
set_option maxHeartbeats 400000 in
theorem toCell_any (u : Bool) (d : Int) (A : Option Addr) (xs : List Int) (c : Nat) (w : World) (hr : RF fi w A xs) (hn : xs.length ≤ 1048576) :
    Calls Try.prog 158 #[.agg #[.bool u, .int .i64 d, .slice A xs.length c]] w fun e w' => ∃ g, e = .returned (.agg #[.bool u, .int .i64 d, .slice (some ⟨g, 0, none⟩) xs.length xs.length]) ∧
      w.heap.size ≤ g ∧ OF 3 fi w' (some ⟨g, 0, none⟩) xs.length xs ∧ Below w.heap.size w w' := by
  go_enter Try.func158, Try.ntmps158
  go_wp2_with (go_at_call 38; refine (toIntS_own _ _ _ _ (hr.below (by repeat (first | ((with_reducible refine Below.setc ?_ ?_ _); focus (first | omega | (simp; done) | (simp; omega))) | ((with_reducible refine Below.allocc ?_ ?_ _); focus (first | omega | (simp; done) | (simp; omega))) | (with_reducible refine Below.drew ?_) | (with_reducible refine Below.drewn ?_) | (with_reducible assumption) | (with_reducible exact Below.refl _ _) | ((with_reducible refine Below.stepp (by with_reducible assumption) ?_ ?_); focus (first | omega | (simp; done) | (simp; omega)))))) hn).mono ?_; rintro e w' ⟨g, rfl, hg, ho, hB⟩; obtain ⟨hbc, hbf, hbz⟩ := bcell hB; simp at hg)
  refine bodyPost_ret (v := .agg #[.bool u, .int .i64 d, .slice (some ⟨g, 0, none⟩) xs.length xs.length]) (by simp [results, Try.results158, go_sem, hbc]) rfl ⟨g, rfl, by omega, ?_, ?_⟩
  · refine ho.keep fun i hi => ?_
    simp [blk] at hi
    subst hi
    rw [heap_setCell_ne _ _ _ (by simp; omega), heap_setCell_ne _ _ _ (by simp; omega), heap_setCell_ne _ _ _ (by simp; omega), heap_setCell_ne _ _ _ (by simp; omega)]
  · exact (by repeat (first | ((with_reducible refine Below.setc ?_ ?_ _); focus (first | omega | (simp; done) | (simp; omega))) | ((with_reducible refine Below.allocc ?_ ?_ _); focus (first | omega | (simp; done) | (simp; omega))) | (with_reducible refine Below.drew ?_) | (with_reducible refine Below.drewn ?_) | (with_reducible assumption) | (with_reducible exact Below.refl _ _) | ((with_reducible refine Below.stepp (by with_reducible assumption) ?_ ?_); focus (first | omega | (simp; done) | (simp; omega)))))
set_option maxHeartbeats 400000 in
theorem toCellS_any (A : Option Addr) (cs : List CellM) (c : Nat) (w : World) (hc : RC w A cs) (hn : cs.length ≤ 1048576) (hr : ∀ d ∈ cs, d.refs.length ≤ 1048576) :
    Calls Try.prog 121 #[.slice A cs.length c] w fun e w' => ∃ g os, e = .returned (.slice (some ⟨g, 0, none⟩) cs.length cs.length) ∧ os.map (·.c) = cs ∧ OC w' (some ⟨g, 0, none⟩) cs.length os ∧
      (blk (some ⟨g, 0, none⟩) ++ blks os).Nodup ∧ (∀ b ∈ blk (some ⟨g, 0, none⟩) ++ blks os, w.heap.size ≤ b) ∧ Below w.heap.size w w' := by
  have hmk := mk_cells cs.length (by omega)
  go_enter Try.func121, Try.ntmps121
  go_wp2
  clear hmk
  go_loopw [4] (fun i wr => ∃ (k : Nat) (rs : List OCell), k ≤ cs.length ∧ i = .int .i64 k ∧ Hid (rs.map (·.c) = cs.take k) ∧ Hid (OC wr (some ⟨w.heap.size, 0, none⟩) cs.length (rs ++ List.replicate (cs.length - k) zc)) ∧
    (blks rs).Nodup ∧ (∀ b ∈ blks rs, w.heap.size < b) ∧ Below w.heap.size w wr ∧ w.heap.size < wr.heap.size) (fun i _ => cs.length - (intOf i).toNat)
  case atStart =>
    refine ⟨0, [], by omega, rfl, rfl, ?_, List.Pairwise.nil, by simp [blks], (by repeat (first | ((with_reducible refine Below.setc ?_ ?_ _); focus (first | omega | (simp; done) | (simp; omega))) | ((with_reducible refine Below.allocc ?_ ?_ _); focus (first | omega | (simp; done) | (simp; omega))) | (with_reducible refine Below.drew ?_) | (with_reducible refine Below.drewn ?_) | (with_reducible assumption) | (with_reducible exact Below.refl _ _) | ((with_reducible refine Below.stepp (by with_reducible assumption) ?_ ?_); focus (first | omega | (simp; done) | (simp; omega))))), by simp⟩
    have h := OC.of_blk (os := List.replicate cs.length zc) (heap_alloc_new w _) (by simp [maxLen]; omega) (fun o ho => by rw [(List.mem_replicate.1 ho).2]; exact zc_own)
    simpa [Hid] using h
  case round =>
    obtain ⟨k, rs, hk, rfl, HR, HO, hnd, hlo, hB, hsz⟩ := hrel
    by_cases hlt : k < cs.length
    · obtain ⟨b, o, d, Ar, cr, rfl, hx, c1, c2, c3, hrf, hrl, hb⟩ := (hc.below hB).at_ hlt
      have hdl := hr d (List.mem_of_getElem? hx)
      have Hx := Lib.hid hx
      clear hx
      have hrl2 : rs.length = k := by have := congrArg List.length HR.out; simpa [Nat.min_eq_left hk] using this
      have hz : (rs ++ List.replicate (cs.length - k) zc)[k]? = some zc := by
        rw [List.getElem?_append_right (by omega), hrl2, Nat.sub_self, List.getElem?_replicate, if_pos (by omega)]
      obtain ⟨g', hg', e1, e2, e3, hg3⟩ := OC.at_ HO.out hz
      injection hg' with hg'
      injection hg' with hg'
      subst hg'
      have HL := Lib.hid hrl2
      clear hrl2 hz hr hc
      have f1 := HO.out.frozen (k * 3)
      have f2 := HO.out.frozen (k * 3 + 1)
      have f3 := HO.out.frozen (k * 3 + 2)
      go_wp2_with (go_at_call 158; refine (toCell_any _ _ _ _ _ _ hrf hdl).mono ?_; rintro e w' ⟨g, rfl, hg, ho, hB2⟩; obtain ⟨hbc, hbf, hbz⟩ := bcell hB2)
      go_roundw
      case rel =>
        have hz2 : cs.length - k = (cs.length - (k + 1)) + 1 := by omega
        have hset : (rs ++ List.replicate (cs.length - k) zc).set k ⟨d, some ⟨g, 0, none⟩, d.refs.length⟩ = (rs ++ [⟨d, some ⟨g, 0, none⟩, d.refs.length⟩]) ++ List.replicate (cs.length - (k + 1)) zc := by
          rw [List.set_append_right _ _ (by rw [HL.out]; omega), HL.out, Nat.sub_self, hz2, List.replicate_succ, List.append_assoc]
          rfl
        have hnew : ∀ b ∈ blks rs, b < g := fun b hb => by
          have := OC.lt HO.out b (by rw [blks_append]; simp [hb])
          omega
        refine ⟨k + 1, rs ++ [⟨d, some ⟨g, 0, none⟩, d.refs.length⟩], by omega, by go_num, ?_, ?_, ?_, ?_, (by repeat (first | ((with_reducible refine Below.setc ?_ ?_ _); focus (first | omega | (simp; done) | (simp; omega))) | ((with_reducible refine Below.allocc ?_ ?_ _); focus (first | omega | (simp; done) | (simp; omega))) | (with_reducible refine Below.drew ?_) | (with_reducible refine Below.drewn ?_) | (with_reducible assumption) | (with_reducible exact Below.refl _ _) | ((with_reducible refine Below.stepp (by with_reducible assumption) ?_ ?_); focus (first | omega | (simp; done) | (simp; omega))))), by simp; omega⟩
        · unfold Hid
          rw [take_snoc_of Hx.out, List.map_append, HR.out]; rfl
        · unfold Hid
          rw [← hset]
          exact (HO.out.below hB2).set_ k ⟨d, some ⟨g, 0, none⟩, d.refs.length⟩ (by simp [HL.out]; omega) ho hrl
        · rw [blks_append]
          refine List.nodup_append.2 ⟨hnd, by simp [blks, blk], fun a ha b hb => ?_⟩
          have := hnew a ha
          simp [blks, blk] at hb
          omega
        · intro b hb
          rw [blks_append] at hb
          rcases List.mem_append.1 hb with hb | hb
          · exact hlo b hb
          · simp [blks, blk] at hb
            omega
      case measure => simp [intOf]; omega
    · have hke : k = cs.length := by omega
      have HK := Lib.hid hke
      clear hke
      go_wp2
      go_ret
      have h0 : cs.length - k = 0 := by rw [HK.out]; omega
      have h1 := HO.out
      rw [h0, List.replicate_zero, List.append_nil] at h1
      have h2 := HR.out
      rw [HK.out, List.take_length] at h2
      refine ⟨_, rs, rfl, h2, h1, ?_, ?_, hB⟩
      · simp only [blk, Option.toList, List.map_cons, List.map_nil, List.singleton_append, List.nodup_cons]
        exact ⟨fun hm => by have := hlo _ hm; omega, hnd⟩
      · intro b hb
        rcases List.mem_append.1 hb with hb | hb
        · simp [blk] at hb; omega
        · have := hlo b hb; omega
theorem nodup_app {a b c : List Nat} (h : a.Nodup) (hb : b.Nodup) (hd : ∀ x ∈ a, ∀ y ∈ b, x < y) (hc : c = a ++ b) : c.Nodup := by
  subst hc
  exact List.nodup_append.2 ⟨h, hb, fun x hx y hy => by have := hd x hx y hy; omega⟩
theorem OH.mk_ {lo : Nat} {w : World} {h : HeapM} {g g' : Nat} {os : List OCell} {c c' : Nat} (hm : os.map (·.c) = h.cells) (ho : OC w (some ⟨g, 0, none⟩) c os) (hr : OF 3 fi w (some ⟨g', 0, none⟩) c' h.roots)
    (hnd : (blk (some ⟨g, 0, none⟩) ++ blks os).Nodup) (hlt : ∀ b ∈ blk (some ⟨g, 0, none⟩) ++ blks os, b < g') (hlo : ∀ b ∈ blk (some ⟨g, 0, none⟩) ++ blks os, lo ≤ b) (hg : lo ≤ g') (h1 : h.cells.length ≤ 9223372036854775807) (h2 : h.roots.length ≤ 9223372036854775807) :
    OH lo w (.agg #[.slice (some ⟨g, 0, none⟩) h.cells.length c, .slice (some ⟨g', 0, none⟩) h.roots.length c']) h := by
  refine ⟨_, c, _, c', os, rfl, hm, ⟨ho, hr, ?_, ?_, h2⟩, ?_⟩
  · exact nodup_app hnd (by simp [blk]) (fun x hx y hy => by rw [mem_blk_some hy]; exact hlt x hx) rfl
  · rw [← hm, List.length_map] at h1; exact h1
  · intro b hb
    rcases List.mem_append.1 hb with hb | hb
    · exact hlo b hb
    · rw [mem_blk_some hb]; exact hg
set_option maxHeartbeats 400000 in
theorem toHeap_any (v : Value) (h : HeapM) (w : World) (hv : RH w v h) (hn : h.cells.length ≤ 1048576) (hr : ∀ d ∈ h.cells, d.refs.length ≤ 1048576) (hn2 : h.roots.length ≤ 1048576) :
    Calls Try.prog 46 #[v] w fun e w' => ∃ v', e = .returned v' ∧ OH w.heap.size w' v' h ∧ Below w.heap.size w w' := by
  obtain ⟨A, c, A', c', rfl, hc, hrr, -, -⟩ := hv
  go_enter Try.func46, Try.ntmps46
  go_wp2_with (first
    | (go_at_call 121; refine (toCellS_any _ _ _ _ (hc.below (by repeat (first | ((with_reducible refine Below.setc ?_ ?_ _); focus (first | omega | (simp; done) | (simp; omega))) | ((with_reducible refine Below.allocc ?_ ?_ _); focus (first | omega | (simp; done) | (simp; omega))) | (with_reducible refine Below.drew ?_) | (with_reducible refine Below.drewn ?_) | (with_reducible assumption) | (with_reducible exact Below.refl _ _) | ((with_reducible refine Below.stepp (by with_reducible assumption) ?_ ?_); focus (first | omega | (simp; done) | (simp; omega)))))) hn hr).mono ?_; rintro e w1 ⟨g, os, rfl, hm, ho, hnd, hlo, hB1⟩; obtain ⟨hbc, hbf, hbz⟩ := bcell hB1; have z0w1 : w.heap.size < w1.heap.size := (by (try simp at hbz); omega); have z1w1 : w.heap.size + 1 < w1.heap.size := (by (try simp at hbz); omega); have z2w1 : w.heap.size + 1 + 1 < w1.heap.size := (by (try simp at hbz); omega); have HM := Lib.hid hm; clear hm; have HL := Lib.hid hlo; clear hlo)
    | (go_at_call 38; refine (toIntS_own _ _ _ _ (hrr.below (by repeat (first | ((with_reducible refine Below.setc ?_ ?_ _); focus (first | omega | (simp; done) | (simp; omega))) | ((with_reducible refine Below.allocc ?_ ?_ _); focus (first | omega | (simp; done) | (simp; omega))) | (with_reducible refine Below.drew ?_) | (with_reducible refine Below.drewn ?_) | (with_reducible assumption) | (with_reducible exact Below.refl _ _) | ((with_reducible refine Below.stepp (by with_reducible assumption) ?_ ?_); focus (first | omega | (simp; done) | (simp; omega)))))) hn2).mono ?_; rintro e w2 ⟨g', rfl, hg', ho', hB2⟩; obtain ⟨hbc2, hbf2, hbz2⟩ := bcell hB2; have z0w2 : w.heap.size < w2.heap.size := (by (try simp at hbz2); omega); have z1w2 : w.heap.size + 1 < w2.heap.size := (by (try simp at hbz2); omega); have z2w2 : w.heap.size + 1 + 1 < w2.heap.size := (by (try simp at hbz2); omega)))
  have hL := HL.out
  simp only [World.size_alloc] at hL
  simp only [World.size_setCell] at hg'
  refine bodyPost_ret (v := .agg #[.slice (some ⟨g, 0, none⟩) h.cells.length h.cells.length, .slice (some ⟨g', 0, none⟩) h.roots.length h.roots.length]) (by simp [results, Try.results46, go_sem, hbc2, hbc, z0w1, z1w1, z2w1]) rfl ⟨_, rfl, OH.mk_ HM.out ?_ ?_ hnd (fun b hb => ?_) (fun b hb => ?_) ?_ (by omega) (by omega), (by repeat (first | ((with_reducible refine Below.setc ?_ ?_ _); focus (first | omega | (simp; done) | (simp; omega))) | ((with_reducible refine Below.allocc ?_ ?_ _); focus (first | omega | (simp; done) | (simp; omega))) | (with_reducible refine Below.drew ?_) | (with_reducible refine Below.drewn ?_) | (with_reducible assumption) | (with_reducible exact Below.refl _ _) | ((with_reducible refine Below.stepp (by with_reducible assumption) ?_ ?_); focus (first | omega | (simp; done) | (simp; omega)))))⟩
  · refine ho.keep fun b hb => ?_
    have h1 := hL b hb
    have h2 := ho.lt b hb
    (repeat (first | rw [heap_setCell_ne _ _ _ (by first | omega | (simp; done) | (simp; omega))] | rw [Below.block hB2 _ (by first | omega | (simp; done) | (simp; omega))] | rw [Below.heap_alloc _ _ _ (by first | omega | (simp; done) | (simp; omega))]))
  · refine ho'.keep fun b hb => ?_
    have h2 := ho'.lt b hb
    obtain rfl := mem_blk_some hb
    (repeat (first | rw [heap_setCell_ne _ _ _ (by first | omega | (simp; done) | (simp; omega))] | rw [Below.block hB2 _ (by first | omega | (simp; done) | (simp; omega))] | rw [Below.heap_alloc _ _ _ (by first | omega | (simp; done) | (simp; omega))]))
  · have h2 := ho.lt b hb
    omega
  · have := hL b hb
    omega
  · omega
theorem nodup_app1 {a : List Nat} {g : Nat} (h : a.Nodup) (hd : ∀ x ∈ a, x < g) : (a ++ blk (some ⟨g, 0, none⟩)).Nodup :=
  nodup_app h (by simp [blk]) (fun x hx y hy => by rw [mem_blk_some hy]; exact hd x hx) rfl
set_option maxHeartbeats 400000 in
theorem toPaint_any (v : Value) (p : PaintM) (w : World) (hv : RPt w v p) (hn : p.store.cells.length ≤ 1048576) (hr : ∀ d ∈ p.store.cells, d.refs.length ≤ 1048576) (hn2 : p.store.roots.length ≤ 1048576) (hn3 : p.colours.length ≤ 1048576) :
    Calls Try.prog 30 #[v] w fun e w' => ∃ v', e = .returned v' ∧ OPt w.heap.size w' v' p ∧ Below w.heap.size w w' := by
  obtain ⟨A, c, A', c', A2, c2, rfl, hh, hc, -⟩ := hv
  go_enter Try.func30, Try.ntmps30
  go_wp2_with (first
    | (go_at_call 46; refine (toHeap_any _ p.store _ ((hh.below (by repeat (first | ((with_reducible refine Below.setc ?_ ?_ _); focus (first | omega | (simp; done) | (simp; omega))) | ((with_reducible refine Below.allocc ?_ ?_ _); focus (first | omega | (simp; done) | (simp; omega))) | (with_reducible refine Below.drew ?_) | (with_reducible refine Below.drewn ?_) | (with_reducible assumption) | (with_reducible exact Below.refl _ _) | ((with_reducible refine Below.stepp (by with_reducible assumption) ?_ ?_); focus (first | omega | (simp; done) | (simp; omega)))))).rh _ _) hn hr hn2).mono ?_; rintro e w1 ⟨v', rfl, ⟨B, d, B', d', os, rfl, hm, ho, hlo⟩, hB1⟩; obtain ⟨hbc, hbf, hbz⟩ := bcell hB1; have z0w1 : w.heap.size < w1.heap.size := (by (try simp at hbz); omega); have z1w1 : w.heap.size + 1 < w1.heap.size := (by (try simp at hbz); omega); have z2w1 : w.heap.size + 1 + 1 < w1.heap.size := (by (try simp at hbz); omega); have HM := Lib.hid hm; clear hm; have HL := Lib.hid hlo; clear hlo; have HO := Lib.hid ho; clear ho)
    | (go_at_call 38; refine (toIntS_own _ p.colours _ _ (hc.below (by repeat (first | ((with_reducible refine Below.setc ?_ ?_ _); focus (first | omega | (simp; done) | (simp; omega))) | ((with_reducible refine Below.allocc ?_ ?_ _); focus (first | omega | (simp; done) | (simp; omega))) | (with_reducible refine Below.drew ?_) | (with_reducible refine Below.drewn ?_) | (with_reducible assumption) | (with_reducible exact Below.refl _ _) | ((with_reducible refine Below.stepp (by with_reducible assumption) ?_ ?_); focus (first | omega | (simp; done) | (simp; omega)))))) hn3).mono ?_; rintro e w2 ⟨g', rfl, hg', ho', hB2⟩; obtain ⟨hbc2, hbf2, hbz2⟩ := bcell hB2; have z0w2 : w.heap.size < w2.heap.size := (by (try simp at hbz2); omega); have z1w2 : w.heap.size + 1 < w2.heap.size := (by (try simp at hbz2); omega); have z2w2 : w.heap.size + 1 + 1 < w2.heap.size := (by (try simp at hbz2); omega)))
  have hL := HL.out
  simp only [World.size_alloc] at hL
  simp only [World.size_setCell] at hg'
  refine bodyPost_ret (v := .agg #[.slice B p.store.cells.length d, .slice B' p.store.roots.length d', .slice (some ⟨g', 0, none⟩) p.colours.length p.colours.length, .bool p.active]) (by simp [results, Try.results30, go_sem, hbc2, hbc, z0w1, z1w1, z2w1]) rfl ⟨_, rfl, ⟨B, d, B', d', os, _, _, rfl, HM.out, ?_, ?_, ?_, ?_, by omega⟩, (by repeat (first | ((with_reducible refine Below.setc ?_ ?_ _); focus (first | omega | (simp; done) | (simp; omega))) | ((with_reducible refine Below.allocc ?_ ?_ _); focus (first | omega | (simp; done) | (simp; omega))) | (with_reducible refine Below.drew ?_) | (with_reducible refine Below.drewn ?_) | (with_reducible assumption) | (with_reducible exact Below.refl _ _) | ((with_reducible refine Below.stepp (by with_reducible assumption) ?_ ?_); focus (first | omega | (simp; done) | (simp; omega)))))⟩
  · refine HO.out.keep fun b hb => ?_
    have h1 := hL b hb
    have h2 := HO.out.lt b hb
    (repeat (first | rw [heap_setCell_ne _ _ _ (by first | omega | (simp; done) | (simp; omega))] | rw [Below.block hB2 _ (by first | omega | (simp; done) | (simp; omega))] | rw [Below.heap_alloc _ _ _ (by first | omega | (simp; done) | (simp; omega))]))
  · refine ho'.keep fun b hb => ?_
    have h2 := ho'.lt b hb
    obtain rfl := mem_blk_some hb
    (repeat (first | rw [heap_setCell_ne _ _ _ (by first | omega | (simp; done) | (simp; omega))] | rw [Below.block hB2 _ (by first | omega | (simp; done) | (simp; omega))] | rw [Below.heap_alloc _ _ _ (by first | omega | (simp; done) | (simp; omega))]))
  · exact nodup_app1 HO.out.nodup (fun b hb => by have := HO.out.lt b hb; omega)
  · intro b hb
    rcases List.mem_append.1 hb with hb | hb
    · have := hL b hb
      omega
    · obtain rfl := mem_blk_some hb
      omega
end Go.Proofs.Ytkmfhadanbfadaa

/- The comparisons eq.. of the laws: they tell whether both sides read as the same, and leave memory as it is. -/
namespace Go.Proofs.Ytkmfhadanbfadaa
open Go.RowKit
set_option maxRecDepth 100000
set_option linter.unusedSimpArgs false

set_option maxHeartbeats 400000 in
theorem eqIntS_any (A A' : Option Addr) (xs ys : List Int) (c c' : Nat) (w : World) (hx : RF fi w A xs) (hy : RF fi w A' ys) (hn : xs.length ≤ 9223372036854775807) (hn2 : ys.length ≤ 9223372036854775807) :
    Calls Try.prog 41 #[.slice A xs.length c, .slice A' ys.length c'] w fun e w' => e = .returned (.bool (eqB xs ys)) ∧ ∃ n, w' = w.drewN n := by
  by_cases hl : xs.length = ys.length
  · have HL := Lib.hid hl
    have hl2 : ((xs.length : Int) != (ys.length : Int)) = false := by simp [hl]
    have hl3 : xs.length ≤ ys.length := by omega
    clear hl
    go_enter Try.func41, Try.ntmps41
    go_wp2
    go_loopw [5] (fun i wr => ∃ (k : Nat), k ≤ xs.length ∧ i = .int .i64 k ∧ Hid (xs.take k = ys.take k) ∧ ∃ n, wr = w.drewN n) (fun i _ => xs.length - (intOf i).toNat)
    case atStart => exact ⟨0, by omega, rfl, rfl, 0, rfl⟩
    case round =>
      obtain ⟨k, hk, rfl, HT, n, rfl⟩ := hrel
      clear hl2
      by_cases hlt : k < xs.length
      · obtain ⟨b, o, x, rfl, gx, c1, hb⟩ := hx.at_ hlt
        obtain ⟨b', o', y, rfl, gy, c2, hb'⟩ := hy.at_ (k := k) (by omega)
        have GX := Lib.hid gx
        have GY := Lib.hid gy
        clear gx gy hx hy
        have d1 : w.cell? ⟨b, o + k, none⟩ = some (.int .i64 x) := c1
        have d2 : w.cell? ⟨b', o' + k, none⟩ = some (.int .i64 y) := c2
        have i1 : (0 : Int) ≤ (k : Int) := by omega
        have i2 : (k : Int) < (xs.length : Int) := by omega
        have i3 : (k : Int) < (ys.length : Int) := by omega
        clear c1 c2
        by_cases he : x = y
        · have hne : (x != y) = false := by simp [he]
          have HE := Lib.hid he
          clear he
          go_wp2
          go_quiet (fail)
          go_wp2
          go_roundw
          case rel => exact ⟨k + 1, by omega, by go_num, take_eq_step HT.out GX.out GY.out HE.out, _, by first | rfl | (simp; rfl)⟩
          case measure => simp [intOf]; omega
        · have hne : (x != y) = true := by simp [he]
          have HE := Lib.hid he
          clear he
          go_wp2
          go_quiet (fail)
          go_wp2
          go_ret
          exact ⟨ret_bool (eqB_ne (ne_of_get GX.out GY.out HE.out)).symm, _, by first | rfl | (simp; rfl)⟩
      · have hke : k = xs.length := by omega
        have HK := Lib.hid hke
        clear hke
        go_wp2
        go_ret
        refine ⟨ret_bool ?_, n, rfl⟩
        have h1 := HT.out
        rw [HK.out, List.take_length, HL.out, List.take_length] at h1
        exact (eqB_of h1).symm
  · have hl2 : ((xs.length : Int) != (ys.length : Int)) = true := by simp; omega
    go_enter Try.func41, Try.ntmps41
    go_wp2
    go_ret
    exact ⟨ret_bool (eqB_ne (fun e => hl (by rw [e]))).symm, 0, rfl⟩
set_option maxHeartbeats 400000 in
theorem eqCell_any (u u' : Bool) (d d' : Int) (A A' : Option Addr) (xs ys : List Int) (c c' : Nat) (w : World) (hx : RF fi w A xs) (hy : RF fi w A' ys) (hn : xs.length ≤ 9223372036854775807) (hn2 : ys.length ≤ 9223372036854775807) :
    Calls Try.prog 149 #[.agg #[.bool u, .int .i64 d, .slice A xs.length c], .agg #[.bool u', .int .i64 d', .slice A' ys.length c']] w fun e w' => e = .returned (.bool (eqB (⟨u, d, xs⟩ : CellM) ⟨u', d', ys⟩)) ∧ Below w.heap.size w w' := by
  by_cases h1 : u = u'
  · have g1 : (u == u') = true := by simp [h1]
    have H1 := Lib.hid h1
    clear h1
    by_cases h2 : d = d'
    · have g2 : (d != d') = false := by simp [h2]
      have H2 := Lib.hid h2
      clear h2
      cases hb : eqB xs ys
      all_goals
        go_enter Try.func149, Try.ntmps149
        go_wp2_with (go_at_call 41; refine (eqIntS_any _ _ _ _ _ _ _ (hx.below (by repeat (first | ((with_reducible refine Below.setc ?_ ?_ _); focus (first | omega | (simp; done) | (simp; omega))) | ((with_reducible refine Below.allocc ?_ ?_ _); focus (first | omega | (simp; done) | (simp; omega))) | (with_reducible refine Below.drew ?_) | (with_reducible refine Below.drewn ?_) | (with_reducible assumption) | (with_reducible exact Below.refl _ _) | ((with_reducible refine Below.stepp (by with_reducible assumption) ?_ ?_); focus (first | omega | (simp; done) | (simp; omega)))))) (hy.below (by repeat (first | ((with_reducible refine Below.setc ?_ ?_ _); focus (first | omega | (simp; done) | (simp; omega))) | ((with_reducible refine Below.allocc ?_ ?_ _); focus (first | omega | (simp; done) | (simp; omega))) | (with_reducible refine Below.drew ?_) | (with_reducible refine Below.drewn ?_) | (with_reducible assumption) | (with_reducible exact Below.refl _ _) | ((with_reducible refine Below.stepp (by with_reducible assumption) ?_ ?_); focus (first | omega | (simp; done) | (simp; omega)))))) hn hn2).mono ?_; rintro e w' ⟨rfl, n, rfl⟩)
        go_ret
      · exact ⟨ret_bool (eqB_ne fun e => eqB_false hb (congrArg CellM.refs e)).symm, (by repeat (first | ((with_reducible refine Below.setc ?_ ?_ _); focus (first | omega | (simp; done) | (simp; omega))) | ((with_reducible refine Below.allocc ?_ ?_ _); focus (first | omega | (simp; done) | (simp; omega))) | (with_reducible refine Below.drew ?_) | (with_reducible refine Below.drewn ?_) | (with_reducible assumption) | (with_reducible exact Below.refl _ _) | ((with_reducible refine Below.stepp (by with_reducible assumption) ?_ ?_); focus (first | omega | (simp; done) | (simp; omega)))))⟩
      · exact ⟨ret_bool (eqB_of (by rw [H1.out, H2.out, eqB_iff.1 hb])).symm, (by repeat (first | ((with_reducible refine Below.setc ?_ ?_ _); focus (first | omega | (simp; done) | (simp; omega))) | ((with_reducible refine Below.allocc ?_ ?_ _); focus (first | omega | (simp; done) | (simp; omega))) | (with_reducible refine Below.drew ?_) | (with_reducible refine Below.drewn ?_) | (with_reducible assumption) | (with_reducible exact Below.refl _ _) | ((with_reducible refine Below.stepp (by with_reducible assumption) ?_ ?_); focus (first | omega | (simp; done) | (simp; omega)))))⟩
    · have g2 : (d != d') = true := by simp [h2]
      go_enter Try.func149, Try.ntmps149
      go_wp2
      go_ret
      exact ⟨ret_bool (eqB_ne fun e => h2 (congrArg CellM.data e)).symm, (by repeat (first | ((with_reducible refine Below.setc ?_ ?_ _); focus (first | omega | (simp; done) | (simp; omega))) | ((with_reducible refine Below.allocc ?_ ?_ _); focus (first | omega | (simp; done) | (simp; omega))) | (with_reducible refine Below.drew ?_) | (with_reducible refine Below.drewn ?_) | (with_reducible assumption) | (with_reducible exact Below.refl _ _) | ((with_reducible refine Below.stepp (by with_reducible assumption) ?_ ?_); focus (first | omega | (simp; done) | (simp; omega)))))⟩
  · have g1 : (u == u') = false := by simpa using h1
    have H1 := Lib.hid h1
    clear h1
    go_enter Try.func149, Try.ntmps149
    go_wp2
    go_ret
    exact ⟨ret_bool (eqB_ne fun e => H1.out (congrArg CellM.used e)).symm, (by repeat (first | ((with_reducible refine Below.setc ?_ ?_ _); focus (first | omega | (simp; done) | (simp; omega))) | ((with_reducible refine Below.allocc ?_ ?_ _); focus (first | omega | (simp; done) | (simp; omega))) | (with_reducible refine Below.drew ?_) | (with_reducible refine Below.drewn ?_) | (with_reducible assumption) | (with_reducible exact Below.refl _ _) | ((with_reducible refine Below.stepp (by with_reducible assumption) ?_ ?_); focus (first | omega | (simp; done) | (simp; omega)))))⟩
set_option maxHeartbeats 400000 in
theorem eqCellS_any (A A' : Option Addr) (xs ys : List CellM) (c c' : Nat) (w : World) (hx : RC w A xs) (hy : RC w A' ys) (hn : xs.length ≤ 9223372036854775807) (hn2 : ys.length ≤ 9223372036854775807) :
    Calls Try.prog 77 #[.slice A xs.length c, .slice A' ys.length c'] w fun e w' => e = .returned (.bool (eqB xs ys)) ∧ Below w.heap.size w w' := by
  by_cases hl : xs.length = ys.length
  · have HL := Lib.hid hl
    have hl2 : ((xs.length : Int) != (ys.length : Int)) = false := by simp [hl]
    have hl3 : xs.length ≤ ys.length := by omega
    clear hl
    go_enter Try.func77, Try.ntmps77
    go_wp2
    go_loopw [5] (fun i wr => ∃ (k : Nat), k ≤ xs.length ∧ i = .int .i64 k ∧ Hid (xs.take k = ys.take k) ∧ Below w.heap.size w wr) (fun i _ => xs.length - (intOf i).toNat)
    case atStart => exact ⟨0, by omega, rfl, rfl, Below.refl _ _⟩
    case round =>
      obtain ⟨k, hk, rfl, HT, hB⟩ := hrel
      clear hl2
      by_cases hlt : k < xs.length
      · obtain ⟨b, o, x, Ar, cr, rfl, gx, c1, c2, c3, hr, hrl, hb⟩ := (hx.below hB).at_ hlt
        obtain ⟨b', o', y, Ar', cr', rfl, gy, d1, d2, d3, hr', hrl', hb'⟩ := (hy.below hB).at_ (k := k) (by omega)
        have GX := Lib.hid gx
        have GY := Lib.hid gy
        clear gx gy hx hy
        have i1 : (0 : Int) ≤ (k : Int) := by omega
        have i2 : (k : Int) < (xs.length : Int) := by omega
        have i3 : (k : Int) < (ys.length : Int) := by omega
        cases he : eqB (⟨x.used, x.data, x.refs⟩ : CellM) ⟨y.used, y.data, y.refs⟩
        all_goals
          have HE := Lib.hid he
          have hBz := hB.size
          go_wp2
          go_still_tail 8, (by kernel_rfl)
          change wpList _ _ _ _ _ wr.drew
          go_wp2_with (go_at_call 149; refine (eqCell_any _ _ _ _ _ _ _ _ _ _ _ (hr.below (by repeat (first | ((with_reducible refine Below.setc ?_ ?_ _); focus (first | omega | (simp; done) | (simp; omega))) | ((with_reducible refine Below.allocc ?_ ?_ _); focus (first | omega | (simp; done) | (simp; omega))) | (with_reducible refine Below.drew ?_) | (with_reducible refine Below.drewn ?_) | (with_reducible assumption) | (with_reducible exact Below.refl _ _) | ((with_reducible refine Below.stepp (by with_reducible assumption) ?_ ?_); focus (first | omega | (simp; done) | (simp; omega)))))) (hr'.below (by repeat (first | ((with_reducible refine Below.setc ?_ ?_ _); focus (first | omega | (simp; done) | (simp; omega))) | ((with_reducible refine Below.allocc ?_ ?_ _); focus (first | omega | (simp; done) | (simp; omega))) | (with_reducible refine Below.drew ?_) | (with_reducible refine Below.drewn ?_) | (with_reducible assumption) | (with_reducible exact Below.refl _ _) | ((with_reducible refine Below.stepp (by with_reducible assumption) ?_ ?_); focus (first | omega | (simp; done) | (simp; omega)))))) hrl hrl').mono ?_; rintro e w' ⟨rfl, hB2⟩)
        · go_ret
          exact ⟨ret_bool (eqB_ne (ne_of_get GX.out GY.out (eqB_false HE.out))).symm, (by repeat (first | ((with_reducible refine Below.setc ?_ ?_ _); focus (first | omega | (simp; done) | (simp; omega))) | ((with_reducible refine Below.allocc ?_ ?_ _); focus (first | omega | (simp; done) | (simp; omega))) | (with_reducible refine Below.drew ?_) | (with_reducible refine Below.drewn ?_) | (with_reducible assumption) | (with_reducible exact Below.refl _ _) | ((with_reducible refine Below.stepp (by with_reducible assumption) ?_ ?_); focus (first | omega | (simp; done) | (simp; omega)))))⟩
        · go_roundw
          case rel => exact ⟨k + 1, by omega, by go_num, take_eq_step HT.out GX.out GY.out (eqB_iff.1 HE.out), (by repeat (first | ((with_reducible refine Below.setc ?_ ?_ _); focus (first | omega | (simp; done) | (simp; omega))) | ((with_reducible refine Below.allocc ?_ ?_ _); focus (first | omega | (simp; done) | (simp; omega))) | (with_reducible refine Below.drew ?_) | (with_reducible refine Below.drewn ?_) | (with_reducible assumption) | (with_reducible exact Below.refl _ _) | ((with_reducible refine Below.stepp (by with_reducible assumption) ?_ ?_); focus (first | omega | (simp; done) | (simp; omega)))))⟩
          case measure => simp [intOf]; omega
      · have hke : k = xs.length := by omega
        have HK := Lib.hid hke
        clear hke
        go_wp2
        go_ret
        refine ⟨ret_bool ?_, hB⟩
        have h1 := HT.out
        rw [HK.out, List.take_length, HL.out, List.take_length] at h1
        exact (eqB_of h1).symm
  · have hl2 : ((xs.length : Int) != (ys.length : Int)) = true := by simp; omega
    go_enter Try.func77, Try.ntmps77
    go_wp2
    go_ret
    exact ⟨ret_bool (eqB_ne (fun e => hl (by rw [e]))).symm, Below.refl _ _⟩
set_option maxHeartbeats 400000 in
theorem eqHeap_any (v v' : Value) (h h' : HeapM) (w : World) (hv : RH w v h) (hv' : RH w v' h') :
    Calls Try.prog 19 #[v, v'] w fun e w' => e = .returned (.bool (eqB h h')) ∧ Below w.heap.size w w' := by
  obtain ⟨A, c, A', c', rfl, h1, h2, h3, h4⟩ := hv
  obtain ⟨B, d, B', d', rfl, g1, g2, g3, g4⟩ := hv'
  cases e1 : eqB h.cells h'.cells
  · go_enter Try.func19, Try.ntmps19
    go_wp2_with (go_at_call 77; refine (eqCellS_any _ _ _ _ _ _ _ (h1.below (by repeat (first | ((with_reducible refine Below.setc ?_ ?_ _); focus (first | omega | (simp; done) | (simp; omega))) | ((with_reducible refine Below.allocc ?_ ?_ _); focus (first | omega | (simp; done) | (simp; omega))) | (with_reducible refine Below.drew ?_) | (with_reducible refine Below.drewn ?_) | (with_reducible assumption) | (with_reducible exact Below.refl _ _) | ((with_reducible refine Below.stepp (by with_reducible assumption) ?_ ?_); focus (first | omega | (simp; done) | (simp; omega)))))) (g1.below (by repeat (first | ((with_reducible refine Below.setc ?_ ?_ _); focus (first | omega | (simp; done) | (simp; omega))) | ((with_reducible refine Below.allocc ?_ ?_ _); focus (first | omega | (simp; done) | (simp; omega))) | (with_reducible refine Below.drew ?_) | (with_reducible refine Below.drewn ?_) | (with_reducible assumption) | (with_reducible exact Below.refl _ _) | ((with_reducible refine Below.stepp (by with_reducible assumption) ?_ ?_); focus (first | omega | (simp; done) | (simp; omega)))))) h3 g3).mono ?_; rintro e w1 ⟨rfl, hB⟩; obtain ⟨hbc, hbf, hbz⟩ := bcell hB; have z0w1 : w.heap.size < w1.heap.size := (by (try simp at hbz); omega); have z1w1 : w.heap.size + 1 < w1.heap.size := (by (try simp at hbz); omega))
    go_ret
    exact ⟨ret_bool (eqB_ne fun e => eqB_false e1 (congrArg HeapM.cells e)).symm, (by repeat (first | ((with_reducible refine Below.setc ?_ ?_ _); focus (first | omega | (simp; done) | (simp; omega))) | ((with_reducible refine Below.allocc ?_ ?_ _); focus (first | omega | (simp; done) | (simp; omega))) | (with_reducible refine Below.drew ?_) | (with_reducible refine Below.drewn ?_) | (with_reducible assumption) | (with_reducible exact Below.refl _ _) | ((with_reducible refine Below.stepp (by with_reducible assumption) ?_ ?_); focus (first | omega | (simp; done) | (simp; omega)))))⟩
  · cases e2 : eqB h.roots h'.roots
    all_goals
      go_enter Try.func19, Try.ntmps19
      go_wp2_with (first
        | (go_at_call 77; refine (eqCellS_any _ _ _ _ _ _ _ (h1.below (by repeat (first | ((with_reducible refine Below.setc ?_ ?_ _); focus (first | omega | (simp; done) | (simp; omega))) | ((with_reducible refine Below.allocc ?_ ?_ _); focus (first | omega | (simp; done) | (simp; omega))) | (with_reducible refine Below.drew ?_) | (with_reducible refine Below.drewn ?_) | (with_reducible assumption) | (with_reducible exact Below.refl _ _) | ((with_reducible refine Below.stepp (by with_reducible assumption) ?_ ?_); focus (first | omega | (simp; done) | (simp; omega)))))) (g1.below (by repeat (first | ((with_reducible refine Below.setc ?_ ?_ _); focus (first | omega | (simp; done) | (simp; omega))) | ((with_reducible refine Below.allocc ?_ ?_ _); focus (first | omega | (simp; done) | (simp; omega))) | (with_reducible refine Below.drew ?_) | (with_reducible refine Below.drewn ?_) | (with_reducible assumption) | (with_reducible exact Below.refl _ _) | ((with_reducible refine Below.stepp (by with_reducible assumption) ?_ ?_); focus (first | omega | (simp; done) | (simp; omega)))))) h3 g3).mono ?_; rintro e w1 ⟨rfl, hB⟩; obtain ⟨hbc, hbf, hbz⟩ := bcell hB; have z0w1 : w.heap.size < w1.heap.size := (by (try simp at hbz); omega); have z1w1 : w.heap.size + 1 < w1.heap.size := (by (try simp at hbz); omega))
        | (go_at_call 41; refine (eqIntS_any _ _ _ _ _ _ _ (h2.below (by repeat (first | ((with_reducible refine Below.setc ?_ ?_ _); focus (first | omega | (simp; done) | (simp; omega))) | ((with_reducible refine Below.allocc ?_ ?_ _); focus (first | omega | (simp; done) | (simp; omega))) | (with_reducible refine Below.drew ?_) | (with_reducible refine Below.drewn ?_) | (with_reducible assumption) | (with_reducible exact Below.refl _ _) | ((with_reducible refine Below.stepp (by with_reducible assumption) ?_ ?_); focus (first | omega | (simp; done) | (simp; omega)))))) (g2.below (by repeat (first | ((with_reducible refine Below.setc ?_ ?_ _); focus (first | omega | (simp; done) | (simp; omega))) | ((with_reducible refine Below.allocc ?_ ?_ _); focus (first | omega | (simp; done) | (simp; omega))) | (with_reducible refine Below.drew ?_) | (with_reducible refine Below.drewn ?_) | (with_reducible assumption) | (with_reducible exact Below.refl _ _) | ((with_reducible refine Below.stepp (by with_reducible assumption) ?_ ?_); focus (first | omega | (simp; done) | (simp; omega)))))) h4 g4).mono ?_; rintro e w2 ⟨rfl, n, rfl⟩))
      go_ret
    · exact ⟨ret_bool (eqB_ne fun e => eqB_false e2 (congrArg HeapM.roots e)).symm, (by repeat (first | ((with_reducible refine Below.setc ?_ ?_ _); focus (first | omega | (simp; done) | (simp; omega))) | ((with_reducible refine Below.allocc ?_ ?_ _); focus (first | omega | (simp; done) | (simp; omega))) | (with_reducible refine Below.drew ?_) | (with_reducible refine Below.drewn ?_) | (with_reducible assumption) | (with_reducible exact Below.refl _ _) | ((with_reducible refine Below.stepp (by with_reducible assumption) ?_ ?_); focus (first | omega | (simp; done) | (simp; omega)))))⟩
    · exact ⟨ret_bool (eqB_of (by
        have a1 := eqB_iff.1 e1
        have a2 := eqB_iff.1 e2
        cases h; cases h'; simp at a1 a2; simp [a1, a2])).symm, (by repeat (first | ((with_reducible refine Below.setc ?_ ?_ _); focus (first | omega | (simp; done) | (simp; omega))) | ((with_reducible refine Below.allocc ?_ ?_ _); focus (first | omega | (simp; done) | (simp; omega))) | (with_reducible refine Below.drew ?_) | (with_reducible refine Below.drewn ?_) | (with_reducible assumption) | (with_reducible exact Below.refl _ _) | ((with_reducible refine Below.stepp (by with_reducible assumption) ?_ ?_); focus (first | omega | (simp; done) | (simp; omega)))))⟩
set_option maxHeartbeats 400000 in
theorem eqPaint_any (v v' : Value) (p q : PaintM) (w : World) (hv : RPt w v p) (hv' : RPt w v' q) :
    Calls Try.prog 32 #[v, v'] w fun e w' => e = .returned (.bool (eqB p q)) ∧ Below w.heap.size w w' := by
  obtain ⟨A, c, A', c', A2, c2, rfl, h1, h2, h3⟩ := hv
  obtain ⟨B, d, B', d', B2, d2, rfl, g1, g2, g3⟩ := hv'
  cases e1 : eqB p.store q.store
  · go_enter Try.func32, Try.ntmps32
    go_wp2_with (go_at_call 19; refine (eqHeap_any _ _ _ _ _ ((h1.below (by repeat (first | ((with_reducible refine Below.setc ?_ ?_ _); focus (first | omega | (simp; done) | (simp; omega))) | ((with_reducible refine Below.allocc ?_ ?_ _); focus (first | omega | (simp; done) | (simp; omega))) | (with_reducible refine Below.drew ?_) | (with_reducible refine Below.drewn ?_) | (with_reducible assumption) | (with_reducible exact Below.refl _ _) | ((with_reducible refine Below.stepp (by with_reducible assumption) ?_ ?_); focus (first | omega | (simp; done) | (simp; omega)))))).rh _ _) ((g1.below (by repeat (first | ((with_reducible refine Below.setc ?_ ?_ _); focus (first | omega | (simp; done) | (simp; omega))) | ((with_reducible refine Below.allocc ?_ ?_ _); focus (first | omega | (simp; done) | (simp; omega))) | (with_reducible refine Below.drew ?_) | (with_reducible refine Below.drewn ?_) | (with_reducible assumption) | (with_reducible exact Below.refl _ _) | ((with_reducible refine Below.stepp (by with_reducible assumption) ?_ ?_); focus (first | omega | (simp; done) | (simp; omega)))))).rh _ _)).mono ?_; rintro e w1 ⟨rfl, hB⟩; obtain ⟨hbc, hbf, hbz⟩ := bcell hB; have z0w1 : w.heap.size < w1.heap.size := (by (try simp at hbz); omega); have z1w1 : w.heap.size + 1 < w1.heap.size := (by (try simp at hbz); omega))
    go_ret
    exact ⟨ret_bool (eqB_ne fun e => eqB_false e1 (congrArg PaintM.store e)).symm, (by repeat (first | ((with_reducible refine Below.setc ?_ ?_ _); focus (first | omega | (simp; done) | (simp; omega))) | ((with_reducible refine Below.allocc ?_ ?_ _); focus (first | omega | (simp; done) | (simp; omega))) | (with_reducible refine Below.drew ?_) | (with_reducible refine Below.drewn ?_) | (with_reducible assumption) | (with_reducible exact Below.refl _ _) | ((with_reducible refine Below.stepp (by with_reducible assumption) ?_ ?_); focus (first | omega | (simp; done) | (simp; omega)))))⟩
  · cases e2 : eqB p.colours q.colours
    · go_enter Try.func32, Try.ntmps32
      go_wp2_with (first
        | (go_at_call 19; refine (eqHeap_any _ _ _ _ _ ((h1.below (by repeat (first | ((with_reducible refine Below.setc ?_ ?_ _); focus (first | omega | (simp; done) | (simp; omega))) | ((with_reducible refine Below.allocc ?_ ?_ _); focus (first | omega | (simp; done) | (simp; omega))) | (with_reducible refine Below.drew ?_) | (with_reducible refine Below.drewn ?_) | (with_reducible assumption) | (with_reducible exact Below.refl _ _) | ((with_reducible refine Below.stepp (by with_reducible assumption) ?_ ?_); focus (first | omega | (simp; done) | (simp; omega)))))).rh _ _) ((g1.below (by repeat (first | ((with_reducible refine Below.setc ?_ ?_ _); focus (first | omega | (simp; done) | (simp; omega))) | ((with_reducible refine Below.allocc ?_ ?_ _); focus (first | omega | (simp; done) | (simp; omega))) | (with_reducible refine Below.drew ?_) | (with_reducible refine Below.drewn ?_) | (with_reducible assumption) | (with_reducible exact Below.refl _ _) | ((with_reducible refine Below.stepp (by with_reducible assumption) ?_ ?_); focus (first | omega | (simp; done) | (simp; omega)))))).rh _ _)).mono ?_; rintro e w1 ⟨rfl, hB⟩; obtain ⟨hbc, hbf, hbz⟩ := bcell hB; have z0w1 : w.heap.size < w1.heap.size := (by (try simp at hbz); omega); have z1w1 : w.heap.size + 1 < w1.heap.size := (by (try simp at hbz); omega))
        | (go_at_call 41; refine (eqIntS_any _ _ _ _ _ _ _ (h2.below (by repeat (first | ((with_reducible refine Below.setc ?_ ?_ _); focus (first | omega | (simp; done) | (simp; omega))) | ((with_reducible refine Below.allocc ?_ ?_ _); focus (first | omega | (simp; done) | (simp; omega))) | (with_reducible refine Below.drew ?_) | (with_reducible refine Below.drewn ?_) | (with_reducible assumption) | (with_reducible exact Below.refl _ _) | ((with_reducible refine Below.stepp (by with_reducible assumption) ?_ ?_); focus (first | omega | (simp; done) | (simp; omega)))))) (g2.below (by repeat (first | ((with_reducible refine Below.setc ?_ ?_ _); focus (first | omega | (simp; done) | (simp; omega))) | ((with_reducible refine Below.allocc ?_ ?_ _); focus (first | omega | (simp; done) | (simp; omega))) | (with_reducible refine Below.drew ?_) | (with_reducible refine Below.drewn ?_) | (with_reducible assumption) | (with_reducible exact Below.refl _ _) | ((with_reducible refine Below.stepp (by with_reducible assumption) ?_ ?_); focus (first | omega | (simp; done) | (simp; omega)))))) h3 g3).mono ?_; rintro e w2 ⟨rfl, n, rfl⟩))
      go_ret
      exact ⟨ret_bool (eqB_ne fun e => eqB_false e2 (congrArg PaintM.colours e)).symm, (by repeat (first | ((with_reducible refine Below.setc ?_ ?_ _); focus (first | omega | (simp; done) | (simp; omega))) | ((with_reducible refine Below.allocc ?_ ?_ _); focus (first | omega | (simp; done) | (simp; omega))) | (with_reducible refine Below.drew ?_) | (with_reducible refine Below.drewn ?_) | (with_reducible assumption) | (with_reducible exact Below.refl _ _) | ((with_reducible refine Below.stepp (by with_reducible assumption) ?_ ?_); focus (first | omega | (simp; done) | (simp; omega)))))⟩
    · by_cases e3 : p.active = q.active
      · have g3' : (p.active == q.active) = true := by simp [e3]
        have E3 := Lib.hid e3
        clear e3
        go_enter Try.func32, Try.ntmps32
        go_wp2_with (first
          | (go_at_call 19; refine (eqHeap_any _ _ _ _ _ ((h1.below (by repeat (first | ((with_reducible refine Below.setc ?_ ?_ _); focus (first | omega | (simp; done) | (simp; omega))) | ((with_reducible refine Below.allocc ?_ ?_ _); focus (first | omega | (simp; done) | (simp; omega))) | (with_reducible refine Below.drew ?_) | (with_reducible refine Below.drewn ?_) | (with_reducible assumption) | (with_reducible exact Below.refl _ _) | ((with_reducible refine Below.stepp (by with_reducible assumption) ?_ ?_); focus (first | omega | (simp; done) | (simp; omega)))))).rh _ _) ((g1.below (by repeat (first | ((with_reducible refine Below.setc ?_ ?_ _); focus (first | omega | (simp; done) | (simp; omega))) | ((with_reducible refine Below.allocc ?_ ?_ _); focus (first | omega | (simp; done) | (simp; omega))) | (with_reducible refine Below.drew ?_) | (with_reducible refine Below.drewn ?_) | (with_reducible assumption) | (with_reducible exact Below.refl _ _) | ((with_reducible refine Below.stepp (by with_reducible assumption) ?_ ?_); focus (first | omega | (simp; done) | (simp; omega)))))).rh _ _)).mono ?_; rintro e w1 ⟨rfl, hB⟩; obtain ⟨hbc, hbf, hbz⟩ := bcell hB; have z0w1 : w.heap.size < w1.heap.size := (by (try simp at hbz); omega); have z1w1 : w.heap.size + 1 < w1.heap.size := (by (try simp at hbz); omega))
          | (go_at_call 41; refine (eqIntS_any _ _ _ _ _ _ _ (h2.below (by repeat (first | ((with_reducible refine Below.setc ?_ ?_ _); focus (first | omega | (simp; done) | (simp; omega))) | ((with_reducible refine Below.allocc ?_ ?_ _); focus (first | omega | (simp; done) | (simp; omega))) | (with_reducible refine Below.drew ?_) | (with_reducible refine Below.drewn ?_) | (with_reducible assumption) | (with_reducible exact Below.refl _ _) | ((with_reducible refine Below.stepp (by with_reducible assumption) ?_ ?_); focus (first | omega | (simp; done) | (simp; omega)))))) (g2.below (by repeat (first | ((with_reducible refine Below.setc ?_ ?_ _); focus (first | omega | (simp; done) | (simp; omega))) | ((with_reducible refine Below.allocc ?_ ?_ _); focus (first | omega | (simp; done) | (simp; omega))) | (with_reducible refine Below.drew ?_) | (with_reducible refine Below.drewn ?_) | (with_reducible assumption) | (with_reducible exact Below.refl _ _) | ((with_reducible refine Below.stepp (by with_reducible assumption) ?_ ?_); focus (first | omega | (simp; done) | (simp; omega)))))) h3 g3).mono ?_; rintro e w2 ⟨rfl, n, rfl⟩))
        go_ret
        exact ⟨ret_bool (eqB_of (by
          have a1 := eqB_iff.1 e1
          have a2 := eqB_iff.1 e2
          have a3 := E3.out
          cases p; cases q; simp at a1 a2 a3; simp [a1, a2, a3])).symm, (by repeat (first | ((with_reducible refine Below.setc ?_ ?_ _); focus (first | omega | (simp; done) | (simp; omega))) | ((with_reducible refine Below.allocc ?_ ?_ _); focus (first | omega | (simp; done) | (simp; omega))) | (with_reducible refine Below.drew ?_) | (with_reducible refine Below.drewn ?_) | (with_reducible assumption) | (with_reducible exact Below.refl _ _) | ((with_reducible refine Below.stepp (by with_reducible assumption) ?_ ?_); focus (first | omega | (simp; done) | (simp; omega)))))⟩
      · have g3' : (p.active == q.active) = false := by simpa using e3
        have E3 := Lib.hid e3
        clear e3
        go_enter Try.func32, Try.ntmps32
        go_wp2_with (first
          | (go_at_call 19; refine (eqHeap_any _ _ _ _ _ ((h1.below (by repeat (first | ((with_reducible refine Below.setc ?_ ?_ _); focus (first | omega | (simp; done) | (simp; omega))) | ((with_reducible refine Below.allocc ?_ ?_ _); focus (first | omega | (simp; done) | (simp; omega))) | (with_reducible refine Below.drew ?_) | (with_reducible refine Below.drewn ?_) | (with_reducible assumption) | (with_reducible exact Below.refl _ _) | ((with_reducible refine Below.stepp (by with_reducible assumption) ?_ ?_); focus (first | omega | (simp; done) | (simp; omega)))))).rh _ _) ((g1.below (by repeat (first | ((with_reducible refine Below.setc ?_ ?_ _); focus (first | omega | (simp; done) | (simp; omega))) | ((with_reducible refine Below.allocc ?_ ?_ _); focus (first | omega | (simp; done) | (simp; omega))) | (with_reducible refine Below.drew ?_) | (with_reducible refine Below.drewn ?_) | (with_reducible assumption) | (with_reducible exact Below.refl _ _) | ((with_reducible refine Below.stepp (by with_reducible assumption) ?_ ?_); focus (first | omega | (simp; done) | (simp; omega)))))).rh _ _)).mono ?_; rintro e w1 ⟨rfl, hB⟩; obtain ⟨hbc, hbf, hbz⟩ := bcell hB; have z0w1 : w.heap.size < w1.heap.size := (by (try simp at hbz); omega); have z1w1 : w.heap.size + 1 < w1.heap.size := (by (try simp at hbz); omega))
          | (go_at_call 41; refine (eqIntS_any _ _ _ _ _ _ _ (h2.below (by repeat (first | ((with_reducible refine Below.setc ?_ ?_ _); focus (first | omega | (simp; done) | (simp; omega))) | ((with_reducible refine Below.allocc ?_ ?_ _); focus (first | omega | (simp; done) | (simp; omega))) | (with_reducible refine Below.drew ?_) | (with_reducible refine Below.drewn ?_) | (with_reducible assumption) | (with_reducible exact Below.refl _ _) | ((with_reducible refine Below.stepp (by with_reducible assumption) ?_ ?_); focus (first | omega | (simp; done) | (simp; omega)))))) (g2.below (by repeat (first | ((with_reducible refine Below.setc ?_ ?_ _); focus (first | omega | (simp; done) | (simp; omega))) | ((with_reducible refine Below.allocc ?_ ?_ _); focus (first | omega | (simp; done) | (simp; omega))) | (with_reducible refine Below.drew ?_) | (with_reducible refine Below.drewn ?_) | (with_reducible assumption) | (with_reducible exact Below.refl _ _) | ((with_reducible refine Below.stepp (by with_reducible assumption) ?_ ?_); focus (first | omega | (simp; done) | (simp; omega)))))) h3 g3).mono ?_; rintro e w2 ⟨rfl, n, rfl⟩))
        go_ret
        exact ⟨ret_bool (eqB_ne fun e => E3.out (congrArg PaintM.active e)).symm, (by repeat (first | ((with_reducible refine Below.setc ?_ ?_ _); focus (first | omega | (simp; done) | (simp; omega))) | ((with_reducible refine Below.allocc ?_ ?_ _); focus (first | omega | (simp; done) | (simp; omega))) | (with_reducible refine Below.drew ?_) | (with_reducible refine Below.drewn ?_) | (with_reducible assumption) | (with_reducible exact Below.refl _ _) | ((with_reducible refine Below.stepp (by with_reducible assumption) ?_ ?_); focus (first | omega | (simp; done) | (simp; omega)))))⟩
end Go.Proofs.Ytkmfhadanbfadaa

/- Lists of instructions of the call's own; toCommandS, eqCommandS, markCommandS, szCommandS of the laws. -/
namespace Go.Proofs.Ytkmfhadanbfadaa
open Go.RowKit
set_option maxRecDepth 100000
set_option linter.unusedSimpArgs false
set_option linter.unusedVariables false
def cmdVals (o : CmdM) : List Value := [.int .i64 o.op, .int .i64 o.a, .int .i64 o.b, .int .i64 o.c]
theorem flat4 (os : List CmdM) : ∀ (i : Nat) (o : CmdM), os[i]? = some o →
    (os.flatMap cmdVals)[i * 4]? = some (.int .i64 o.op) ∧ (os.flatMap cmdVals)[i * 4 + 1]? = some (.int .i64 o.a) ∧ (os.flatMap cmdVals)[i * 4 + 2]? = some (.int .i64 o.b) ∧ (os.flatMap cmdVals)[i * 4 + 3]? = some (.int .i64 o.c) := by
  induction os with
  | nil => intro i o h; simp at h
  | cons a os ih =>
    intro i o h
    cases i with
    | zero =>
      simp only [List.getElem?_cons_zero, Option.some.injEq] at h
      subst h
      simp [cmdVals]
    | succ i =>
      have h' := ih i o (by simpa using h)
      have e : (a :: os).flatMap cmdVals = [.int .i64 a.op, .int .i64 a.a, .int .i64 a.b, .int .i64 a.c] ++ os.flatMap cmdVals := by simp [cmdVals]
      rw [e]
      refine ⟨?_, ?_, ?_, ?_⟩
      · rw [show (i + 1) * 4 = (i * 4) + 4 by omega, List.getElem?_append_right (by simp)]
        simpa using h'.1
      · rw [show (i + 1) * 4 + 1 = (i * 4 + 1) + 4 by omega, List.getElem?_append_right (by simp)]
        simpa using h'.2.1
      · rw [show (i + 1) * 4 + 2 = (i * 4 + 2) + 4 by omega, List.getElem?_append_right (by simp)]
        simpa using h'.2.2.1
      · rw [show (i + 1) * 4 + 3 = (i * 4 + 3) + 4 by omega, List.getElem?_append_right (by simp)]
        simpa using h'.2.2.2
theorem flat4_set (os : List CmdM) : ∀ (k : Nat) (o : CmdM), k < os.length →
    ((((os.flatMap cmdVals).set (k * 4) (.int .i64 o.op)).set (k * 4 + 1) (.int .i64 o.a)).set (k * 4 + 2) (.int .i64 o.b)).set (k * 4 + 3) (.int .i64 o.c) = (os.set k o).flatMap cmdVals := by
  induction os with
  | nil => intro k o h; simp at h
  | cons a os ih =>
    intro k o h
    cases k with
    | zero => simp [cmdVals]
    | succ k =>
      have h' := ih k o (by simpa using h)
      have e : (a :: os).flatMap cmdVals = .int .i64 a.op :: .int .i64 a.a :: .int .i64 a.b :: .int .i64 a.c :: os.flatMap cmdVals := by simp [cmdVals]
      have e2 : (a :: os.set k o).flatMap cmdVals = .int .i64 a.op :: .int .i64 a.a :: .int .i64 a.b :: .int .i64 a.c :: (os.set k o).flatMap cmdVals := by simp [cmdVals]
      rw [List.set_cons_succ, e, e2, ← h', show (k + 1) * 4 = k * 4 + 1 + 1 + 1 + 1 by omega]
      rfl
/-- A row of instructions of the call's own. -/
def OO (w : World) (A : Option Addr) (c : Nat) (os : List CmdM) : Prop := w.ownsRow 0 47 4 (.slice A os.length c) os.length (os.flatMap cmdVals)
section
variable {w w' : World} {A : Option Addr} {c : Nat} {os : List CmdM}
theorem OO.keep (h : OO w A c os) (hk : ∀ g ∈ blk A, w'.heap[g]? = w.heap[g]?) : OO w' A c os := ownsRow_keep h hk
theorem OO.lt (h : OO w A c os) : ∀ g ∈ blk A, g < w.heap.size := ownsRow_lt h
theorem OO.below (h : OO w A c os) (hb : Below w.heap.size w w') : OO w' A c os := h.keep fun g hg => hb.block g (h.lt g hg)
theorem OO.only {S : List Nat} (h : OO w A c os) (hb : Only S w w') (hs : ∀ g ∈ blk A, g ∉ S) : OO w' A c os := h.keep fun g hg => hb.block g (h.lt g hg) (hs g hg)
theorem OO.some_ (h : OO w A c os) {j : Nat} (hj : j < os.length) : ∃ g, A = some ⟨g, 0, none⟩ ∧ g < w.heap.size := by
  rcases ownsRow_block h with ⟨_, hn, _⟩ | ⟨g, cur, rfl, hg, _⟩
  · omega
  · exact ⟨g, rfl, (Array.getElem?_eq_some_iff.1 hg).1⟩
theorem OO.at_ (h : OO w A c os) {i : Nat} {o : CmdM} (hi : os[i]? = some o) : ∃ g, A = some ⟨g, 0, none⟩ ∧ w.cell? ⟨g, i * 4, none⟩ = some (.int .i64 o.op) ∧
    w.cell? ⟨g, i * 4 + 1, none⟩ = some (.int .i64 o.a) ∧ w.cell? ⟨g, i * 4 + 2, none⟩ = some (.int .i64 o.b) ∧ w.cell? ⟨g, i * 4 + 3, none⟩ = some (.int .i64 o.c) ∧ g < w.heap.size := by
  have hl : i < os.length := (List.getElem?_eq_some_iff.1 hi).1
  rcases ownsRow_block h with ⟨_, hn, _⟩ | ⟨g, cur, rfl, hg, hnc, _, hs, ht⟩
  · omega
  · obtain ⟨f1, f2, f3, f4⟩ := flat4 os i o hi
    have key : ∀ (j : Nat) (v : Value), j < os.length * 4 → (os.flatMap cmdVals)[j]? = some v → w.cell? ⟨g, j, none⟩ = some v := by
      intro j v hj hv
      rw [cell_of_row w g j cur _ (0, 0) hg]
      rw [← ht, List.getElem?_take, if_pos hj] at hv
      simpa using hv
    exact ⟨g, rfl, key _ _ (by omega) f1, key _ _ (by omega) f2, key _ _ (by omega) f3, key _ _ (by omega) f4, (Array.getElem?_eq_some_iff.1 hg).1⟩
theorem OO.set_ {g : Nat} (h : OO w (some ⟨g, 0, none⟩) c os) (k : Nat) (o : CmdM) (hk : k < os.length) :
    OO ((((w.setCell ⟨g, k * 4, none⟩ (.int .i64 o.op)).setCell ⟨g, k * 4 + 1, none⟩ (.int .i64 o.a)).setCell ⟨g, k * 4 + 2, none⟩ (.int .i64 o.b)).setCell ⟨g, k * 4 + 3, none⟩ (.int .i64 o.c)) (some ⟨g, 0, none⟩) c (os.set k o) := by
  have h1 := (World.ownsRow.stored (w := w) h (k * 4) (.int .i64 o.op)).1
  have h2 := (World.ownsRow.stored h1 (k * 4 + 1) (.int .i64 o.a)).1
  have h3 := (World.ownsRow.stored h2 (k * 4 + 2) (.int .i64 o.b)).1
  have h4 := (World.ownsRow.stored h3 (k * 4 + 3) (.int .i64 o.c)).1
  rw [flat4_set os k o hk] at h4
  unfold OO
  rw [List.length_set]
  exact h4
theorem OO.frozen {g : Nat} (h : OO w (some ⟨g, 0, none⟩) c os) (k : Nat) : w.frozen? ⟨g, k, none⟩ = false := World.ownsRow.frozenAt h k
end
set_option maxHeartbeats 400000 in
theorem toCommand_any (op a b c : Int) (w : World) :
    Calls Try.prog 25 #[.agg #[.int .i64 op, .int .i64 a, .int .i64 b, .int .i64 c]] w fun e w' => e = .returned (.agg #[.int .i64 op, .int .i64 a, .int .i64 b, .int .i64 c]) ∧ Below w.heap.size w w' := by
  go_enter Try.func25, Try.ntmps25
  go_wp2
  refine bodyPost_ret (v := .agg #[.int .i64 op, .int .i64 a, .int .i64 b, .int .i64 c]) (by simp [results, Try.results25, go_sem]) rfl ⟨rfl, (by repeat (first | ((with_reducible refine Below.setc ?_ ?_ _); focus (first | omega | (simp; done) | (simp; omega))) | ((with_reducible refine Below.allocc ?_ ?_ _); focus (first | omega | (simp; done) | (simp; omega))) | (with_reducible refine Below.drew ?_) | (with_reducible refine Below.drewn ?_) | (with_reducible assumption) | (with_reducible exact Below.refl _ _) | ((with_reducible refine Below.stepp (by with_reducible assumption) ?_ ?_); focus (first | omega | (simp; done) | (simp; omega)))))⟩
end Go.Proofs.Ytkmfhadanbfadaa
