/- Texts of one family, one behind the other: To, Eq, Cmds. -/
import Derived.Test.YtbnokkdhanlhpaaChecked
import Derived.OwnWalk
import Derived.Test.YtbnokkdhanlhpaaGrOwn
import Derived.StillTailTactics
import Derived.Test.YtbnokkdhanlhpaaGrSz
/- The copies to.. of the laws: what they return is new memory that reads as the argument does. Conditions: lengths at most 2^20. -/
namespace Go.Proofs.Ytbnokkdhanlhpaa
open Go.RowKit
set_option maxRecDepth 100000
set_option linter.unusedSimpArgs false

theorem info_int : (Try.prog.info? 3).map (fun i => (i.zero, i.size, i.bytes)) = some (some (.int .i64 0), 1, 8) := by kernel_rfl
theorem info_cell : (Try.prog.info? 38).map (fun i => (i.zero, i.size, i.bytes)) = some (some (.agg #[.bool false, .int .i64 0, .slice none 0 0]), 3, 40) := by kernel_rfl
theorem mk_ints (n : Nat) (hn : n ≤ 1048577) (W : World) :
    (Instr.makeSlice 24 (.int .i64 (n : Int)) (.int .i64 (n : Int))).run Try.prog W = .ok (.slice (some ⟨W.heap.size, 0, none⟩) n n) (W.alloc (.cells (rowF fi (List.replicate n 0)) 3)) := by
  obtain ⟨i0, hi, hz0, hz1, hz2⟩ := info_parts info_int
  have h := run_make (P := Try.prog) W 24 3 i0 _ Try.underlying24 hi hz0 .i64 .i64 n n (by omega) (by omega) (by rw [hz2]; omega) (by omega)
  simp only [Int.toNat_natCast] at h
  rw [h, hz1, Nat.mul_one, ← rowF_made fi 0 n rfl]
  rfl
theorem info_bool : (Try.prog.info? 4).map (fun i => (i.zero, i.size, i.bytes)) = some (some (.bool false), 1, 1) := by kernel_rfl
theorem mk_bools (n : Nat) (hn : n ≤ 1048577) (W : World) :
    (Instr.makeSlice 99 (.int .i64 (n : Int)) (.int .i64 (n : Int))).run Try.prog W = .ok (.slice (some ⟨W.heap.size, 0, none⟩) n n) (W.alloc (.cells (rowF fb (List.replicate n false)) 4)) := by
  obtain ⟨i0, hi, hz0, hz1, hz2⟩ := info_parts info_bool
  have h := run_make (P := Try.prog) W 99 4 i0 _ Try.underlying99 hi hz0 .i64 .i64 n n (by omega) (by omega) (by rw [hz2]; omega) (by omega)
  simp only [Int.toNat_natCast] at h
  rw [h, hz1, Nat.mul_one, ← rowF_made fb false n rfl]
  rfl
theorem mk_cells (n : Nat) (hn : n ≤ 1048577) (W : World) :
    (Instr.makeSlice 23 (.int .i64 (n : Int)) (.int .i64 (n : Int))).run Try.prog W = .ok (.slice (some ⟨W.heap.size, 0, none⟩) n n) (W.alloc (.cells (rowC (List.replicate n zc)) 38)) := by
  obtain ⟨i0, hi, hz0, hz1, hz2⟩ := info_parts info_cell
  have h := run_make (P := Try.prog) W 23 38 i0 _ Try.underlying23 hi hz0 .i64 .i64 n n (by omega) (by omega) (by rw [hz2]; omega) (by omega)
  simp only [Int.toNat_natCast] at h
  rw [h, hz1, ← rowC_made n]
  rfl
theorem set_take {α : Type} {xs ys : List α} {k : Nat} {x : α} (z : α) (hx : xs[k]? = some x) (hy : ys = xs.take k ++ List.replicate (xs.length - k) z) : ys.set k x = xs.take (k + 1) ++ List.replicate (xs.length - (k + 1)) z := by
  obtain ⟨hk, rfl⟩ := List.getElem?_eq_some_iff.1 hx
  subst hy
  rw [List.set_append_right _ _ (by simp; omega), List.length_take, Nat.min_eq_left (by omega), Nat.sub_self, take_snoc_of hx, List.append_assoc]
  congr 1
  rw [show xs.length - k = (xs.length - (k + 1)) + 1 by omega, List.replicate_succ]
  rfl

theorem nodup_app {a b c : List Nat} (h : a.Nodup) (hb : b.Nodup) (hd : ∀ x ∈ a, ∀ y ∈ b, x < y) (hc : c = a ++ b) : c.Nodup := by
  subst hc
  exact List.nodup_append.2 ⟨h, hb, fun x hx y hy => by have := hd x hx y hy; omega⟩
set_option maxHeartbeats 400000 in
theorem toIntS_any (A : Option Addr) (xs : List Int) (c : Nat) (w : World) (hr : RF fi w A xs) (hn : xs.length ≤ 1048576) :
    Calls Try.prog 75 #[.slice A xs.length c] w fun e w' => ∃ g, e = .returned (.slice (some ⟨g, 0, none⟩) xs.length xs.length) ∧ g = w.heap.size ∧ w' = w.alloc (.cells (rowF fi xs) 3) := by
  have hmk := mk_ints xs.length (by omega)
  go_enter Try.func75, Try.ntmps75
  go_wp2
  go_loopw [4] (fun i wr => ∃ (k : Nat) (ys : List Int), k ≤ xs.length ∧ i = .int .i64 k ∧ Hid (ys = xs.take k ++ List.replicate (xs.length - k) 0) ∧ wr = w.alloc (.cells (rowF fi ys) 3)) (fun i _ => xs.length - (intOf i).toNat)
  case atStart => exact ⟨0, _, by omega, rfl, by simp [Hid], rfl⟩
  case round =>
    obtain ⟨k, ys, hk, rfl, HY, rfl⟩ := hrel
    clear hmk
    by_cases hlt : k < xs.length
    · obtain ⟨b, o, x, rfl, hx, c1, hb⟩ := hr.at_ hlt
      have Hx := Lib.hid hx
      clear hx
      have hlen : ys.length = xs.length := by rw [HY.out]; simp; omega
      obtain ⟨y, hy⟩ : ∃ y, ys[k]? = some y := ⟨_, List.getElem?_eq_getElem (by omega)⟩
      have hrow : (rowF fi ys)[k]? = some (.int .i64 y) := by rw [rowF_get, hy]; rfl
      have HL := Lib.hid hlen
      clear hlen hy
      have c2 : w.cell? ⟨b, o + k, none⟩ = some (.int .i64 x) := c1
      clear c1
      go_wp2
      go_roundw
      case rel => exact ⟨k + 1, ys.set k x, by omega, by go_num, set_take 0 Hx.out HY.out, by rw [← rowF_set]; rfl⟩
      case measure => simp [intOf]; omega
    · have hke : k = xs.length := by omega
      have HK := Lib.hid hke
      clear hke
      go_wp2
      go_ret
      exact ⟨_, rfl, rfl, by rw [show ys = xs by rw [HY.out, HK.out]; simp]⟩
theorem toIntS_own (A : Option Addr) (xs : List Int) (c : Nat) (w : World) (hr : RF fi w A xs) (hn : xs.length ≤ 1048576) :
    Calls Try.prog 75 #[.slice A xs.length c] w fun e w' => ∃ g, e = .returned (.slice (some ⟨g, 0, none⟩) xs.length xs.length) ∧ w.heap.size ≤ g ∧ OF 3 fi w' (some ⟨g, 0, none⟩) xs.length xs ∧ Below w.heap.size w w' :=
  (toIntS_any A xs c w hr hn).mono fun e w' ⟨g, he, hg, hw⟩ => by
    subst hg; subst hw
    exact ⟨_, he, Nat.le_refl _, OF.of_blk (heap_alloc_new _ _) (by simp only [maxLen]; omega), blw_⟩
set_option maxHeartbeats 400000 in
theorem toCell_any (u : Bool) (d : Int) (A : Option Addr) (xs : List Int) (c : Nat) (w : World) (hr : RF fi w A xs) (hn : xs.length ≤ 1048576) :
    Calls Try.prog 125 #[.agg #[.bool u, .int .i64 d, .slice A xs.length c]] w fun e w' => ∃ g, e = .returned (.agg #[.bool u, .int .i64 d, .slice (some ⟨g, 0, none⟩) xs.length xs.length]) ∧
      w.heap.size ≤ g ∧ OF 3 fi w' (some ⟨g, 0, none⟩) xs.length xs ∧ Below w.heap.size w w' := by
  go_enter Try.func125, Try.ntmps125
  go_wp2_with (go_at_call 75; refine (toIntS_own _ _ _ _ (hr.below blw_) hn).mono ?_; rintro e w' ⟨g, rfl, hg, ho, hB⟩; obtain ⟨hbc, hbf, hbz⟩ := bcell hB; simp at hg)
  refine bodyPost_ret (v := .agg #[.bool u, .int .i64 d, .slice (some ⟨g, 0, none⟩) xs.length xs.length]) (by simp [results, Try.results125, go_sem, hbc]) rfl ⟨g, rfl, by omega, ?_, ?_⟩
  · refine ho.keep fun i hi => ?_
    simp [blk] at hi
    subst hi
    rw [heap_setCell_ne _ _ _ (by simp; omega), heap_setCell_ne _ _ _ (by simp; omega), heap_setCell_ne _ _ _ (by simp; omega), heap_setCell_ne _ _ _ (by simp; omega)]
  · exact blw_
set_option maxHeartbeats 400000 in
theorem toCellS_any (A : Option Addr) (cs : List CellM) (c : Nat) (w : World) (hc : RC w A cs) (hn : cs.length ≤ 1048576) (hr : ∀ d ∈ cs, d.refs.length ≤ 1048576) :
    Calls Try.prog 104 #[.slice A cs.length c] w fun e w' => ∃ g os, e = .returned (.slice (some ⟨g, 0, none⟩) cs.length cs.length) ∧ os.map (·.c) = cs ∧ OC w' (some ⟨g, 0, none⟩) cs.length os ∧
      (blk (some ⟨g, 0, none⟩) ++ blks os).Nodup ∧ (∀ b ∈ blk (some ⟨g, 0, none⟩) ++ blks os, w.heap.size ≤ b) ∧ Below w.heap.size w w' := by
  have hmk := mk_cells cs.length (by omega)
  go_enter Try.func104, Try.ntmps104
  go_wp2
  clear hmk
  go_loopw [4] (fun i wr => ∃ (k : Nat) (rs : List OCell), k ≤ cs.length ∧ i = .int .i64 k ∧ Hid (rs.map (·.c) = cs.take k) ∧ Hid (OC wr (some ⟨w.heap.size, 0, none⟩) cs.length (rs ++ List.replicate (cs.length - k) zc)) ∧
    (blks rs).Nodup ∧ (∀ b ∈ blks rs, w.heap.size < b) ∧ Below w.heap.size w wr ∧ w.heap.size < wr.heap.size) (fun i _ => cs.length - (intOf i).toNat)
  case atStart =>
    refine ⟨0, [], by omega, rfl, rfl, ?_, List.Pairwise.nil, by simp [blks], blw_, by simp⟩
    have h := OC.of_blk (os := List.replicate cs.length zc) (heap_alloc_new w _) (by simp [maxLen]; omega) (fun o ho => by rw [(List.mem_replicate.1 ho).2]; exact zc_own)
    simpa [Hid] using h
  case round =>
    obtain ⟨k, rs, hk, rfl, HR, HO, hnd, hlo, hB, hsz⟩ := hrel
    by_cases hlt : k < cs.length
    · obtain ⟨b, o, d, Ar, cr, rfl, hx, c1, c2, c3, hrf, hrl, hb⟩ := (hc.below hB).at_ hlt
      have hdl := hr d (List.mem_of_getElem? hx)
      have Hx := Lib.hid hx
      clear hx
      have hrl2 : rs.length = k := by have := congrArg List.length HR.out; simpa [Nat.min_eq_left hk] using this
      have hz : (rs ++ List.replicate (cs.length - k) zc)[k]? = some zc := by
        rw [List.getElem?_append_right (by omega), hrl2, Nat.sub_self, List.getElem?_replicate, if_pos (by omega)]
      obtain ⟨g', hg', e1, e2, e3, hg3⟩ := OC.at_ HO.out hz
      injection hg' with hg'
      injection hg' with hg'
      subst hg'
      have HL := Lib.hid hrl2
      clear hrl2 hz hr hc
      have f1 := HO.out.frozen (k * 3)
      have f2 := HO.out.frozen (k * 3 + 1)
      have f3 := HO.out.frozen (k * 3 + 2)
      go_wp2_with (go_at_call 125; refine (toCell_any _ _ _ _ _ _ hrf hdl).mono ?_; rintro e w' ⟨g, rfl, hg, ho, hB2⟩; obtain ⟨hbc, hbf, hbz⟩ := bcell hB2)
      go_roundw
      case rel =>
        have hz2 : cs.length - k = (cs.length - (k + 1)) + 1 := by omega
        have hset : (rs ++ List.replicate (cs.length - k) zc).set k ⟨d, some ⟨g, 0, none⟩, d.refs.length⟩ = (rs ++ [⟨d, some ⟨g, 0, none⟩, d.refs.length⟩]) ++ List.replicate (cs.length - (k + 1)) zc := by
          rw [List.set_append_right _ _ (by rw [HL.out]; omega), HL.out, Nat.sub_self, hz2, List.replicate_succ, List.append_assoc]
          rfl
        have hnew : ∀ b ∈ blks rs, b < g := fun b hb => by
          have := OC.lt HO.out b (by rw [blks_append]; simp [hb])
          omega
        refine ⟨k + 1, rs ++ [⟨d, some ⟨g, 0, none⟩, d.refs.length⟩], by omega, by go_num, ?_, ?_, ?_, ?_, blw_, by simp; omega⟩
        · unfold Hid
          rw [take_snoc_of Hx.out, List.map_append, HR.out]; rfl
        · unfold Hid
          rw [← hset]
          exact (HO.out.below hB2).set_ k ⟨d, some ⟨g, 0, none⟩, d.refs.length⟩ (by simp [HL.out]; omega) ho hrl
        · rw [blks_append]
          refine List.nodup_append.2 ⟨hnd, by simp [blks, blk], fun a ha b hb => ?_⟩
          have := hnew a ha
          simp [blks, blk] at hb
          omega
        · intro b hb
          rw [blks_append] at hb
          rcases List.mem_append.1 hb with hb | hb
          · exact hlo b hb
          · simp [blks, blk] at hb
            omega
      case measure => simp [intOf]; omega
    · have hke : k = cs.length := by omega
      have HK := Lib.hid hke
      clear hke
      go_wp2
      go_ret
      have h0 : cs.length - k = 0 := by rw [HK.out]; omega
      have h1 := HO.out
      rw [h0, List.replicate_zero, List.append_nil] at h1
      have h2 := HR.out
      rw [HK.out, List.take_length] at h2
      refine ⟨_, rs, rfl, h2, h1, ?_, ?_, hB⟩
      · simp only [blk, Option.toList, List.map_cons, List.map_nil, List.singleton_append, List.nodup_cons]
        exact ⟨fun hm => by have := hlo _ hm; omega, hnd⟩
      · intro b hb
        rcases List.mem_append.1 hb with hb | hb
        · simp [blk] at hb; omega
        · have := hlo b hb; omega
theorem OH.mk_ {lo : Nat} {w : World} {h : HeapM} {g g' : Nat} {os : List OCell} {c c' : Nat} (hm : os.map (·.c) = h.cells) (ho : OC w (some ⟨g, 0, none⟩) c os) (hr : OF 3 fi w (some ⟨g', 0, none⟩) c' h.roots)
    (hnd : (blk (some ⟨g, 0, none⟩) ++ blks os).Nodup) (hlt : ∀ b ∈ blk (some ⟨g, 0, none⟩) ++ blks os, b < g') (hlo : ∀ b ∈ blk (some ⟨g, 0, none⟩) ++ blks os, lo ≤ b) (hg : lo ≤ g') (h1 : h.cells.length ≤ 9223372036854775807) (h2 : h.roots.length ≤ 9223372036854775807) :
    OH lo w (.agg #[.slice (some ⟨g, 0, none⟩) h.cells.length c, .slice (some ⟨g', 0, none⟩) h.roots.length c']) h := by
  refine ⟨_, c, _, c', os, rfl, hm, ⟨ho, hr, ?_, ?_, h2⟩, ?_⟩
  · exact nodup_app hnd (by simp [blk]) (fun x hx y hy => by rw [mem_blk_some hy]; exact hlt x hx) rfl
  · rw [← hm, List.length_map] at h1; exact h1
  · intro b hb
    rcases List.mem_append.1 hb with hb | hb
    · exact hlo b hb
    · rw [mem_blk_some hb]; exact hg
set_option maxHeartbeats 400000 in
theorem toHeap_any (v : Value) (h : HeapM) (w : World) (hv : RH w v h) (hn : h.cells.length ≤ 1048576) (hr : ∀ d ∈ h.cells, d.refs.length ≤ 1048576) (hn2 : h.roots.length ≤ 1048576) :
    Calls Try.prog 74 #[v] w fun e w' => ∃ v', e = .returned v' ∧ OH w.heap.size w' v' h ∧ Below w.heap.size w w' := by
  obtain ⟨A, c, A', c', rfl, hc, hrr, -, -⟩ := hv
  go_enter Try.func74, Try.ntmps74
  go_wp2_with (first
    | (go_at_call 104; refine (toCellS_any _ _ _ _ (hc.below blw_) hn hr).mono ?_; rintro e w1 ⟨g, os, rfl, hm, ho, hnd, hlo, hB1⟩; obtain ⟨hbc, hbf, hbz⟩ := bcell hB1; have z0w1 : w.heap.size < w1.heap.size := (by (try simp at hbz); omega); have z1w1 : w.heap.size + 1 < w1.heap.size := (by (try simp at hbz); omega); have z2w1 : w.heap.size + 1 + 1 < w1.heap.size := (by (try simp at hbz); omega); have HM := Lib.hid hm; clear hm; have HL := Lib.hid hlo; clear hlo)
    | (go_at_call 75; refine (toIntS_own _ _ _ _ (hrr.below blw_) hn2).mono ?_; rintro e w2 ⟨g', rfl, hg', ho', hB2⟩; obtain ⟨hbc2, hbf2, hbz2⟩ := bcell hB2; have z0w2 : w.heap.size < w2.heap.size := (by (try simp at hbz2); omega); have z1w2 : w.heap.size + 1 < w2.heap.size := (by (try simp at hbz2); omega); have z2w2 : w.heap.size + 1 + 1 < w2.heap.size := (by (try simp at hbz2); omega)))
  have hL := HL.out
  simp only [World.size_alloc] at hL
  simp only [World.size_setCell] at hg'
  refine bodyPost_ret (v := .agg #[.slice (some ⟨g, 0, none⟩) h.cells.length h.cells.length, .slice (some ⟨g', 0, none⟩) h.roots.length h.roots.length]) (by simp [results, Try.results74, go_sem, hbc2, hbc, z0w1, z1w1, z2w1]) rfl ⟨_, rfl, OH.mk_ HM.out ?_ ?_ hnd (fun b hb => ?_) (fun b hb => ?_) ?_ (by omega) (by omega), blw_⟩
  · refine ho.keep fun b hb => ?_
    have h1 := hL b hb
    have h2 := ho.lt b hb
    (repeat (first | rw [heap_setCell_ne _ _ _ (by first | omega | (simp; done) | (simp; omega))] | rw [Below.block hB2 _ (by first | omega | (simp; done) | (simp; omega))] | rw [Below.heap_alloc _ _ _ (by first | omega | (simp; done) | (simp; omega))]))
  · refine ho'.keep fun b hb => ?_
    have h2 := ho'.lt b hb
    obtain rfl := mem_blk_some hb
    (repeat (first | rw [heap_setCell_ne _ _ _ (by first | omega | (simp; done) | (simp; omega))] | rw [Below.block hB2 _ (by first | omega | (simp; done) | (simp; omega))] | rw [Below.heap_alloc _ _ _ (by first | omega | (simp; done) | (simp; omega))]))
  · have h2 := ho.lt b hb
    omega
  · have := hL b hb
    omega
  · omega
theorem nodup_app1 {a : List Nat} {g : Nat} (h : a.Nodup) (hd : ∀ x ∈ a, x < g) : (a ++ blk (some ⟨g, 0, none⟩)).Nodup :=
  nodup_app h (by simp [blk]) (fun x hx y hy => by rw [mem_blk_some hy]; exact hd x hx) rfl
end Go.Proofs.Ytbnokkdhanlhpaa

/- The comparisons eq.. of the laws: they tell whether both sides read as the same, and leave memory as it is. -/
namespace Go.Proofs.Ytbnokkdhanlhpaa
open Go.RowKit
set_option maxRecDepth 100000
set_option linter.unusedSimpArgs false

set_option maxHeartbeats 400000 in
theorem eqIntS_any (A A' : Option Addr) (xs ys : List Int) (c c' : Nat) (w : World) (hx : RF fi w A xs) (hy : RF fi w A' ys) (hn : xs.length ≤ 9223372036854775807) (hn2 : ys.length ≤ 9223372036854775807) :
    Calls Try.prog 77 #[.slice A xs.length c, .slice A' ys.length c'] w fun e w' => e = .returned (.bool (eqB xs ys)) ∧ ∃ n, w' = w.drewN n := by
  by_cases hl : xs.length = ys.length
  · have HL := Lib.hid hl
    have hl2 : ((xs.length : Int) != (ys.length : Int)) = false := by simp [hl]
    have hl3 : xs.length ≤ ys.length := by omega
    clear hl
    go_enter Try.func77, Try.ntmps77
    go_wp2
    go_loopw [5] (fun i wr => ∃ (k : Nat), k ≤ xs.length ∧ i = .int .i64 k ∧ Hid (xs.take k = ys.take k) ∧ ∃ n, wr = w.drewN n) (fun i _ => xs.length - (intOf i).toNat)
    case atStart => exact ⟨0, by omega, rfl, rfl, 0, rfl⟩
    case round =>
      obtain ⟨k, hk, rfl, HT, n, rfl⟩ := hrel
      clear hl2
      by_cases hlt : k < xs.length
      · obtain ⟨b, o, x, rfl, gx, c1, hb⟩ := hx.at_ hlt
        obtain ⟨b', o', y, rfl, gy, c2, hb'⟩ := hy.at_ (k := k) (by omega)
        have GX := Lib.hid gx
        have GY := Lib.hid gy
        clear gx gy hx hy
        have d1 : w.cell? ⟨b, o + k, none⟩ = some (.int .i64 x) := c1
        have d2 : w.cell? ⟨b', o' + k, none⟩ = some (.int .i64 y) := c2
        have i1 : (0 : Int) ≤ (k : Int) := by omega
        have i2 : (k : Int) < (xs.length : Int) := by omega
        have i3 : (k : Int) < (ys.length : Int) := by omega
        clear c1 c2
        by_cases he : x = y
        · have hne : (x != y) = false := by simp [he]
          have HE := Lib.hid he
          clear he
          go_wp2
          go_quiet (fail)
          go_wp2
          go_roundw
          case rel => exact ⟨k + 1, by omega, by go_num, take_eq_step HT.out GX.out GY.out HE.out, _, by first | rfl | (simp; rfl)⟩
          case measure => simp [intOf]; omega
        · have hne : (x != y) = true := by simp [he]
          have HE := Lib.hid he
          clear he
          go_wp2
          go_quiet (fail)
          go_wp2
          go_ret
          exact ⟨ret_bool (eqB_ne (ne_of_get GX.out GY.out HE.out)).symm, _, by first | rfl | (simp; rfl)⟩
      · have hke : k = xs.length := by omega
        have HK := Lib.hid hke
        clear hke
        go_wp2
        go_ret
        refine ⟨ret_bool ?_, n, rfl⟩
        have h1 := HT.out
        rw [HK.out, List.take_length, HL.out, List.take_length] at h1
        exact (eqB_of h1).symm
  · have hl2 : ((xs.length : Int) != (ys.length : Int)) = true := by simp; omega
    go_enter Try.func77, Try.ntmps77
    go_wp2
    go_ret
    exact ⟨ret_bool (eqB_ne (fun e => hl (by rw [e]))).symm, 0, rfl⟩
set_option maxHeartbeats 400000 in
theorem eqCell_any (u u' : Bool) (d d' : Int) (A A' : Option Addr) (xs ys : List Int) (c c' : Nat) (w : World) (hx : RF fi w A xs) (hy : RF fi w A' ys) (hn : xs.length ≤ 9223372036854775807) (hn2 : ys.length ≤ 9223372036854775807) :
    Calls Try.prog 126 #[.agg #[.bool u, .int .i64 d, .slice A xs.length c], .agg #[.bool u', .int .i64 d', .slice A' ys.length c']] w fun e w' => e = .returned (.bool (eqB (⟨u, d, xs⟩ : CellM) ⟨u', d', ys⟩)) ∧ Below w.heap.size w w' := by
  by_cases h1 : u = u'
  · have g1 : (u == u') = true := by simp [h1]
    have H1 := Lib.hid h1
    clear h1
    by_cases h2 : d = d'
    · have g2 : (d != d') = false := by simp [h2]
      have H2 := Lib.hid h2
      clear h2
      cases hb : eqB xs ys
      all_goals
        go_enter Try.func126, Try.ntmps126
        go_wp2_with (go_at_call 77; refine (eqIntS_any _ _ _ _ _ _ _ (hx.below blw_) (hy.below blw_) hn hn2).mono ?_; rintro e w' ⟨rfl, n, rfl⟩)
        go_ret
      · exact ⟨ret_bool (eqB_ne fun e => eqB_false hb (congrArg CellM.refs e)).symm, blw_⟩
      · exact ⟨ret_bool (eqB_of (by rw [H1.out, H2.out, eqB_iff.1 hb])).symm, blw_⟩
    · have g2 : (d != d') = true := by simp [h2]
      go_enter Try.func126, Try.ntmps126
      go_wp2
      go_ret
      exact ⟨ret_bool (eqB_ne fun e => h2 (congrArg CellM.data e)).symm, blw_⟩
  · have g1 : (u == u') = false := by simpa using h1
    have H1 := Lib.hid h1
    clear h1
    go_enter Try.func126, Try.ntmps126
    go_wp2
    go_ret
    exact ⟨ret_bool (eqB_ne fun e => H1.out (congrArg CellM.used e)).symm, blw_⟩
set_option maxHeartbeats 400000 in
theorem eqCellS_any (A A' : Option Addr) (xs ys : List CellM) (c c' : Nat) (w : World) (hx : RC w A xs) (hy : RC w A' ys) (hn : xs.length ≤ 9223372036854775807) (hn2 : ys.length ≤ 9223372036854775807) :
    Calls Try.prog 105 #[.slice A xs.length c, .slice A' ys.length c'] w fun e w' => e = .returned (.bool (eqB xs ys)) ∧ Below w.heap.size w w' := by
  by_cases hl : xs.length = ys.length
  · have HL := Lib.hid hl
    have hl2 : ((xs.length : Int) != (ys.length : Int)) = false := by simp [hl]
    have hl3 : xs.length ≤ ys.length := by omega
    clear hl
    go_enter Try.func105, Try.ntmps105
    go_wp2
    go_loopw [5] (fun i wr => ∃ (k : Nat), k ≤ xs.length ∧ i = .int .i64 k ∧ Hid (xs.take k = ys.take k) ∧ Below w.heap.size w wr) (fun i _ => xs.length - (intOf i).toNat)
    case atStart => exact ⟨0, by omega, rfl, rfl, Below.refl _ _⟩
    case round =>
      obtain ⟨k, hk, rfl, HT, hB⟩ := hrel
      clear hl2
      by_cases hlt : k < xs.length
      · obtain ⟨b, o, x, Ar, cr, rfl, gx, c1, c2, c3, hr, hrl, hb⟩ := (hx.below hB).at_ hlt
        obtain ⟨b', o', y, Ar', cr', rfl, gy, d1, d2, d3, hr', hrl', hb'⟩ := (hy.below hB).at_ (k := k) (by omega)
        have GX := Lib.hid gx
        have GY := Lib.hid gy
        clear gx gy hx hy
        have i1 : (0 : Int) ≤ (k : Int) := by omega
        have i2 : (k : Int) < (xs.length : Int) := by omega
        have i3 : (k : Int) < (ys.length : Int) := by omega
        cases he : eqB (⟨x.used, x.data, x.refs⟩ : CellM) ⟨y.used, y.data, y.refs⟩
        all_goals
          have HE := Lib.hid he
          have hBz := hB.size
          go_wp2
          go_still_tail 8, (by kernel_rfl)
          change wpList _ _ _ _ _ wr.drew
          go_wp2_with (go_at_call 126; refine (eqCell_any _ _ _ _ _ _ _ _ _ _ _ (hr.below blw_) (hr'.below blw_) hrl hrl').mono ?_; rintro e w' ⟨rfl, hB2⟩)
        · go_ret
          exact ⟨ret_bool (eqB_ne (ne_of_get GX.out GY.out (eqB_false HE.out))).symm, blw_⟩
        · go_roundw
          case rel => exact ⟨k + 1, by omega, by go_num, take_eq_step HT.out GX.out GY.out (eqB_iff.1 HE.out), blw_⟩
          case measure => simp [intOf]; omega
      · have hke : k = xs.length := by omega
        have HK := Lib.hid hke
        clear hke
        go_wp2
        go_ret
        refine ⟨ret_bool ?_, hB⟩
        have h1 := HT.out
        rw [HK.out, List.take_length, HL.out, List.take_length] at h1
        exact (eqB_of h1).symm
  · have hl2 : ((xs.length : Int) != (ys.length : Int)) = true := by simp; omega
    go_enter Try.func105, Try.ntmps105
    go_wp2
    go_ret
    exact ⟨ret_bool (eqB_ne (fun e => hl (by rw [e]))).symm, Below.refl _ _⟩
set_option maxHeartbeats 400000 in
theorem eqHeap_any (v v' : Value) (h h' : HeapM) (w : World) (hv : RH w v h) (hv' : RH w v' h') :
    Calls Try.prog 76 #[v, v'] w fun e w' => e = .returned (.bool (eqB h h')) ∧ Below w.heap.size w w' := by
  obtain ⟨A, c, A', c', rfl, h1, h2, h3, h4⟩ := hv
  obtain ⟨B, d, B', d', rfl, g1, g2, g3, g4⟩ := hv'
  cases e1 : eqB h.cells h'.cells
  · go_enter Try.func76, Try.ntmps76
    go_wp2_with (go_at_call 105; refine (eqCellS_any _ _ _ _ _ _ _ (h1.below blw_) (g1.below blw_) h3 g3).mono ?_; rintro e w1 ⟨rfl, hB⟩; obtain ⟨hbc, hbf, hbz⟩ := bcell hB; have z0w1 : w.heap.size < w1.heap.size := (by (try simp at hbz); omega); have z1w1 : w.heap.size + 1 < w1.heap.size := (by (try simp at hbz); omega))
    go_ret
    exact ⟨ret_bool (eqB_ne fun e => eqB_false e1 (congrArg HeapM.cells e)).symm, blw_⟩
  · cases e2 : eqB h.roots h'.roots
    all_goals
      go_enter Try.func76, Try.ntmps76
      go_wp2_with (first
        | (go_at_call 105; refine (eqCellS_any _ _ _ _ _ _ _ (h1.below blw_) (g1.below blw_) h3 g3).mono ?_; rintro e w1 ⟨rfl, hB⟩; obtain ⟨hbc, hbf, hbz⟩ := bcell hB; have z0w1 : w.heap.size < w1.heap.size := (by (try simp at hbz); omega); have z1w1 : w.heap.size + 1 < w1.heap.size := (by (try simp at hbz); omega))
        | (go_at_call 77; refine (eqIntS_any _ _ _ _ _ _ _ (h2.below blw_) (g2.below blw_) h4 g4).mono ?_; rintro e w2 ⟨rfl, n, rfl⟩))
      go_ret
    · exact ⟨ret_bool (eqB_ne fun e => eqB_false e2 (congrArg HeapM.roots e)).symm, blw_⟩
    · exact ⟨ret_bool (eqB_of (by
        have a1 := eqB_iff.1 e1
        have a2 := eqB_iff.1 e2
        cases h; cases h'; simp at a1 a2; simp [a1, a2])).symm, blw_⟩
end Go.Proofs.Ytbnokkdhanlhpaa

/- Lists of instructions of the call's own; toCommandS, eqCommandS, markCommandS, szCommandS of the laws. -/
namespace Go.Proofs.Ytbnokkdhanlhpaa
open Go.RowKit
set_option maxRecDepth 100000
set_option linter.unusedSimpArgs false
set_option linter.unusedVariables false
def cmdVals (o : CmdM) : List Value := [.int .i64 o.op, .int .i64 o.a, .int .i64 o.b, .int .i64 o.c]
theorem flat4_len (os : List CmdM) : (os.flatMap cmdVals).length = os.length * 4 := by
  induction os with
  | nil => rfl
  | cons a os ih => simp only [List.flatMap_cons, List.length_append, ih, List.length_cons]; simp [cmdVals]; omega
theorem flat4 (os : List CmdM) : ∀ (i : Nat) (o : CmdM), os[i]? = some o →
    (os.flatMap cmdVals)[i * 4]? = some (.int .i64 o.op) ∧ (os.flatMap cmdVals)[i * 4 + 1]? = some (.int .i64 o.a) ∧ (os.flatMap cmdVals)[i * 4 + 2]? = some (.int .i64 o.b) ∧ (os.flatMap cmdVals)[i * 4 + 3]? = some (.int .i64 o.c) := by
  induction os with
  | nil => intro i o h; simp at h
  | cons a os ih =>
    intro i o h
    cases i with
    | zero =>
      simp only [List.getElem?_cons_zero, Option.some.injEq] at h
      subst h
      simp [cmdVals]
    | succ i =>
      have h' := ih i o (by simpa using h)
      have e : (a :: os).flatMap cmdVals = [.int .i64 a.op, .int .i64 a.a, .int .i64 a.b, .int .i64 a.c] ++ os.flatMap cmdVals := by simp [cmdVals]
      rw [e]
      refine ⟨?_, ?_, ?_, ?_⟩
      · rw [show (i + 1) * 4 = (i * 4) + 4 by omega, List.getElem?_append_right (by simp)]
        simpa using h'.1
      · rw [show (i + 1) * 4 + 1 = (i * 4 + 1) + 4 by omega, List.getElem?_append_right (by simp)]
        simpa using h'.2.1
      · rw [show (i + 1) * 4 + 2 = (i * 4 + 2) + 4 by omega, List.getElem?_append_right (by simp)]
        simpa using h'.2.2.1
      · rw [show (i + 1) * 4 + 3 = (i * 4 + 3) + 4 by omega, List.getElem?_append_right (by simp)]
        simpa using h'.2.2.2
theorem flat4_set (os : List CmdM) : ∀ (k : Nat) (o : CmdM), k < os.length →
    ((((os.flatMap cmdVals).set (k * 4) (.int .i64 o.op)).set (k * 4 + 1) (.int .i64 o.a)).set (k * 4 + 2) (.int .i64 o.b)).set (k * 4 + 3) (.int .i64 o.c) = (os.set k o).flatMap cmdVals := by
  induction os with
  | nil => intro k o h; simp at h
  | cons a os ih =>
    intro k o h
    cases k with
    | zero => simp [cmdVals]
    | succ k =>
      have h' := ih k o (by simpa using h)
      have e : (a :: os).flatMap cmdVals = .int .i64 a.op :: .int .i64 a.a :: .int .i64 a.b :: .int .i64 a.c :: os.flatMap cmdVals := by simp [cmdVals]
      have e2 : (a :: os.set k o).flatMap cmdVals = .int .i64 a.op :: .int .i64 a.a :: .int .i64 a.b :: .int .i64 a.c :: (os.set k o).flatMap cmdVals := by simp [cmdVals]
      rw [List.set_cons_succ, e, e2, ← h', show (k + 1) * 4 = k * 4 + 1 + 1 + 1 + 1 by omega]
      rfl
/-- A row of instructions of the call's own. -/
def OO (w : World) (A : Option Addr) (c : Nat) (os : List CmdM) : Prop := w.ownsRow 0 30 4 (.slice A os.length c) os.length (os.flatMap cmdVals)
section
variable {w w' : World} {A : Option Addr} {c : Nat} {os : List CmdM}
theorem OO.keep (h : OO w A c os) (hk : ∀ g ∈ blk A, w'.heap[g]? = w.heap[g]?) : OO w' A c os := ownsRow_keep h hk
theorem OO.lt (h : OO w A c os) : ∀ g ∈ blk A, g < w.heap.size := ownsRow_lt h
theorem OO.below (h : OO w A c os) (hb : Below w.heap.size w w') : OO w' A c os := h.keep fun g hg => hb.block g (h.lt g hg)
theorem OO.only {S : List Nat} (h : OO w A c os) (hb : Only S w w') (hs : ∀ g ∈ blk A, g ∉ S) : OO w' A c os := h.keep fun g hg => hb.block g (h.lt g hg) (hs g hg)
theorem OO.some_ (h : OO w A c os) {j : Nat} (hj : j < os.length) : ∃ g, A = some ⟨g, 0, none⟩ ∧ g < w.heap.size := by
  rcases ownsRow_block h with ⟨_, hn, _⟩ | ⟨g, cur, rfl, hg, _⟩
  · omega
  · exact ⟨g, rfl, (Array.getElem?_eq_some_iff.1 hg).1⟩
theorem OO.at_ (h : OO w A c os) {i : Nat} {o : CmdM} (hi : os[i]? = some o) : ∃ g, A = some ⟨g, 0, none⟩ ∧ w.cell? ⟨g, i * 4, none⟩ = some (.int .i64 o.op) ∧
    w.cell? ⟨g, i * 4 + 1, none⟩ = some (.int .i64 o.a) ∧ w.cell? ⟨g, i * 4 + 2, none⟩ = some (.int .i64 o.b) ∧ w.cell? ⟨g, i * 4 + 3, none⟩ = some (.int .i64 o.c) ∧ g < w.heap.size := by
  have hl : i < os.length := (List.getElem?_eq_some_iff.1 hi).1
  rcases ownsRow_block h with ⟨_, hn, _⟩ | ⟨g, cur, rfl, hg, hnc, _, hs, ht⟩
  · omega
  · obtain ⟨f1, f2, f3, f4⟩ := flat4 os i o hi
    have key : ∀ (j : Nat) (v : Value), j < os.length * 4 → (os.flatMap cmdVals)[j]? = some v → w.cell? ⟨g, j, none⟩ = some v := by
      intro j v hj hv
      rw [cell_of_row w g j cur _ (0, 0) hg]
      rw [← ht, List.getElem?_take, if_pos hj] at hv
      simpa using hv
    exact ⟨g, rfl, key _ _ (by omega) f1, key _ _ (by omega) f2, key _ _ (by omega) f3, key _ _ (by omega) f4, (Array.getElem?_eq_some_iff.1 hg).1⟩
theorem OO.ro (h : OO w A c os) : RO w A os := by
  intro i hi
  obtain ⟨g, hA, h1, h2, h3, h4, _⟩ := h.at_ (List.getElem?_eq_getElem hi)
  exact ⟨g, 0, os[i], hA, List.getElem?_eq_getElem hi, by simpa using h1, by simpa using h2, by simpa using h3, by simpa using h4⟩
theorem OO.set_ {g : Nat} (h : OO w (some ⟨g, 0, none⟩) c os) (k : Nat) (o : CmdM) (hk : k < os.length) :
    OO ((((w.setCell ⟨g, k * 4, none⟩ (.int .i64 o.op)).setCell ⟨g, k * 4 + 1, none⟩ (.int .i64 o.a)).setCell ⟨g, k * 4 + 2, none⟩ (.int .i64 o.b)).setCell ⟨g, k * 4 + 3, none⟩ (.int .i64 o.c)) (some ⟨g, 0, none⟩) c (os.set k o) := by
  have h1 := (World.ownsRow.stored (w := w) h (k * 4) (.int .i64 o.op)).1
  have h2 := (World.ownsRow.stored h1 (k * 4 + 1) (.int .i64 o.a)).1
  have h3 := (World.ownsRow.stored h2 (k * 4 + 2) (.int .i64 o.b)).1
  have h4 := (World.ownsRow.stored h3 (k * 4 + 3) (.int .i64 o.c)).1
  rw [flat4_set os k o hk] at h4
  unfold OO
  rw [List.length_set]
  exact h4
theorem OO.frozen {g : Nat} (h : OO w (some ⟨g, 0, none⟩) c os) (k : Nat) : w.frozen? ⟨g, k, none⟩ = false := World.ownsRow.frozenAt h k
end
def zo : CmdM := ⟨0, 0, 0, 0⟩
def rowO (os : List CmdM) : Array Value := (os.flatMap cmdVals).toArray
theorem flat4_zero : ∀ (n i : Nat), i < n * 4 → ((List.replicate n zo).flatMap cmdVals)[i]? = some (Value.int .i64 0)
  | 0, i, h => by omega
  | n + 1, i, h => by
    have e : (List.replicate (n + 1) zo).flatMap cmdVals = [Value.int .i64 0, .int .i64 0, .int .i64 0, .int .i64 0] ++ (List.replicate n zo).flatMap cmdVals := by simp [List.replicate_succ, cmdVals, zo]
    rw [e]
    rcases Nat.lt_or_ge i 4 with h3 | h3
    · rw [List.getElem?_append_left (by simpa using h3)]
      rcases (by omega : i = 0 ∨ i = 1 ∨ i = 2 ∨ i = 3) with rfl | rfl | rfl | rfl <;> rfl
    · rw [List.getElem?_append_right (by simpa using h3)]
      have h' := flat4_zero n (i - 4) (by omega)
      simp only [List.length_cons, List.length_nil]
      rw [h']
theorem rowO_made (n : Nat) : madeCells #[Value.int .i64 0, .int .i64 0, .int .i64 0, .int .i64 0] (n * 4) = rowO (List.replicate n zo) := by
  apply Array.ext_getElem?
  intro i
  rcases Nat.lt_or_ge i (n * 4) with h | h
  · have h1 := flat4_zero n i h
    simp only [rowO, List.getElem?_toArray, h1]
    have h4 : i % 4 = 0 ∨ i % 4 = 1 ∨ i % 4 = 2 ∨ i % 4 = 3 := by omega
    rcases h4 with h4 | h4 | h4 | h4 <;> simp [madeCells, h, h4]
  · rw [Array.getElem?_eq_none (by simp [size_madeCells, h]), Array.getElem?_eq_none (by simp only [rowO, List.size_toArray, flat4_len, List.length_replicate]; omega)]
theorem OO.of_blkn {w : World} {g c : Nat} {os : List CmdM} (hn : c = os.length) (h : w.heap[g]? = some (.cells (rowO os) 30 (0, 0))) (hl : os.length ≤ maxLen) : OO w (some ⟨g, 0, none⟩) c os := by
  subst hn
  exact ⟨flat4_len os, .inr ⟨g, os.length, rowO os, rfl, Nat.zero_le _, h, Nat.le_refl _, hl, by simp only [rowO, List.size_toArray, flat4_len], by rw [rowO, ← flat4_len, List.take_length]⟩⟩
theorem info_cmd : (Try.prog.info? 30).map (fun i => (i.zero, i.size, i.bytes)) = some (some (.agg #[.int .i64 0, .int .i64 0, .int .i64 0, .int .i64 0]), 4, 32) := by kernel_rfl
theorem mk_cmds (n : Nat) (hn : n ≤ 1048577) (W : World) :
    (Instr.makeSlice 44 (.int .i64 (n : Int)) (.int .i64 (n : Int))).run Try.prog W = .ok (.slice (some ⟨W.heap.size, 0, none⟩) n n) (W.alloc (.cells (rowO (List.replicate n zo)) 30)) := by
  obtain ⟨i0, hi, hz0, hz1, hz2⟩ := info_parts info_cmd
  have h := run_make (P := Try.prog) W 44 30 i0 _ Try.underlying44 hi hz0 .i64 .i64 n n (by omega) (by omega) (by rw [hz2]; omega) (by omega)
  simp only [Int.toNat_natCast] at h
  rw [h, hz1, ← rowO_made n]
  rfl
set_option maxHeartbeats 400000 in
theorem toCommand_any (op a b c : Int) (w : World) :
    Calls Try.prog 26 #[.agg #[.int .i64 op, .int .i64 a, .int .i64 b, .int .i64 c]] w fun e w' => e = .returned (.agg #[.int .i64 op, .int .i64 a, .int .i64 b, .int .i64 c]) ∧ Below w.heap.size w w' := by
  go_enter Try.func26, Try.ntmps26
  go_wp2
  refine bodyPost_ret (v := .agg #[.int .i64 op, .int .i64 a, .int .i64 b, .int .i64 c]) (by simp [results, Try.results26, go_sem]) rfl ⟨rfl, blw_⟩
set_option maxHeartbeats 400000 in
theorem toCommandS_any (A : Option Addr) (l : List CmdM) (c : Nat) (w : World) (hr : RO w A l) (hn : l.length ≤ 1048576) :
    Calls Try.prog 31 #[.slice A l.length c] w fun e w' => ∃ g, e = .returned (.slice (some ⟨g, 0, none⟩) l.length l.length) ∧ w.heap.size ≤ g ∧ g < w'.heap.size ∧ OO w' (some ⟨g, 0, none⟩) l.length l ∧ Below w.heap.size w w' := by
  have hmk := mk_cmds l.length (by omega)
  go_enter Try.func31, Try.ntmps31
  go_wp2
  clear hmk
  go_loopw [4] (fun i wr => ∃ (k : Nat) (ys : List CmdM), k ≤ l.length ∧ i = .int .i64 k ∧ Hid (ys = l.take k ++ List.replicate (l.length - k) zo) ∧ OO wr (some ⟨w.heap.size, 0, none⟩) l.length ys ∧ Below w.heap.size w wr ∧ w.heap.size < wr.heap.size) (fun i _ => l.length - (intOf i).toNat)
  case atStart =>
    exact ⟨0, List.replicate l.length zo, by omega, rfl, by simp [Hid], OO.of_blkn (by simp) (heap_alloc_new w _) (by simp only [maxLen, List.length_replicate]; omega), blw_, by simp⟩
  case round =>
    obtain ⟨k, ys, hk, rfl, HY, hO, hB, hsz⟩ := hrel
    by_cases hlt : k < l.length
    · obtain ⟨b, o, x, rfl, gx, c1, c2, c3, c4, hb⟩ := (hr.below hB).at_ hlt
      have hlen : ys.length = l.length := by rw [HY.out]; simp; omega
      obtain ⟨y, hy⟩ : ∃ y, ys[k]? = some y := ⟨_, List.getElem?_eq_getElem (by omega)⟩
      obtain ⟨g', hg', e1, e2, e3, e4, hg3⟩ := hO.at_ hy
      injection hg' with hg'
      injection hg' with hg'
      subst hg'
      have HST := Lib.hid (set_take zo gx HY.out)
      have f1 := hO.frozen (k * 4)
      have f2 := hO.frozen (k * 4 + 1)
      have f3 := hO.frozen (k * 4 + 2)
      have f4 := hO.frozen (k * 4 + 3)
      have HL := Lib.hid hlen
      have HOO := Lib.hid hO
      clear gx hr hlen hy HY hO
      obtain ⟨xo, xa, xb, xc⟩ := x
      dsimp only at c1 c2 c3 c4
      go_wp2_with (go_at_call 26; refine (toCommand_any _ _ _ _ _).mono ?_; rintro e w' ⟨rfl, hB2⟩; obtain ⟨hbc, hbf, hbz⟩ := bcell hB2)
      go_roundw
      case rel =>
        refine ⟨k + 1, ys.set k ⟨xo, xa, xb, xc⟩, by omega, by go_num, HST.out, (HOO.out.below hB2).set_ k ⟨xo, xa, xb, xc⟩ (by rw [HL.out]; exact hlt), blw_, by simp; omega⟩
      case measure => simp [intOf]; omega
    · have hke : k = l.length := by omega
      have HK := Lib.hid hke
      clear hke
      go_wp2
      go_ret
      have h1 : ys = l := by rw [HY.out, HK.out]; simp
      exact ⟨_, rfl, Nat.le_refl _, hsz, h1 ▸ hO, hB⟩
set_option maxHeartbeats 400000 in
theorem eqCommand_any (x y : CmdM) (w : World) :
    Calls Try.prog 82 #[.agg #[.int .i64 x.op, .int .i64 x.a, .int .i64 x.b, .int .i64 x.c], .agg #[.int .i64 y.op, .int .i64 y.a, .int .i64 y.b, .int .i64 y.c]] w fun e w' => e = .returned (.bool (eqB x y)) ∧ Below w.heap.size w w' := by
  obtain ⟨x0, x1, x2, x3⟩ := x
  obtain ⟨y0, y1, y2, y3⟩ := y
  dsimp only
  have bad : x0 ≠ y0 ∨ x1 ≠ y1 ∨ x2 ≠ y2 ∨ x3 ≠ y3 → eqB (⟨x0, x1, x2, x3⟩ : CmdM) ⟨y0, y1, y2, y3⟩ = false := fun h => eqB_ne fun e => by
    injection e with e0 e1 e2 e3
    rcases h with h | h | h | h <;> contradiction
  by_cases h0 : x0 = y0
  · have g0 : (x0 != y0) = false := by simp [h0]
    by_cases h1 : x1 = y1
    · have g1 : (x1 != y1) = false := by simp [h1]
      by_cases h2 : x2 = y2
      · have g2 : (x2 != y2) = false := by simp [h2]
        by_cases h3 : x3 = y3
        · have g3 : (x3 != y3) = false := by simp [h3]
          have HB : Hid (eqB (⟨x0, x1, x2, x3⟩ : CmdM) ⟨y0, y1, y2, y3⟩ = true) := eqB_of (by rw [h0, h1, h2, h3])
          clear h0 h1 h2 h3 bad
          go_enter Try.func82, Try.ntmps82
          go_wp2
          go_ret
          exact ⟨ret_bool HB.out.symm, blw_⟩
        · have g3 : (x3 != y3) = true := by simp [h3]
          have HB := Lib.hid (bad (.inr (.inr (.inr h3))))
          clear h0 h1 h2 h3 bad
          go_enter Try.func82, Try.ntmps82
          go_wp2
          go_ret
          exact ⟨ret_bool HB.out.symm, blw_⟩
      · have g2 : (x2 != y2) = true := by simp [h2]
        have HB := Lib.hid (bad (.inr (.inr (.inl h2))))
        clear h0 h1 h2 bad
        go_enter Try.func82, Try.ntmps82
        go_wp2
        go_ret
        exact ⟨ret_bool HB.out.symm, blw_⟩
    · have g1 : (x1 != y1) = true := by simp [h1]
      have HB := Lib.hid (bad (.inr (.inl h1)))
      clear h0 h1 bad
      go_enter Try.func82, Try.ntmps82
      go_wp2
      go_ret
      exact ⟨ret_bool HB.out.symm, blw_⟩
  · have g0 : (x0 != y0) = true := by simp [h0]
    have HB := Lib.hid (bad (.inl h0))
    clear h0 bad
    go_enter Try.func82, Try.ntmps82
    go_wp2
    go_ret
    exact ⟨ret_bool HB.out.symm, blw_⟩
set_option maxHeartbeats 400000 in
theorem eqCommandS_any (A A' : Option Addr) (xs ys : List CmdM) (c c' : Nat) (w : World) (hx : RO w A xs) (hy : RO w A' ys) (hn : xs.length ≤ 9223372036854775807) (hn2 : ys.length ≤ 9223372036854775807) :
    Calls Try.prog 32 #[.slice A xs.length c, .slice A' ys.length c'] w fun e w' => e = .returned (.bool (eqB xs ys)) ∧ Below w.heap.size w w' := by
  by_cases hl : xs.length = ys.length
  · have HL := Lib.hid hl
    have hl2 : ((xs.length : Int) != (ys.length : Int)) = false := by simp [hl]
    have hl3 : xs.length ≤ ys.length := by omega
    clear hl
    go_enter Try.func32, Try.ntmps32
    go_wp2
    go_loopw [5] (fun i wr => ∃ (k : Nat), k ≤ xs.length ∧ i = .int .i64 k ∧ Hid (xs.take k = ys.take k) ∧ Below w.heap.size w wr) (fun i _ => xs.length - (intOf i).toNat)
    case atStart => exact ⟨0, by omega, rfl, rfl, Below.refl _ _⟩
    case round =>
      obtain ⟨k, hk, rfl, HT, hB⟩ := hrel
      clear hl2
      by_cases hlt : k < xs.length
      · obtain ⟨b, o, x, rfl, gx, c1, c2, c3, c4, hb⟩ := (hx.below hB).at_ hlt
        obtain ⟨b', o', y, rfl, gy, d1, d2, d3, d4, hb'⟩ := (hy.below hB).at_ (k := k) (by omega)
        have GX := Lib.hid gx
        have GY := Lib.hid gy
        clear gx gy hx hy
        have i1 : (0 : Int) ≤ (k : Int) := by omega
        have i2 : (k : Int) < (xs.length : Int) := by omega
        have i3 : (k : Int) < (ys.length : Int) := by omega
        cases he : eqB x y
        all_goals
          have HE := Lib.hid he
          have hBz := hB.size
          go_wp2
          go_still_tail 8, (by kernel_rfl)
          change wpList _ _ _ _ _ wr.drew
          go_wp2_with (go_at_call 82; refine (eqCommand_any x y _).mono ?_; rw [HE.out]; rintro e w' ⟨rfl, hB2⟩)
        · go_ret
          exact ⟨ret_bool (eqB_ne (ne_of_get GX.out GY.out (eqB_false HE.out))).symm, blw_⟩
        · go_roundw
          case rel => exact ⟨k + 1, by omega, by go_num, take_eq_step HT.out GX.out GY.out (eqB_iff.1 HE.out), blw_⟩
          case measure => simp [intOf]; omega
      · have hke : k = xs.length := by omega
        have HK := Lib.hid hke
        clear hke
        go_wp2
        go_ret
        refine ⟨ret_bool ?_, hB⟩
        have h1 := HT.out
        rw [HK.out, List.take_length, HL.out, List.take_length] at h1
        exact (eqB_of h1).symm
  · have hl2 : ((xs.length : Int) != (ys.length : Int)) = true := by simp; omega
    go_enter Try.func32, Try.ntmps32
    go_wp2
    go_ret
    exact ⟨ret_bool (eqB_ne (fun e => hl (by rw [e]))).symm, Below.refl _ _⟩
set_option maxHeartbeats 4000000 in
theorem markCommandS_any (A : Option Addr) (xs : List CmdM) (c : Nat) (k : Int) (w : World) (ho : OO w A c xs) (hl : xs.length ≤ 1048576) (hk0 : 0 ≤ k) (hk1 : k ≤ 1125899906842624) :
    Calls Try.prog 33 #[.slice A xs.length c, .int .i64 k] w fun e w' => e = .returned (.int .i64 (k + 4 * (xs.length : Int))) ∧ Only (blk A) w w' := by
  go_enter Try.func33, Try.ntmps33
  go_wp2
  go_loopw [1, 5] (fun q i wr => ∃ (j : Nat) (ys : List CmdM), j ≤ xs.length ∧ q = .int .i64 (k + 4 * (j : Int)) ∧ i = .int .i64 j ∧ ys.length = xs.length ∧ OO wr A c ys ∧ Only (blk A) w wr) (fun _ i _ => xs.length - (intOf i).toNat)
  case atStart => exact ⟨0, xs, by omega, by simp, rfl, rfl, ho, Only.refl _ _⟩
  case round =>
    obtain ⟨j, ys, hj, rfl, rfl, hyl, hO, hOn⟩ := hrel
    by_cases hlt : j < xs.length
    · obtain ⟨g, rfl, hg⟩ := ho.some_ hlt
      obtain ⟨y, hy⟩ : ∃ y, ys[j]? = some y := ⟨_, List.getElem?_eq_getElem (by omega)⟩
      obtain ⟨g', hg', e1, e2, e3, e4, hg3⟩ := hO.at_ hy
      injection hg' with hg'
      injection hg' with hg'
      subst hg'
      have f1 := hO.frozen (j * 4)
      have f2 := hO.frozen (j * 4 + 1)
      have f3 := hO.frozen (j * 4 + 2)
      have f4 := hO.frozen (j * 4 + 3)
      have HL := Lib.hid hyl
      clear hy hyl
      go_wp2
      go_roundw
      case rel =>
        refine ⟨j + 1, ys.set j ⟨k + 4 * (j : Int), k + 4 * (j : Int) + 1, k + 4 * (j : Int) + 2, k + 4 * (j : Int) + 3⟩, by omega, by go_num, by go_num, by rw [List.length_set]; exact HL.out, ?_, (((hOn.setCell (.inl (by simp [blk])) _).setCell (.inl (by simp [blk])) _).setCell (.inl (by simp [blk])) _).setCell (.inl (by simp [blk])) _⟩
        have h9 := hO.set_ j ⟨k + 4 * (j : Int), k + 4 * (j : Int) + 1, k + 4 * (j : Int) + 2, k + 4 * (j : Int) + 3⟩ (by rw [HL.out]; exact hlt)
        simpa [Int.add_assoc] using h9
      case measure => simp [intOf]; omega
    · have hke : j = xs.length := by omega
      go_wp2
      go_ret
      exact ⟨ret_int (by rw [hke]), hOn⟩
set_option maxHeartbeats 400000 in
theorem szCommandS_any (A : Option Addr) (n c : Nat) (left : Int) (w : World) (hn : n ≤ 9223372036854775807) (h0 : 0 ≤ left) (h1 : left ≤ 1048576) :
    Calls Try.prog 30 #[.slice A n c, .int .i64 left] w fun e w' => e = .returned (.int .i64 (szI n left)) ∧ w = w' := by
  by_cases h : left - n < 0
  · go_enter Try.func30, Try.ntmps30
    go_wp2
    go_ret
    exact ⟨ret_int (by simp [szI, h]), rfl⟩
  · go_enter Try.func30, Try.ntmps30
    go_wp2
    go_ret
    exact ⟨ret_int (by rw [szI, if_neg (by omega)]), rfl⟩
end Go.Proofs.Ytbnokkdhanlhpaa
