/- Copies: clone, copyHeap, l7Copy and their kin return new memory that reads as the argument does. -/
import Derived.Test.YtkmfhadanbfadaaChecked
import Derived.Deep.RegionHeld3
import Derived.Deep.DeepCutAuto
import Derived.IntWalk
import Derived.Test.YtkmfhadanbfadaaApp
namespace Go.Proofs.Ytkmfhadanbfadaa
open Go.RowKit
set_option maxRecDepth 100000
set_option linter.unusedSimpArgs false
set_option linter.unusedVariables false

theorem OF.empty {α : Type} {T : TypeId} {f : α → Value} {w : World} {n : Nat} {zs : List α} (hz : zs.length = n) (hn : n ≤ maxLen) :
    OF T f (w.alloc (.cells (rowF f zs) T)) (some ⟨w.heap.size, 0, none⟩) n ([] : List α) :=
  World.ownsRow_made w _ n (Nat.zero_le _) hn (by rw [rowF_size, hz, Nat.mul_one])
theorem mk0_ints (n : Nat) (hn : n ≤ 1099511627776) (W : World) :
    (Instr.makeSlice 23 (.int .i64 0) (.int .i64 (n : Int))).run Try.prog W = .ok (.slice (some ⟨W.heap.size, 0, none⟩) 0 n) (W.alloc (.cells (rowF fi (List.replicate n 0)) 3)) := by
  obtain ⟨i0, hi, hz0, hz1, hz2⟩ := info_parts info_int
  have h := run_make (P := Try.prog) W 23 3 i0 _ Try.underlying23 hi hz0 .i64 .i64 0 n (by omega) (by omega) (by rw [hz2]; omega) (by omega)
  simp only [Int.toNat_natCast, Int.toNat_zero] at h
  rw [h, hz1, Nat.mul_one, ← rowF_made fi 0 n rfl]
  rfl
set_option maxHeartbeats 400000 in
theorem cloneInt_any (A : Option Addr) (xs : List Int) (c : Nat) (w : World) (hr : RF fi w A xs) (hn : xs.length ≤ 1099511627776) :
    Calls Try.prog 140 #[.slice A xs.length c] w fun e w' => ∃ S k, e = .returned (.slice S xs.length k) ∧ OF 3 fi w' S k xs ∧ (∀ g ∈ blk S, w.heap.size ≤ g) ∧ Below w.heap.size w w' := by
  have hmk := mk0_ints xs.length hn
  have h0 := OF.empty (T := 3) (f := fi) (w := w) (n := xs.length) (zs := List.replicate xs.length 0) (by simp) (by simp only [maxLen]; omega)
  obtain ⟨S, k, w', hrun, ho, hO, hg⟩ := app_ints 23 h0 c (hr.below (by repeat (first | ((with_reducible refine Below.setc ?_ ?_ _); focus (first | omega | (simp; done) | (simp; omega))) | ((with_reducible refine Below.allocc ?_ ?_ _); focus (first | omega | (simp; done) | (simp; omega))) | (with_reducible refine Below.drew ?_) | (with_reducible refine Below.drewn ?_) | (with_reducible assumption) | (with_reducible exact Below.refl _ _) | ((with_reducible refine Below.stepp (by with_reducible assumption) ?_ ?_); focus (first | omega | (simp; done) | (simp; omega)))))) (by simp; omega)
  have hB : Below w.heap.size w w' := Below.trans (by repeat (first | ((with_reducible refine Below.setc ?_ ?_ _); focus (first | omega | (simp; done) | (simp; omega))) | ((with_reducible refine Below.allocc ?_ ?_ _); focus (first | omega | (simp; done) | (simp; omega))) | (with_reducible refine Below.drew ?_) | (with_reducible refine Below.drewn ?_) | (with_reducible assumption) | (with_reducible exact Below.refl _ _) | ((with_reducible refine Below.stepp (by with_reducible assumption) ?_ ?_); focus (first | omega | (simp; done) | (simp; omega))))) (hO.below (by simp) (fun g hg => by rw [mem_blk_some hg]; exact Nat.le_refl _))
  have hg' : ∀ g ∈ blk S, w.heap.size ≤ g := fun g h => by
    rcases hg g h with h | h
    · rw [mem_blk_some h]; exact Nat.le_refl _
    · simp at h; omega
  clear hO hg
  go_enter Try.func140, Try.ntmps140
  go_wp2_with (at_builtin; refine wpList_ran rfl (.tmp 5) (.tmp 6) _ rfl rfl rfl hrun ?_)
  go_ret
  exact ⟨S, k, by simp, by simpa using ho, hg', hB⟩
theorem mk0_cells (n : Nat) (hn : n ≤ 1099511627776) (W : World) :
    (Instr.makeSlice 30 (.int .i64 0) (.int .i64 ((n : Int) + 1))).run Try.prog W = .ok (.slice (some ⟨W.heap.size, 0, none⟩) 0 (n + 1)) (W.alloc (.cells (rowC (List.replicate (n + 1) zc)) 114)) := by
  obtain ⟨i0, hi, hz0, hz1, hz2⟩ := info_parts info_cell
  have h := run_make (P := Try.prog) W 30 114 i0 _ Try.underlying30 hi hz0 .i64 .i64 0 (n + 1) (by omega) (by omega) (by rw [hz2]; omega) (by omega)
  simp only [Int.toNat_zero] at h
  rw [show ((n : Int) + 1).toNat = n + 1 by omega] at h
  rw [h, hz1, ← rowC_made (n + 1)]
  rfl
theorem OC.empty {w : World} {n : Nat} (hn : n ≤ maxLen) : OC (w.alloc (.cells (rowC (List.replicate n zc)) 114)) (some ⟨w.heap.size, 0, none⟩) n [] :=
  ⟨World.ownsRow_made w _ n (Nat.zero_le _) hn (by simp only [rowC, List.size_toArray, flat3_len, List.length_replicate]), fun o ho => by cases ho⟩
theorem heap_drew_ (w : World) : w.drew.heap = w.heap := rfl
theorem heap_alloc_at (w : World) (o : Obj) (n : Nat) (hn : n = w.heap.size) : (w.alloc o).heap[n]? = some o := by subst hn; exact heap_alloc_new w o
theorem OC.zero_ {w : World} {g n : Nat} (h : w.heap[g]? = some (.cells (rowC (List.replicate n zc)) 114)) (hn : n ≤ maxLen) : OC w (some ⟨g, 0, none⟩) n [] :=
  ⟨⟨by simp, .inr ⟨g, n, _, rfl, Nat.zero_le _, h, Nat.zero_le _, hn, by simp only [rowC, List.size_toArray, flat3_len, List.length_replicate], by simp⟩⟩, fun o ho => by cases ho⟩
theorem OC_OF_apart {w : World} {A A' : Option Addr} {c c' : Nat} {os : List OCell} {xs : List Int} (h : OC w A c os) (h' : OF 3 fi w A' c' xs) : ∀ g ∈ blk A', g ∉ blk A := h.apart h'
set_option maxHeartbeats 4000000 in
theorem copyHeap_any (v : Value) (h : HeapM) (w : World) (hv : RH w v h) (hn : h.cells.length ≤ 1048576) (hr : ∀ d ∈ h.cells, d.refs.length ≤ 1048576) (hn2 : h.roots.length ≤ 1048576) :
    Calls Try.prog 124 #[v] w fun e w' => ∃ v', e = .returned v' ∧ OH w.heap.size w' v' h ∧ Below w.heap.size w w' := by
  obtain ⟨A, c, A', c', rfl, hc, hrr, -, -⟩ := hv
  have hmk := mk0_cells h.cells.length (by omega)
  have k0 : ((w.alloc (.cells #[.slice A h.cells.length c, .slice A' h.roots.length c'] 32)).alloc (.cells #[.slice none 0 0, .slice none 0 0] 32)).cell? ⟨w.heap.size, 0, none⟩ = some (.slice A h.cells.length c) := by simp [go_sem]
  have k1 : ((w.alloc (.cells #[.slice A h.cells.length c, .slice A' h.roots.length c'] 32)).alloc (.cells #[.slice none 0 0, .slice none 0 0] 32)).cell? ⟨w.heap.size, 1, none⟩ = some (.slice A' h.roots.length c') := by simp [go_sem]
  have k2 : ((w.alloc (.cells #[.slice A h.cells.length c, .slice A' h.roots.length c'] 32)).alloc (.cells #[.slice none 0 0, .slice none 0 0] 32)).cell? ⟨w.heap.size + 1, 0, none⟩ = some (.slice none 0 0) := by simp [go_sem]
  have k3 : ((w.alloc (.cells #[.slice A h.cells.length c, .slice A' h.roots.length c'] 32)).alloc (.cells #[.slice none 0 0, .slice none 0 0] 32)).cell? ⟨w.heap.size + 1, 1, none⟩ = some (.slice none 0 0) := by simp [go_sem]
  have k4 : ((w.alloc (.cells #[.slice A h.cells.length c, .slice A' h.roots.length c'] 32)).alloc (.cells #[.slice none 0 0, .slice none 0 0] 32)).frozen? ⟨w.heap.size + 1, 0, none⟩ = false := by simp [go_sem]
  have k5 : ((w.alloc (.cells #[.slice A h.cells.length c, .slice A' h.roots.length c'] 32)).alloc (.cells #[.slice none 0 0, .slice none 0 0] 32)).frozen? ⟨w.heap.size + 1, 1, none⟩ = false := by simp [go_sem]
  go_enter Try.func124, Try.ntmps124
  go_upto_region 1 with fail
  go_cut [3, 10, 13] (fun s3 s10 s13 wx => ∃ b3 g S k, s3 = .pointer (some ⟨b3, 0, none⟩) ∧ s10 = .slice (some ⟨g, 0, none⟩) 0 (h.cells.length + 1) ∧ s13 = .slice S h.roots.length k ∧ w.heap.size + 2 ≤ b3 ∧ wx.cell? ⟨b3, 0, none⟩ = some (.slice (some ⟨g, 0, none⟩) 0 (h.cells.length + 1)) ∧ wx.cell? ⟨b3, 1, none⟩ = some (.slice S h.roots.length k) ∧
    wx.frozen? ⟨b3, 0, none⟩ = false ∧ OC wx (some ⟨g, 0, none⟩) (h.cells.length + 1) [] ∧ OF 3 fi wx S k h.roots ∧ (∀ x ∈ blk S, w.heap.size + 2 ≤ x) ∧ w.heap.size + 2 ≤ g ∧ b3 < wx.heap.size ∧ g ≠ b3 ∧ b3 ∉ blk S ∧ Below (w.heap.size + 2) ((w.alloc (.cells #[.slice A h.cells.length c, .slice A' h.roots.length c'] 32)).alloc (.cells #[.slice none 0 0, .slice none 0 0] 32)) wx)
  case first =>
    have hwr : IntKind.i64.wrap ((h.cells.length : Int) + 1) = (h.cells.length : Int) + 1 := IntWalk.i64_in _ (by omega)
    go_region_held3 (fun w' => w'.cell? ⟨w.heap.size, 0, none⟩ = some (.slice A h.cells.length c) ∧ w'.cell? ⟨w.heap.size, 1, none⟩ = some (.slice A' h.roots.length c'))
      (first | exact ⟨cell_below k0 (by repeat (first | ((with_reducible refine Below.setc ?_ ?_ _); focus (first | omega | (simp; done) | (simp; omega))) | ((with_reducible refine Below.allocc ?_ ?_ _); focus (first | omega | (simp; done) | (simp; omega))) | (with_reducible refine Below.drew ?_) | (with_reducible refine Below.drewn ?_) | (with_reducible assumption) | (with_reducible exact Below.refl _ _) | ((with_reducible refine Below.stepp (by with_reducible assumption) ?_ ?_); focus (first | omega | (simp; done) | (simp; omega))))), cell_below k1 (by repeat (first | ((with_reducible refine Below.setc ?_ ?_ _); focus (first | omega | (simp; done) | (simp; omega))) | ((with_reducible refine Below.allocc ?_ ?_ _); focus (first | omega | (simp; done) | (simp; omega))) | (with_reducible refine Below.drew ?_) | (with_reducible refine Below.drewn ?_) | (with_reducible assumption) | (with_reducible exact Below.refl _ _) | ((with_reducible refine Below.stepp (by with_reducible assumption) ?_ ?_); focus (first | omega | (simp; done) | (simp; omega)))))⟩)
      (first | (go_at_call 140; refine (cloneInt_any _ h.roots _ _ (hrr.below (by repeat (first | ((with_reducible refine Below.setc ?_ ?_ _); focus (first | omega | (simp; done) | (simp; omega))) | ((with_reducible refine Below.allocc ?_ ?_ _); focus (first | omega | (simp; done) | (simp; omega))) | (with_reducible refine Below.drew ?_) | (with_reducible refine Below.drewn ?_) | (with_reducible assumption) | (with_reducible exact Below.refl _ _) | ((with_reducible refine Below.stepp (by with_reducible assumption) ?_ ?_); focus (first | omega | (simp; done) | (simp; omega)))))) (by omega)).mono ?_; rintro e wb ⟨S, k, rfl, hS, hgS, hBb⟩; (have z_hBb := Below.size hBb); (try simp only [World.size_alloc, World.size_setCell, World.size_drew, World.heap_drewN] at z_hBb); obtain ⟨hbc, hbf, -⟩ := bcell hBb; try (have u2 : w.heap.size + 1 + 1 < wb.heap.size := (by omega))))
    all_goals
      clear hwr
      go_wp2_with fail
      go_meet
      refine ⟨_, _, S, k, rfl, rfl, rfl, by omega, ?_, ?_, ?_, OC.zero_ ?_ (by simp only [maxLen]; omega), ?_, ?_, by omega, by first | omega | (simp; done) | (simp; omega), by omega, ?_, ?_⟩
      · first | (simp [go_sem, hbc]; done) | (simp [go_sem, hbc, u2]; done) | (simp [go_sem, hbc, Nat.ne_of_lt u2]; done)
      · first | (simp [go_sem, hbc]; done) | (simp [go_sem, hbc, u2]; done) | (simp [go_sem, hbc, Nat.ne_of_lt u2]; done)
      · first | (simp [go_sem, hbf]; done) | (simp [go_sem, hbf, u2]; done) | (simp [go_sem, hbf, Nat.ne_of_lt u2]; done)
      · (repeat (first | rw [heap_drew_] | exact heap_alloc_at _ _ _ (by first | rfl | (simp; done) | (simp; omega)) | rw [heap_setCell_ne _ _ _ (by first | omega | (simp; done) | (simp; omega))] | rw [Below.block hBb _ (by first | omega | (simp; done) | (simp; omega))] | rw [Below.heap_alloc _ _ _ (by first | omega | (simp; done) | (simp; omega))]))
      · refine hS.keep fun b hb => ?_
        have h1 := hS.lt b hb
        have h2 := hgS b hb
        simp at h2
        (repeat (first | rw [heap_setCell_ne _ _ _ (by first | omega | (simp; done) | (simp; omega))] | rw [Below.block hBb _ (by first | omega | (simp; done) | (simp; omega))] | rw [Below.heap_alloc _ _ _ (by first | omega | (simp; done) | (simp; omega))]))
      · intro x hx
        have h2 := hgS x hx
        simp at h2
        omega
      · intro hx
        have h1 := hS.lt _ hx
        have h2 := hgS _ hx
        simp at h2
        omega
      · exact (by repeat (first | ((with_reducible refine Below.setc ?_ ?_ _); focus (first | omega | (simp; done) | (simp; omega))) | ((with_reducible refine Below.allocc ?_ ?_ _); focus (first | omega | (simp; done) | (simp; omega))) | (with_reducible refine Below.drew ?_) | (with_reducible refine Below.drewn ?_) | (with_reducible assumption) | (with_reducible exact Below.refl _ _) | ((with_reducible refine Below.stepp (by with_reducible assumption) ?_ ?_); focus (first | omega | (simp; done) | (simp; omega)))))
  case rest =>
    obtain ⟨b3, g, S, k, rfl, rfl, rfl, hb3, q0, q1, q2, hO, hR, hSl, hg, hb3w, hne, hnS, hB⟩ := hcut
    have k0c := cell_below k0 (hB.mono (by simp))
    have hO0 : OHs wc (some ⟨g, 0, none⟩) (h.cells.length + 1) S k [] h.roots := ⟨hO, hR, by
      have := OC_OF_apart hO hR
      simp only [List.nodup_append, List.mem_append, blks, List.flatMap_nil, List.append_nil]
      exact ⟨blk_nodup _, blk_nodup _, fun a ha b hb e => this b hb (e ▸ ha)⟩, by simp, by omega⟩
    have hlo : ∀ x ∈ hblks (some ⟨g, 0, none⟩) [] S, w.heap.size + 2 ≤ x ∧ x ≠ b3 := by
      intro x hx
      simp only [hblks, blks, List.flatMap_nil, List.append_nil, List.mem_append] at hx
      rcases hx with hx | hx
      · obtain rfl := mem_blk_some hx
        exact ⟨hg, hne⟩
      · exact ⟨hSl x hx, fun e => hnS (e ▸ hx)⟩
    clear hO hR hSl hg hne hnS
    go_wp2
    go_loopw [18] (fun i wr => ∃ (j : Nat) (os : List OCell) (SA : Option Addr) (c1 : Nat), j ≤ h.cells.length ∧ i = .int .i64 j ∧ Hid (os.map (·.c) = h.cells.take j) ∧ wr.cell? ⟨b3, 0, none⟩ = some (.slice SA os.length c1) ∧ wr.cell? ⟨b3, 1, none⟩ = some (.slice S h.roots.length k) ∧
      wr.frozen? ⟨b3, 0, none⟩ = false ∧ OHs wr SA c1 S k os h.roots ∧ (∀ x ∈ hblks SA os S, w.heap.size + 2 ≤ x ∧ x ≠ b3) ∧ b3 < wr.heap.size ∧ Below (w.heap.size + 2) ((w.alloc (.cells #[.slice A h.cells.length c, .slice A' h.roots.length c'] 32)).alloc (.cells #[.slice none 0 0, .slice none 0 0] 32)) wr) (fun i _ => h.cells.length - (intOf i).toNat)
    case atStart => exact ⟨0, [], _, _, by omega, rfl, rfl, q0, q1, q2, hO0, hlo, hb3w, hB⟩
    case round =>
      clear hB q0 q1 q2 hO0 hlo hb3w k0c
      obtain ⟨j, os, SA, c1, hj, rfl, HM, q0, q1, q2, hO, hlo, hb3w, hB⟩ := hrel
      have hBw : Below w.heap.size w wr := Below.trans (by repeat (first | ((with_reducible refine Below.setc ?_ ?_ _); focus (first | omega | (simp; done) | (simp; omega))) | ((with_reducible refine Below.allocc ?_ ?_ _); focus (first | omega | (simp; done) | (simp; omega))) | (with_reducible refine Below.drew ?_) | (with_reducible refine Below.drewn ?_) | (with_reducible assumption) | (with_reducible exact Below.refl _ _) | ((with_reducible refine Below.stepp (by with_reducible assumption) ?_ ?_); focus (first | omega | (simp; done) | (simp; omega))))) (hB.mono (by omega))
      have hzw : w.heap.size + 1 < wr.heap.size := by have := hB.size; simp at this; omega
      have hjl : os.length = j := by have := congrArg List.length HM.out; simp at this; omega
      by_cases hlt : j < h.cells.length
      · obtain ⟨b, o, x, Ar, cr, rfl, gx, x0, x1, x2, hrx, hlx, hb⟩ := (hc.below hBw).at_ hlt
        have hrl := hr x (List.mem_of_getElem? gx)
        have GX := Lib.hid gx
        have HB := Lib.hid hB
        have HW := Lib.hid hBw
        have hol : os.length ≤ 1099511627776 := by omega
        have HJ := Lib.hid hjl
        clear gx hB hBw hmk k0 k1 k2 k3 k4 k5 hc hrr hjl
        have u0 : wr.heap.size ∉ blk SA := fun hx => absurd (hO.cells.lt _ (List.mem_append.2 (.inl hx))) (by omega)
        have u1 : b3 ∉ blk SA := fun hx => (hlo b3 (List.mem_append.2 (.inl (List.mem_append.2 (.inl hx))))).2 rfl
        have p0 : (wr.alloc (.cells #[.bool x.used, .int .i64 x.data, .slice Ar x.refs.length cr] 114)).cell? ⟨wr.heap.size, 0, none⟩ = some (.bool x.used) := by simp [go_sem]
        have p1 : (wr.alloc (.cells #[.bool x.used, .int .i64 x.data, .slice Ar x.refs.length cr] 114)).cell? ⟨wr.heap.size, 1, none⟩ = some (.int .i64 x.data) := by simp [go_sem]
        have p2 : (wr.alloc (.cells #[.bool x.used, .int .i64 x.data, .slice Ar x.refs.length cr] 114)).cell? ⟨wr.heap.size, 2, none⟩ = some (.slice Ar x.refs.length cr) := by simp [go_sem]
        go_upto_region 5 with fail
        change Code.wp _ (Code.region _ #[_, id _, _, _, _, _, _, _, _, _, _, _, _, _] true) _ _ _
        go_region_held3 (fun w' => w'.cell? ⟨wr.heap.size, 0, none⟩ = some (.bool x.used) ∧ w'.cell? ⟨wr.heap.size, 1, none⟩ = some (.int .i64 x.data) ∧ w'.cell? ⟨wr.heap.size, 2, none⟩ = some (.slice Ar x.refs.length cr))
          (first | exact ⟨v3 _, v4 _, v5 _⟩ | exact ⟨r0, r1, r2⟩ | exact ⟨cell_below p0 (by repeat (first | ((with_reducible refine Below.setc ?_ ?_ _); focus (first | omega | (simp; done) | (simp; omega))) | ((with_reducible refine Below.allocc ?_ ?_ _); focus (first | omega | (simp; done) | (simp; omega))) | (with_reducible refine Below.drew ?_) | (with_reducible refine Below.drewn ?_) | (with_reducible assumption) | (with_reducible exact Below.refl _ _) | ((with_reducible refine Below.stepp (by with_reducible assumption) ?_ ?_); focus (first | omega | (simp; done) | (simp; omega))))), cell_below p1 (by repeat (first | ((with_reducible refine Below.setc ?_ ?_ _); focus (first | omega | (simp; done) | (simp; omega))) | ((with_reducible refine Below.allocc ?_ ?_ _); focus (first | omega | (simp; done) | (simp; omega))) | (with_reducible refine Below.drew ?_) | (with_reducible refine Below.drewn ?_) | (with_reducible assumption) | (with_reducible exact Below.refl _ _) | ((with_reducible refine Below.stepp (by with_reducible assumption) ?_ ?_); focus (first | omega | (simp; done) | (simp; omega))))), cell_below p2 (by repeat (first | ((with_reducible refine Below.setc ?_ ?_ _); focus (first | omega | (simp; done) | (simp; omega))) | ((with_reducible refine Below.allocc ?_ ?_ _); focus (first | omega | (simp; done) | (simp; omega))) | (with_reducible refine Below.drew ?_) | (with_reducible refine Below.drewn ?_) | (with_reducible assumption) | (with_reducible exact Below.refl _ _) | ((with_reducible refine Below.stepp (by with_reducible assumption) ?_ ?_); focus (first | omega | (simp; done) | (simp; omega)))))⟩)
          (first
            | (go_at_call 140; refine (cloneInt_any _ x.refs _ _ (hrx.below (by repeat (first | ((with_reducible refine Below.setc ?_ ?_ _); focus (first | omega | (simp; done) | (simp; omega))) | ((with_reducible refine Below.allocc ?_ ?_ _); focus (first | omega | (simp; done) | (simp; omega))) | (with_reducible refine Below.drew ?_) | (with_reducible refine Below.drewn ?_) | (with_reducible assumption) | (with_reducible exact Below.refl _ _) | ((with_reducible refine Below.stepp (by with_reducible assumption) ?_ ?_); focus (first | omega | (simp; done) | (simp; omega)))))) (by omega)).mono ?_; rintro e wb ⟨S2, k2, rfl, hS2, hgS2, hBb⟩; (have z_hBb := Below.size hBb); (try simp only [World.size_alloc, World.size_setCell, World.size_drew, World.heap_drewN] at z_hBb); have u9 : b3 < wb.heap.size := (by omega); have u8 : wr.heap.size < wb.heap.size := (by omega); have v0 := cell_below q0 (w' := wb) (by repeat (first | ((with_reducible refine Below.setc ?_ ?_ _); focus (first | omega | (simp; done) | (simp; omega))) | ((with_reducible refine Below.allocc ?_ ?_ _); focus (first | omega | (simp; done) | (simp; omega))) | (with_reducible refine Below.drew ?_) | (with_reducible refine Below.drewn ?_) | (with_reducible assumption) | (with_reducible exact Below.refl _ _) | ((with_reducible refine Below.stepp (by with_reducible assumption) ?_ ?_); focus (first | omega | (simp; done) | (simp; omega))))); have v1 : wb.frozen? ⟨b3, 0, none⟩ = false := ((bcell (w := wr) (w' := wb) (by repeat (first | ((with_reducible refine Below.setc ?_ ?_ _); focus (first | omega | (simp; done) | (simp; omega))) | ((with_reducible refine Below.allocc ?_ ?_ _); focus (first | omega | (simp; done) | (simp; omega))) | (with_reducible refine Below.drew ?_) | (with_reducible refine Below.drewn ?_) | (with_reducible assumption) | (with_reducible exact Below.refl _ _) | ((with_reducible refine Below.stepp (by with_reducible assumption) ?_ ?_); focus (first | omega | (simp; done) | (simp; omega)))))).2.1 _ _ hb3w).trans q2)
            | (refine step_appc rfl (.tmp 23) (.tmp 32) rfl rfl rfl (hO.cells.below (by repeat (first | ((with_reducible refine Below.setc ?_ ?_ _); focus (first | omega | (simp; done) | (simp; omega))) | ((with_reducible refine Below.allocc ?_ ?_ _); focus (first | omega | (simp; done) | (simp; omega))) | (with_reducible refine Below.drew ?_) | (with_reducible refine Below.drewn ?_) | (with_reducible assumption) | (with_reducible exact Below.refl _ _) | ((with_reducible refine Below.stepp (by with_reducible assumption) ?_ ?_); focus (first | omega | (simp; done) | (simp; omega)))))) ⟨⟨x.used, x.data, x.refs⟩, S2, k2⟩ (hS2.below (by repeat (first | ((with_reducible refine Below.setc ?_ ?_ _); focus (first | omega | (simp; done) | (simp; omega))) | ((with_reducible refine Below.allocc ?_ ?_ _); focus (first | omega | (simp; done) | (simp; omega))) | (with_reducible refine Below.drew ?_) | (with_reducible refine Below.drewn ?_) | (with_reducible assumption) | (with_reducible exact Below.refl _ _) | ((with_reducible refine Below.stepp (by with_reducible assumption) ?_ ?_); focus (first | omega | (simp; done) | (simp; omega)))))) (by omega) (by simp [go_sem]) (by simp [go_sem]) (by simp [go_sem]) hol ?_
               intro S5 c5 w5 hC5 hOn5 hg5
               have r0 : w5.cell? ⟨wr.heap.size, 0, none⟩ = some (.bool x.used) := hOn5.cell (cell_below p0 (by repeat (first | ((with_reducible refine Below.setc ?_ ?_ _); focus (first | omega | (simp; done) | (simp; omega))) | ((with_reducible refine Below.allocc ?_ ?_ _); focus (first | omega | (simp; done) | (simp; omega))) | (with_reducible refine Below.drew ?_) | (with_reducible refine Below.drewn ?_) | (with_reducible assumption) | (with_reducible exact Below.refl _ _) | ((with_reducible refine Below.stepp (by with_reducible assumption) ?_ ?_); focus (first | omega | (simp; done) | (simp; omega)))))) u0
               have r1 : w5.cell? ⟨wr.heap.size, 1, none⟩ = some (.int .i64 x.data) := hOn5.cell (cell_below p1 (by repeat (first | ((with_reducible refine Below.setc ?_ ?_ _); focus (first | omega | (simp; done) | (simp; omega))) | ((with_reducible refine Below.allocc ?_ ?_ _); focus (first | omega | (simp; done) | (simp; omega))) | (with_reducible refine Below.drew ?_) | (with_reducible refine Below.drewn ?_) | (with_reducible assumption) | (with_reducible exact Below.refl _ _) | ((with_reducible refine Below.stepp (by with_reducible assumption) ?_ ?_); focus (first | omega | (simp; done) | (simp; omega)))))) u0
               have r2 : w5.cell? ⟨wr.heap.size, 2, none⟩ = some (.slice Ar x.refs.length cr) := hOn5.cell (cell_below p2 (by repeat (first | ((with_reducible refine Below.setc ?_ ?_ _); focus (first | omega | (simp; done) | (simp; omega))) | ((with_reducible refine Below.allocc ?_ ?_ _); focus (first | omega | (simp; done) | (simp; omega))) | (with_reducible refine Below.drew ?_) | (with_reducible refine Below.drewn ?_) | (with_reducible assumption) | (with_reducible exact Below.refl _ _) | ((with_reducible refine Below.stepp (by with_reducible assumption) ?_ ?_); focus (first | omega | (simp; done) | (simp; omega)))))) u0
               have v2 : w5.cell? ⟨b3, 0, none⟩ = some (.slice SA os.length c1) := hOn5.cell (cell_below q0 (by repeat (first | ((with_reducible refine Below.setc ?_ ?_ _); focus (first | omega | (simp; done) | (simp; omega))) | ((with_reducible refine Below.allocc ?_ ?_ _); focus (first | omega | (simp; done) | (simp; omega))) | (with_reducible refine Below.drew ?_) | (with_reducible refine Below.drewn ?_) | (with_reducible assumption) | (with_reducible exact Below.refl _ _) | ((with_reducible refine Below.stepp (by with_reducible assumption) ?_ ?_); focus (first | omega | (simp; done) | (simp; omega)))))) u1
               have v6 : w5.frozen? ⟨b3, 0, none⟩ = false := (hOn5.frozenAt b3 0 (by first | omega | (simp; done) | (simp; omega)) u1).trans (((bcell (w := wr) (by repeat (first | ((with_reducible refine Below.setc ?_ ?_ _); focus (first | omega | (simp; done) | (simp; omega))) | ((with_reducible refine Below.allocc ?_ ?_ _); focus (first | omega | (simp; done) | (simp; omega))) | (with_reducible refine Below.drew ?_) | (with_reducible refine Below.drewn ?_) | (with_reducible assumption) | (with_reducible exact Below.refl _ _) | ((with_reducible refine Below.stepp (by with_reducible assumption) ?_ ?_); focus (first | omega | (simp; done) | (simp; omega)))))).2.1 b3 0 hb3w).trans q2)
               have v7 : w5.cell? ⟨b3, 1, none⟩ = some (.slice S h.roots.length k) := hOn5.cell (cell_below q1 (by repeat (first | ((with_reducible refine Below.setc ?_ ?_ _); focus (first | omega | (simp; done) | (simp; omega))) | ((with_reducible refine Below.allocc ?_ ?_ _); focus (first | omega | (simp; done) | (simp; omega))) | (with_reducible refine Below.drew ?_) | (with_reducible refine Below.drewn ?_) | (with_reducible assumption) | (with_reducible exact Below.refl _ _) | ((with_reducible refine Below.stepp (by with_reducible assumption) ?_ ?_); focus (first | omega | (simp; done) | (simp; omega)))))) u1
               have hB5 : Below (w.heap.size + 2) wr w5 := Below.trans (by repeat (first | ((with_reducible refine Below.setc ?_ ?_ _); focus (first | omega | (simp; done) | (simp; omega))) | ((with_reducible refine Below.allocc ?_ ?_ _); focus (first | omega | (simp; done) | (simp; omega))) | (with_reducible refine Below.drew ?_) | (with_reducible refine Below.drewn ?_) | (with_reducible assumption) | (with_reducible exact Below.refl _ _) | ((with_reducible refine Below.stepp (by with_reducible assumption) ?_ ?_); focus (first | omega | (simp; done) | (simp; omega))))) (hOn5.below (by first | omega | (simp; done) | (simp; omega)) (fun g hg => (hlo g (List.mem_append.2 (.inl (List.mem_append.2 (.inl hg))))).1))
               have hR5 : OF 3 fi w5 S k h.roots := (hO.roots.below (by repeat (first | ((with_reducible refine Below.setc ?_ ?_ _); focus (first | omega | (simp; done) | (simp; omega))) | ((with_reducible refine Below.allocc ?_ ?_ _); focus (first | omega | (simp; done) | (simp; omega))) | (with_reducible refine Below.drew ?_) | (with_reducible refine Below.drewn ?_) | (with_reducible assumption) | (with_reducible exact Below.refl _ _) | ((with_reducible refine Below.stepp (by with_reducible assumption) ?_ ?_); focus (first | omega | (simp; done) | (simp; omega)))))).only hOn5 (hO.cells.apart hO.roots)
               have g5 : ∀ g ∈ blk S5, g ∈ blk SA ∨ wb.heap.size ≤ g := fun g hg => (hg5 g hg).imp_right fun hh => by (first | omega | (simp at hh; omega))
               have hne3 : wr.heap.size ≠ b3 := by omega
               have v3 : ∀ u, (w5.setCell ⟨b3, 0, none⟩ u).cell? ⟨wr.heap.size, 0, none⟩ = some (.bool x.used) := fun u => by simp [go_sem, r0, hne3]
               have v4 : ∀ u, (w5.setCell ⟨b3, 0, none⟩ u).cell? ⟨wr.heap.size, 1, none⟩ = some (.int .i64 x.data) := fun u => by simp [go_sem, r1, hne3]
               have v5 : ∀ u, (w5.setCell ⟨b3, 0, none⟩ u).cell? ⟨wr.heap.size, 2, none⟩ = some (.slice Ar x.refs.length cr) := fun u => by simp [go_sem, r2, hne3]))
        all_goals
          have g2 : ∀ g ∈ blk S2, wr.heap.size + 1 ≤ g ∧ g < wb.heap.size := fun g hg => ⟨by have := hgS2 g hg; simp at this; omega, hS2.lt g hg⟩
          have hlo' : ∀ g ∈ hblks S5 (os ++ [⟨⟨x.used, x.data, x.refs⟩, S2, k2⟩]) S, w.heap.size + 2 ≤ g ∧ g ≠ b3 := by
            intro g hg
            simp only [hblks, blks_append, List.mem_append] at hg hlo
            rcases hg with (hg | hg | hg) | hg
            · rcases g5 g hg with hg | hg
              · exact hlo g (.inl (.inl hg))
              · omega
            · exact hlo g (.inl (.inr hg))
            · have := g2 g (by simpa [blks] using hg)
              omega
            · exact hlo g (.inr hg)
          have HJ2 := HJ.out
          clear hgS2 hg5 hOn5 hBb
          go_wp2_with fail
          go_roundw
          case rel =>
            refine ⟨j + 1, os ++ [⟨⟨x.used, x.data, x.refs⟩, S2, k2⟩], S5, c5, by omega, by go_num, ?_, by simp [go_sem, v2, HJ2], by simp [go_sem, v7], by simp [go_sem, v6], hO.push (hC5.keep fun g hg => ?_) (hR5.keep fun g hg => ?_) g5 (fun g hg => ?_) (Nat.le_refl _) (by omega) hol, hlo', ?_, (HB.out.trans hB5).setCell (by omega) _⟩
            · unfold Hid
              rw [take_snoc_of GX.out, ← HM.out]
              simp
            · exact heap_setCell_ne _ _ _ (hlo' g (List.mem_append.2 (.inl hg))).2
            · exact heap_setCell_ne _ _ _ (hlo' g (List.mem_append.2 (.inr hg))).2
            · have := g2 g hg
              omega
            · have := hB5.size
              simp
              omega
          case measure => simp [intOf]; omega
      · have hke : j = h.cells.length := by omega
        rw [hjl, hke] at q0
        have e0 := cell_below k2 (hB.mono (by simp))
        have e1 := cell_below k3 (hB.mono (by simp))
        have e2 := ((bcell (hB.mono (by simp))).2.1 (w.heap.size + 1) 0 (by simp)).trans k4
        have e3 := ((bcell (hB.mono (by simp))).2.1 (w.heap.size + 1) 1 (by simp)).trans k5
        have HK := Lib.hid hke
        have HJ := Lib.hid hjl
        have hbne : b3 ≠ w.heap.size + 1 := by omega
        clear hke hjl
        go_wp2
        refine bodyPost_ret (v := .agg #[.slice SA h.cells.length c1, .slice S h.roots.length k]) (by simp [results, Try.results124, go_sem, e0, e1]) rfl ⟨_, rfl, ⟨SA, c1, S, k, os, rfl, by rw [HM.out, HK.out, List.take_length], hO.keep fun g hg => ?_, fun g hg => by have := hlo g hg; omega⟩, (by repeat (first | ((with_reducible refine Below.setc ?_ ?_ _); focus (first | omega | (simp; done) | (simp; omega))) | ((with_reducible refine Below.allocc ?_ ?_ _); focus (first | omega | (simp; done) | (simp; omega))) | (with_reducible refine Below.drew ?_) | (with_reducible refine Below.drewn ?_) | (with_reducible assumption) | (with_reducible exact Below.refl _ _) | ((with_reducible refine Below.stepp (by with_reducible assumption) ?_ ?_); focus (first | omega | (simp; done) | (simp; omega)))))⟩
        have := hlo g hg
        (repeat (first | rw [heap_setCell_ne _ _ _ (by first | omega | (simp; done) | (simp; omega))] | rw [Below.heap_alloc _ _ _ (by first | omega | (simp; done) | (simp; omega))]))
end Go.Proofs.Ytkmfhadanbfadaa
