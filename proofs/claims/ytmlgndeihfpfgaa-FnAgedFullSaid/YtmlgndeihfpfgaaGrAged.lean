/- Texts of one family, one behind the other: AgedV, AgedVS. -/
import Derived.Test.YtmlgndeihfpfgaaChecked
import Derived.Deep.RegionHeld3
import Derived.Deep.DeepCutAuto
import Derived.Test.YtmlgndeihfpfgaaGrHeap
import Derived.Test.YtmlgndeihfpfgaaSnapV
/- Which heaps with generations are valid: the program's and the reference's AgedValid both tell agedM. -/
namespace Go.Proofs.Ytmlgndeihfpfgaa
open Go.RowKit
set_option maxRecDepth 100000
set_option linter.unusedSimpArgs false
set_option linter.unusedVariables false


/-- The used cells that are not old, as a word. -/
def youngBits (p : TwoM) : Nat := andN (usedBits p.store.cells) (bitsOf p.x)
set_option maxHeartbeats 400000 in
theorem young_any (v : Value) (p : TwoM) (w : World) (hv : RTw w v p) (hn : p.store.cells.length ≤ 64) (hm : p.x.length ≤ 64) :
    Calls Try.prog 102 #[v] w fun e w' => e = .returned (.int .u64 ((youngBits p : Nat) : Int)) ∧ Below w.heap.size w w' := by
  obtain ⟨A, c, A', c', A2, c2, A3, c3, rfl, hh, hx, hxl, hy, hyl⟩ := hv
  have e2 : bits .andNot .u64 ((usedBits p.store.cells : Nat) : Int) ((bitsOf p.x : Nat) : Int) = ((youngBits p : Nat) : Int) := u64_andNot_nat _ _ (bitsOf_lt64 (by simp; omega)) (bitsOf_lt64 hm)
  have k0 : (w.alloc (.cells #[.slice A p.store.cells.length c, .slice A' p.store.roots.length c', .slice A2 p.x.length c2, .slice A3 p.y.length c3] 45)).cell? ⟨w.heap.size, 0, none⟩ = some (.slice A p.store.cells.length c) := by simp
  have k1 : (w.alloc (.cells #[.slice A p.store.cells.length c, .slice A' p.store.roots.length c', .slice A2 p.x.length c2, .slice A3 p.y.length c3] 45)).cell? ⟨w.heap.size, 1, none⟩ = some (.slice A' p.store.roots.length c') := by simp
  have k2 : (w.alloc (.cells #[.slice A p.store.cells.length c, .slice A' p.store.roots.length c', .slice A2 p.x.length c2, .slice A3 p.y.length c3] 45)).cell? ⟨w.heap.size, 2, none⟩ = some (.slice A2 p.x.length c2) := by simp
  have k3 : (w.alloc (.cells #[.slice A p.store.cells.length c, .slice A' p.store.roots.length c', .slice A2 p.x.length c2, .slice A3 p.y.length c3] 45)).cell? ⟨w.heap.size, 3, none⟩ = some (.slice A3 p.y.length c3) := by simp
  go_enter Try.func102, Try.ntmps102
  go_wp2
  go_region_held3 (fun w' => w'.cell? ⟨w.heap.size, 0, none⟩ = some (.slice A p.store.cells.length c) ∧ w'.cell? ⟨w.heap.size, 1, none⟩ = some (.slice A' p.store.roots.length c') ∧ w'.cell? ⟨w.heap.size, 2, none⟩ = some (.slice A2 p.x.length c2) ∧ w'.cell? ⟨w.heap.size, 3, none⟩ = some (.slice A3 p.y.length c3))
    (first | (exact ⟨cell_below k0 blw_, cell_below k1 blw_, cell_below k2 blw_, cell_below k3 blw_⟩))
    (first
      | (go_at_call 60; refine (usedSet_any _ p.store _ ((hh.below blw_).rh _ _) hn).mono ?_; rintro e wa ⟨rfl, hBa⟩; (have z_hBa := Below.size hBa); (try simp only [World.size_alloc, World.size_setCell, World.size_drew, World.heap_drewN] at z_hBa))
      | (go_at_call 85; refine (setOf_any _ p.x _ _ (hx.below blw_) hm).mono ?_; rintro e wb ⟨rfl, hBb⟩; (have z_hBb := Below.size hBb); (try simp only [World.size_alloc, World.size_setCell, World.size_drew, World.heap_drewN] at z_hBb)))
  all_goals
    go_wp2
    go_ret
    exact ⟨rfl, blw_⟩
theorem agedM_ok (p : TwoM) (hx : p.x.length = p.store.cells.length) (hy : p.y.length = p.store.cells.length) (h40 : p.store.cells.length ≤ 40) :
    (List.range p.store.cells.length).all (agedOk p) = (decide (andN (bitsOf p.x) (usedBits p.store.cells) = 0) && decide (andN (bitsOf p.y) (bitsOf p.x) = 0)) := by
  have bx : bitsOf p.x < 18446744073709551616 := bitsOf_lt64 (by omega)
  have bY : bitsOf p.y < 18446744073709551616 := bitsOf_lt64 (by omega)
  have bu : usedBits p.store.cells < 18446744073709551616 := bitsOf_lt64 (by simp; omega)
  rw [Bool.eq_iff_iff]
  simp only [Bool.and_eq_true, decide_eq_true_eq, all_range, andN_zero bY bx, andN_zero bx bu, bitsOf_test, usedBits_test]
  constructor
  · intro h
    refine ⟨fun i hi => ?_, fun i hi => ?_⟩
    · rcases Nat.lt_or_ge i p.store.cells.length with h1 | h1
      · have := h i h1
        simp only [agedOk, hi, Bool.and_eq_true] at this
        simpa using this.1
      · rw [getD_len (by omega)] at hi; cases hi
    · rcases Nat.lt_or_ge i p.store.cells.length with h1 | h1
      · have := h i h1
        simp only [agedOk, hi, Bool.and_eq_true] at this
        simpa using this.2
      · rw [getD_len (by omega)] at hi; cases hi
  · rintro ⟨h1, h2⟩ i _
    simp only [agedOk, Bool.and_eq_true, Bool.or_eq_true, Bool.not_eq_true']
    refine ⟨?_, ?_⟩
    · cases hi : p.x.getD i false
      · exact .inl rfl
      · exact .inr (h1 i hi)
    · cases hi : p.y.getD i false
      · exact .inl rfl
      · exact .inr (h2 i hi)
theorem youngRef_bit (p : TwoM) {r : Int} (hl : p.x.length ≤ 64) (hc : p.store.cells.length ≤ 64) (hr : leadsM p.store.cells r = true) : hasB (youngBits p) r = youngRef p.x r := by
  rcases Classical.em (r < 0) with h | h
  · rw [hasB_neg h]; simp [youngRef]; omega
  · have h0 : 0 ≤ r := by omega
    have hlt := leadsM_lt hr
    have hx : p.store.cells[r.toNat]? = some (p.store.cells[r.toNat]'(by omega)) := List.getElem?_eq_getElem (by omega)
    have hu : usedN p.store.cells r.toNat = true := by rw [usedN_at hx, ← leadsM_at hx h0]; exact hr
    rw [hasB_at h0, youngBits, andN_test (show usedBits p.store.cells < 18446744073709551616 from bitsOf_lt64 (by simp; omega)) (bitsOf_lt64 hl), usedBits_test, hu, bitsOf_test]
    simp [youngRef, h0]
set_option maxHeartbeats 400000 in
theorem implAgedValid_any (v : Value) (p : TwoM) (w : World) (hv : RTw w v p) :
    Calls Try.prog 56 #[v] w fun e w' => e = .returned (.bool (agedM p)) ∧ Below w.heap.size w w' := by
  have hvv := hv
  obtain ⟨A, c, A', c', A2, c2, A3, c3, rfl, hh, hx, hxl, hy, hyl⟩ := hv
  cases hvd : validM p.store
  · go_enter Try.func56, Try.ntmps56
    go_wp2_with (go_at_call 36; refine (implHeapValid_any _ p.store _ ((hh.below blw_).rh _ _)).mono ?_; rintro e w1 ⟨rfl, hB⟩; obtain ⟨hbc, hbf, hbz⟩ := bcell hB; have z0w1 : w.heap.size < w1.heap.size := (by (try simp at hbz); omega))
    go_ret
    exact ⟨ret_bool (by rw [agedM, hvd]; simp), blw_⟩
  rcases (Classical.em (p.x.length = p.store.cells.length)).symm with hl | hl
  · have hl2 : ((p.x.length : Int) != (p.store.cells.length : Int)) = true := by simp; omega
    have HL := Lib.hid hl
    clear hl
    go_enter Try.func56, Try.ntmps56
    go_wp2_with (go_at_call 36; refine (implHeapValid_any _ p.store _ ((hh.below blw_).rh _ _)).mono ?_; rintro e w1 ⟨rfl, hB⟩; obtain ⟨hbc, hbf, hbz⟩ := bcell hB; have z0w1 : w.heap.size < w1.heap.size := (by (try simp at hbz); omega))
    go_ret
    exact ⟨ret_bool (by rw [agedM]; simp [HL.out]), blw_⟩
  have hl2 : ((p.x.length : Int) != (p.store.cells.length : Int)) = false := by simp [hl]
  rcases (Classical.em (p.y.length = p.store.cells.length)).symm with hm | hm
  · have hm2 : ((p.y.length : Int) != (p.store.cells.length : Int)) = true := by simp; omega
    have HL := Lib.hid hm
    clear hl hm
    go_enter Try.func56, Try.ntmps56
    go_wp2_with (go_at_call 36; refine (implHeapValid_any _ p.store _ ((hh.below blw_).rh _ _)).mono ?_; rintro e w1 ⟨rfl, hB⟩; obtain ⟨hbc, hbf, hbz⟩ := bcell hB; have z0w1 : w.heap.size < w1.heap.size := (by (try simp at hbz); omega))
    go_ret
    exact ⟨ret_bool (by rw [agedM]; simp [HL.out]), blw_⟩
  have hm2 : ((p.y.length : Int) != (p.store.cells.length : Int)) = false := by simp [hm]
  have h40 := (validM_len hvd).1
  have bx : bitsOf p.x < 18446744073709551616 := bitsOf_lt64 (by omega)
  have bY : bitsOf p.y < 18446744073709551616 := bitsOf_lt64 (by omega)
  have bu : usedBits p.store.cells < 18446744073709551616 := bitsOf_lt64 (by simp; omega)
  have byo : youngBits p < 18446744073709551616 := andN_lt bu
  have H0 : Hid (agedM p = (decide (andN (bitsOf p.x) (usedBits p.store.cells) = 0) && decide (andN (bitsOf p.y) (bitsOf p.x) = 0) && (List.range p.store.cells.length).all (agedRefs p))) := by
    unfold Hid
    rw [← agedM_ok p hl hm h40, agedM, hvd]
    simp [hl, hm, Bool.and_assoc]
  have e1 : bits .andNot .u64 ((bitsOf p.y : Nat) : Int) ((bitsOf p.x : Nat) : Int) = ((andN (bitsOf p.y) (bitsOf p.x) : Nat) : Int) := u64_andNot_nat _ _ bY bx
  have e2 : bits .andNot .u64 ((bitsOf p.x : Nat) : Int) ((usedBits p.store.cells : Nat) : Int) = ((andN (bitsOf p.x) (usedBits p.store.cells) : Nat) : Int) := u64_andNot_nat _ _ bx bu
  have HLX := Lib.hid hl
  have HLY := Lib.hid hm
  have hx64 : p.x.length ≤ 64 := by omega
  have hy64 : p.y.length ≤ 64 := by omega
  have hc64 : p.store.cells.length ≤ 64 := by omega
  have HLD := Lib.hid (validM_leads hvd).1
  clear hl hm bu
  have k0 : (w.alloc (.cells #[.slice A p.store.cells.length c, .slice A' p.store.roots.length c', .slice A2 p.x.length c2, .slice A3 p.y.length c3] 45)).cell? ⟨w.heap.size, 0, none⟩ = some (.slice A p.store.cells.length c) := by simp
  have k1 : (w.alloc (.cells #[.slice A p.store.cells.length c, .slice A' p.store.roots.length c', .slice A2 p.x.length c2, .slice A3 p.y.length c3] 45)).cell? ⟨w.heap.size, 1, none⟩ = some (.slice A' p.store.roots.length c') := by simp
  have k2 : (w.alloc (.cells #[.slice A p.store.cells.length c, .slice A' p.store.roots.length c', .slice A2 p.x.length c2, .slice A3 p.y.length c3] 45)).cell? ⟨w.heap.size, 2, none⟩ = some (.slice A2 p.x.length c2) := by simp
  have k3 : (w.alloc (.cells #[.slice A p.store.cells.length c, .slice A' p.store.roots.length c', .slice A2 p.x.length c2, .slice A3 p.y.length c3] 45)).cell? ⟨w.heap.size, 3, none⟩ = some (.slice A3 p.y.length c3) := by simp
  go_enter Try.func56, Try.ntmps56
  go_upto_region 3 with (go_at_call 36; refine (implHeapValid_any _ p.store _ ((hh.below blw_).rh _ _)).mono ?_; rintro e w1 ⟨rfl, hB⟩; obtain ⟨hbc, hbf, hbz⟩ := bcell hB; have z0w1 : w.heap.size < w1.heap.size := (by (try simp at hbz); omega))
  have q0 : w1.cell? ⟨w.heap.size, 0, none⟩ = some (.slice A p.store.cells.length c) := cell_below k0 hB
  have q1 : w1.cell? ⟨w.heap.size, 1, none⟩ = some (.slice A' p.store.roots.length c') := cell_below k1 hB
  have q2 : w1.cell? ⟨w.heap.size, 2, none⟩ = some (.slice A2 p.x.length c2) := cell_below k2 hB
  have q3 : w1.cell? ⟨w.heap.size, 3, none⟩ = some (.slice A3 p.y.length c3) := cell_below k3 hB
  have hB0 : Below w.heap.size w w1 := blw_
  have hh1 := hh.below hB0
  have hx1 := hx.below hB0
  have hy1 := hy.below hB0
  have hv1 := hvv.below hB0
  clear hbc hbf hbz hl2 hm2 hvd
  go_cut [3, 4, 5] (fun s3 s4 s5 wx => s3 = .int .u64 ((bitsOf p.x : Nat) : Int) ∧ s4 = .int .u64 ((bitsOf p.y : Nat) : Int) ∧ s5 = .int .u64 ((youngBits p : Nat) : Int) ∧ Below w1.heap.size w1 wx)
  case first =>
    go_region_held3 (fun w' => w'.cell? ⟨w.heap.size, 0, none⟩ = some (.slice A p.store.cells.length c) ∧ w'.cell? ⟨w.heap.size, 1, none⟩ = some (.slice A' p.store.roots.length c') ∧ w'.cell? ⟨w.heap.size, 2, none⟩ = some (.slice A2 p.x.length c2) ∧ w'.cell? ⟨w.heap.size, 3, none⟩ = some (.slice A3 p.y.length c3))
      (first | exact ⟨q0, q1, q2, q3⟩ | exact ⟨cell_below q0 blw_, cell_below q1 blw_, cell_below q2 blw_, cell_below q3 blw_⟩)
      (first
        | (go_at_call 102; refine (young_any _ p _ (hv1.below blw_) hc64 hx64).mono ?_; rintro e wa ⟨rfl, hBa⟩; (have z_hBa := Below.size hBa); (try simp only [World.size_alloc, World.size_setCell, World.size_drew, World.heap_drewN] at z_hBa))
        | (go_at_call_of 85 (Value.slice A2 p.x.length c2); refine (setOf_any _ p.x _ _ (hx1.below blw_) hx64).mono ?_; rintro e wb ⟨rfl, hBb⟩; (have z_hBb := Below.size hBb); (try simp only [World.size_alloc, World.size_setCell, World.size_drew, World.heap_drewN] at z_hBb))
        | (go_at_call_of 85 (Value.slice A3 p.y.length c3); refine (setOf_any _ p.y _ _ (hy1.below blw_) hy64).mono ?_; rintro e wc ⟨rfl, hBc⟩; (have z_hBc := Below.size hBc); (try simp only [World.size_alloc, World.size_setCell, World.size_drew, World.heap_drewN] at z_hBc)))
    all_goals (go_wp2_with fail; go_meet; exact ⟨rfl, rfl, rfl, blw_⟩)
  case rest =>
    obtain ⟨rfl, rfl, rfl, hB2⟩ := hcut
    have hBx : Below (w.heap.size + 1) (w.alloc (.cells #[.slice A p.store.cells.length c, .slice A' p.store.roots.length c', .slice A2 p.x.length c2, .slice A3 p.y.length c3] 45)) wc := (hB.mono (by simp)).trans (hB2.mono (by have := hB.size; simp at this; omega))
    have hB9 : Below w.heap.size w wc := hB0.trans (hB2.mono hB0.size)
    clear q0 q1 q2 q3 hv1 hx1 hy1 hh1 hB hB2 hB0 k0 k1 k2 k3 z0w1
    obtain ⟨hbc, hbf, hbz⟩ := bcell (hBx.mono (show (w.alloc (.cells #[.slice A p.store.cells.length c, .slice A' p.store.roots.length c', .slice A2 p.x.length c2, .slice A3 p.y.length c3] 45)).heap.size ≤ w.heap.size + 1 by simp))
    have z0wc : w.heap.size < wc.heap.size := (by (try simp at hbz); omega)
    rcases (Classical.em (andN (bitsOf p.x) (usedBits p.store.cells) = 0)).symm with z1 | z1
    · have z1' : (((andN (bitsOf p.x) (usedBits p.store.cells) : Nat) : Int) != 0) = true := by simpa using z1
      have Z1 := Lib.hid z1
      clear z1
      go_wp2_with (go_at_call 60; refine (usedSet_any _ p.store _ ((hh.below blw_).rh _ _) hc64).mono ?_; rintro e wa ⟨rfl, hBa⟩)
      go_ret
      exact ⟨ret_bool (by rw [H0.out]; simp [Z1.out]), Below.step hB9 hBa hB9.size⟩
    have z1' : (((andN (bitsOf p.x) (usedBits p.store.cells) : Nat) : Int) != 0) = false := by simp [z1]
    have Z1 := Lib.hid z1
    clear z1
    rcases (Classical.em (andN (bitsOf p.y) (bitsOf p.x) = 0)).symm with z2 | z2
    · have z2' : (((andN (bitsOf p.y) (bitsOf p.x) : Nat) : Int) != 0) = true := by simpa using z2
      have Z2 := Lib.hid z2
      clear z2
      go_wp2_with (go_at_call 60; refine (usedSet_any _ p.store _ ((hh.below blw_).rh _ _) hc64).mono ?_; rintro e wa ⟨rfl, hBa⟩)
      go_ret
      exact ⟨ret_bool (by rw [H0.out]; simp [Z2.out]), Below.step hB9 hBa hB9.size⟩
    have z2' : (((andN (bitsOf p.y) (bitsOf p.x) : Nat) : Int) != 0) = false := by simp [z2]
    have H1 : Hid (agedM p = (List.range p.store.cells.length).all (agedRefs p)) := by unfold Hid; rw [H0.out, Z1.out, z2]; simp
    clear z2
    go_wp2_with (go_at_call 60; refine (usedSet_any _ p.store _ ((hh.below blw_).rh _ _) hc64).mono ?_; rintro e wa ⟨rfl, hBa⟩; obtain ⟨hbc2, hbf2, hbz2⟩ := bcell hBa; have z0wa : w.heap.size < wa.heap.size := (by (try simp at hbz2); omega))
    have hBy : Below (w.heap.size + 1) (w.alloc (.cells #[.slice A p.store.cells.length c, .slice A' p.store.roots.length c', .slice A2 p.x.length c2, .slice A3 p.y.length c3] 45)) wa := hBx.trans (hBa.mono (by have := hBx.size; simp at this; omega))
    clear hBa hbc hbf hbz hbc2 hbf2 hbz2 z0wc z0wa hB9 hBx z1' z2'
    go_loopw [58] (fun i wr => ∃ k : Nat, k ≤ p.store.cells.length ∧ i = .int .i64 k ∧ Hid (∀ i, i < k → agedRefs p i = true) ∧ Below (w.heap.size + 1) (w.alloc (.cells #[.slice A p.store.cells.length c, .slice A' p.store.roots.length c', .slice A2 p.x.length c2, .slice A3 p.y.length c3] 45)) wr) (fun i _ => p.store.cells.length - (intOf i).toNat)
    case atStart => exact ⟨0, by omega, rfl, fun i hi => absurd hi (by omega), hBy⟩
    case round =>
      clear hBy
      obtain ⟨k, hk, rfl, HS, hB⟩ := hrel
      have hB0 : Below w.heap.size w wr := Below.trans blw_ (hB.mono (by omega))
      have hz := hB0.size
      have hz2 : w.heap.size + 1 ≤ wr.heap.size := by have := hB.size; simpa using this
      by_cases hlt : k < p.store.cells.length
      · obtain ⟨b, o, z, Ar, cr, rfl, gz, d1, d2, d3, hrr, hrl, hb⟩ := (hh.cells.below hB0).at_ hlt
        have hld : Hid (∀ r ∈ z.refs, leadsM p.store.cells r = true) := HLD.out z (List.mem_of_getElem? gz)
        have HO : Hid (agedRefs p k = (!(p.x.getD k false && !p.y.getD k false) || !z.refs.any (youngRef p.x))) := by
          unfold Hid; rw [agedRefs, gz]
        clear gz hh
        have bad : agedRefs p k = false → agedM p = false := fun e => by rw [H1.out]; exact all_range_false hlt e
        have good : agedRefs p k = true → Hid (∀ i, i < k + 1 → agedRefs p i = true) := fun e i hi => by
          rcases Nat.lt_or_ge i k with h | h
          · exact HS.out i h
          · rw [show i = k by omega]; exact e
        go_wp2
        go_loopw [66] (fun i wq => ∃ j : Nat, j ≤ z.refs.length ∧ i = .int .i64 j ∧ Hid (agedRefs p k = (!(p.x.getD k false && !p.y.getD k false) || !(z.refs.drop j).any (youngRef p.x))) ∧ wr.alloc (.cells #[.bool z.used, .int .i64 z.data, .slice Ar z.refs.length cr] 65) = wq) (fun i _ => z.refs.length - (intOf i).toNat)
        case atStart => exact ⟨0, by omega, rfl, HO.out, rfl⟩
        case round =>
          obtain ⟨j, hj, rfl, HJ, rfl⟩ := hrel
          by_cases hjt : j < z.refs.length
          · obtain ⟨b2, o2, r, rfl, gr, e1, hb2⟩ := hrr.at_ hjt
            have e1' : wr.cell? ⟨b2, o2 + j, none⟩ = some (.int .i64 r) := e1
            have hlr := hld.out r (List.mem_of_getElem? gr)
            have hr64 : r < (p.store.cells.length : Int) := leadsM_lt hlr
            have HY := Lib.hid (youngRef_bit p hx64 hc64 hlr)
            have GR := Lib.hid gr
            clear gr e1 hrr hlr
            have x1 : hasB (bitsOf p.x) (k : Int) = p.x.getD k false := by rw [hasB_nat, bitsOf_test]
            have y1 : hasB (bitsOf p.y) (k : Int) = p.y.getD k false := by rw [hasB_nat, bitsOf_test]
            have step : (p.x.getD k false && !p.y.getD k false && hasB (youngBits p) r) = false → Hid (agedRefs p k = (!(p.x.getD k false && !p.y.getD k false) || !(z.refs.drop (j + 1)).any (youngRef p.x))) := fun e => by
              unfold Hid; rw [HJ.out, any_drop _ GR.out, ← HY.out]
              cases h1 : (p.x.getD k false && !p.y.getD k false)
              · rfl
              · rw [h1] at e; simp at e; simp [e]
            have stop : (p.x.getD k false && !p.y.getD k false && hasB (youngBits p) r) = true → agedM p = false := fun e => bad (by
              simp only [Bool.and_eq_true] at e
              rw [HJ.out, any_drop _ GR.out, ← HY.out, e.2, e.1.1]; simp at e; simp [e.1.2])
            clear bad good
            rcases bool_ft (p.x.getD k false) with hxk | hxk
            all_goals
              rw [hxk] at x1
              rcases bool_ft (p.y.getD k false) with hyk | hyk
              all_goals
                rw [hyk] at y1
                rcases bool_ft (hasB (youngBits p) r) with hyr | hyr
                all_goals
                  first
                  | (have HG := step (by rw [hxk, hyk, hyr]; rfl)
                     clear step stop hxk hyk
                     go_wp2_with (go_at_call 106; refine (has_any _ _ _ (by omega) (by with_reducible assumption)).mono ?_; rintro e w' ⟨rfl, rfl⟩)
                     go_roundw
                     case rel => exact ⟨j + 1, by omega, by go_num, HG, by first | trivial | rfl⟩
                     case measure => simp [intOf]; omega)
                  | (have HF := Lib.hid (stop (by rw [hxk, hyk, hyr]; rfl))
                     clear step stop hxk hyk
                     go_wp2_with (go_at_call 106; refine (has_any _ _ _ (by omega) (by with_reducible assumption)).mono ?_; rintro e w' ⟨rfl, rfl⟩)
                     go_ret
                     exact ⟨ret_bool HF.out.symm, blw_⟩)
          · have hje : j = z.refs.length := by omega
            have HG := good (by rw [HJ.out, hje]; simp)
            clear hje bad good
            go_wp2
            go_roundw
            case rel => exact ⟨k + 1, by omega, by go_num, HG, blw_⟩
            case measure => simp [intOf]; omega
      · have hke : k = p.store.cells.length := by omega
        have HT : Hid (agedM p = true) := by unfold Hid; rw [H1.out, all_range, ← hke]; exact HS.out
        clear hke
        go_wp2
        go_ret
        exact ⟨ret_bool HT.out.symm, blw_⟩
end Go.Proofs.Ytmlgndeihfpfgaa

/- The reference's AgedValid tells agedM, and leaves memory as it is. -/
namespace Go.Proofs.Ytmlgndeihfpfgaa
open Go.RowKit
set_option maxRecDepth 100000
set_option linter.unusedSimpArgs false
set_option linter.unusedVariables false
set_option maxRecDepth 100000 in
set_option maxHeartbeats 400000 in
theorem specAgedValid_any (v : Value) (p : TwoM) (w : World) (hv : RTw w v p) :
    Calls Try.prog 103 #[v] w fun e w' => e = .returned (.bool (agedM p)) ∧ Below w.heap.size w w' := by
  obtain ⟨A, c, A', c', A2, c2, A3, c3, rfl, hh, hx, hxl, hy, hyl⟩ := hv
  cases hvd : validM p.store
  · go_enter Try.func103, Try.ntmps103
    go_wp2_with (go_at_call 69; refine (specHeapValid_any _ p.store _ ((hh.below blw_).rh _ _)).mono ?_; rintro e w1 ⟨rfl, hB⟩; obtain ⟨hbc, hbf, hbz⟩ := bcell hB; have z0w1 : w.heap.size < w1.heap.size := (by (try simp at hbz); omega))
    go_ret
    exact ⟨ret_bool (by rw [agedM, hvd]; simp), blw_⟩
  rcases (Classical.em (p.x.length = p.store.cells.length)).symm with hl | hl
  · have hl2 : ((p.x.length : Int) != (p.store.cells.length : Int)) = true := by simp; omega
    have HL := Lib.hid hl
    clear hl
    go_enter Try.func103, Try.ntmps103
    go_wp2_with (go_at_call 69; refine (specHeapValid_any _ p.store _ ((hh.below blw_).rh _ _)).mono ?_; rintro e w1 ⟨rfl, hB⟩; obtain ⟨hbc, hbf, hbz⟩ := bcell hB; have z0w1 : w.heap.size < w1.heap.size := (by (try simp at hbz); omega))
    go_ret
    exact ⟨ret_bool (by rw [agedM]; simp [HL.out]), blw_⟩
  have hl2 : ((p.x.length : Int) != (p.store.cells.length : Int)) = false := by simp [hl]
  rcases (Classical.em (p.y.length = p.store.cells.length)).symm with hm | hm
  · have hm2 : ((p.y.length : Int) != (p.store.cells.length : Int)) = true := by simp; omega
    have HL := Lib.hid hm
    clear hl hm
    go_enter Try.func103, Try.ntmps103
    go_wp2_with (go_at_call 69; refine (specHeapValid_any _ p.store _ ((hh.below blw_).rh _ _)).mono ?_; rintro e w1 ⟨rfl, hB⟩; obtain ⟨hbc, hbf, hbz⟩ := bcell hB; have z0w1 : w.heap.size < w1.heap.size := (by (try simp at hbz); omega))
    go_ret
    exact ⟨ret_bool (by rw [agedM]; simp [HL.out]), blw_⟩
  have hm2 : ((p.y.length : Int) != (p.store.cells.length : Int)) = false := by simp [hm]
  have H0 : Hid (agedM p = ((List.range p.store.cells.length).all (agedOk p) && (List.range p.store.cells.length).all (agedRefs p))) := by
    unfold Hid; rw [agedM, hvd]; simp [hl, hm]
  have HLD := Lib.hid (validM_leads hvd).1
  have hxy : p.x.length ≤ p.y.length := by omega
  have hxc : p.x.length ≤ p.store.cells.length := by omega
  have HLX := Lib.hid hl
  clear hl hm
  go_enter Try.func103, Try.ntmps103
  go_wp2_with (go_at_call 69; refine (specHeapValid_any _ p.store _ ((hh.below blw_).rh _ _)).mono ?_; rintro e w1 ⟨rfl, hB⟩; obtain ⟨hbc, hbf, hbz⟩ := bcell hB; have z0w1 : w.heap.size < w1.heap.size := (by (try simp at hbz); omega))
  have hB9 : Below (w.heap.size + 1) (w.alloc (.cells #[.slice A p.store.cells.length c, .slice A' p.store.roots.length c', .slice A2 p.x.length c2, .slice A3 p.y.length c3] 45)) w1 := hB.mono (by simp)
  clear hB hbc hbf hbz z0w1 hl2 hm2 hvd
  go_loopw [3] (fun i wr => ∃ k : Nat, k ≤ p.x.length ∧ i = .int .i64 k ∧ Hid (∀ i, i < k → agedOk p i = true ∧ agedRefs p i = true) ∧ Below (w.heap.size + 1) (w.alloc (.cells #[.slice A p.store.cells.length c, .slice A' p.store.roots.length c', .slice A2 p.x.length c2, .slice A3 p.y.length c3] 45)) wr) (fun i _ => p.x.length - (intOf i).toNat)
  case atStart => exact ⟨0, by omega, rfl, fun i hi => absurd hi (by omega), hB9⟩
  case round =>
    clear hB9
    obtain ⟨k, hk, rfl, HS, hB⟩ := hrel
    have hB0 : Below w.heap.size w wr := Below.trans blw_ (hB.mono (by omega))
    obtain ⟨hbc, hbf, hbz⟩ := bcell (hB.mono (show (w.alloc (.cells #[.slice A p.store.cells.length c, .slice A' p.store.roots.length c', .slice A2 p.x.length c2, .slice A3 p.y.length c3] 45)).heap.size ≤ w.heap.size + 1 by simp))
    have z0wr : w.heap.size < wr.heap.size := (by (try simp at hbz); omega)
    by_cases hlt : k < p.x.length
    · obtain ⟨b, o, x, rfl, gx, c1, hb⟩ := (hx.below hB0).at_ hlt
      have c1' : wr.cell? ⟨b, o + k, none⟩ = some (.bool x) := c1
      obtain ⟨b2, o2, y, rfl, gy, e1, hb2⟩ := (hy.below hB0).at_ (k := k) (by omega)
      have e1' : wr.cell? ⟨b2, o2 + k, none⟩ = some (.bool y) := e1
      obtain ⟨b', o', z, Ar, cr, rfl, gz, d1, d2, d3, hrr, hrl, hb'⟩ := (hh.cells.below hB0).at_ (k := k) (by omega)
      have hxx := hx.below hB0
      have HO : Hid (agedOk p k = ((!x || z.used) && (!y || x))) := by
        unfold Hid; rw [agedOk, getD_of gy, getD_of gx, usedN_at gz]
      have HR : Hid (agedRefs p k = (!(x && !y) || !z.refs.any (youngRef p.x))) := by
        unfold Hid; rw [agedRefs, getD_of gy, getD_of gx, gz]
      have hkc : k < p.store.cells.length := by omega
      have hky : k < p.y.length := by omega
      have hld : Hid (∀ r ∈ z.refs, leadsM p.store.cells r = true) := HLD.out z (List.mem_of_getElem? gz)
      clear gx gy gz c1 e1 hx hy hh
      have bad1 : agedOk p k = false → agedM p = false := fun e => by rw [H0.out, all_range_false hkc e]; rfl
      have bad2 : agedRefs p k = false → agedM p = false := fun e => by rw [H0.out, all_range_false hkc e]; simp
      have good : agedOk p k = true → agedRefs p k = true → Hid (∀ i, i < k + 1 → agedOk p i = true ∧ agedRefs p i = true) := fun e1 e2 i hi => by
        rcases Nat.lt_or_ge i k with h | h
        · exact HS.out i h
        · rw [show i = k by omega]; exact ⟨e1, e2⟩
      rcases bool_ft ((!x || z.used) && (!y || x)) with hok | hok
      · have HF := Lib.hid (bad1 (HO.out.trans hok))
        clear bad1 bad2 good
        rcases bool_ft z.used with hu | hu
        all_goals
          rw [hu] at d1 hok
          cases x
          all_goals
            cases y
            all_goals
              first
              | (cases hok; done)
              | (clear hok
                 go_wp2
                 go_ret
                 exact ⟨ret_bool HF.out.symm, blw_⟩)
      by_cases hy1 : x = true ∧ y = false
      · obtain ⟨rfl, rfl⟩ := hy1
        have hu : z.used = true := by simpa using hok
        rw [hu] at d1
        clear hok bad1
        go_wp2
        go_loopw [4] (fun i wq => ∃ j : Nat, j ≤ z.refs.length ∧ i = .int .i64 j ∧ Hid (agedRefs p k = !(z.refs.drop j).any (youngRef p.x)) ∧ wr = wq) (fun i _ => z.refs.length - (intOf i).toNat)
        case atStart => exact ⟨0, by omega, rfl, by unfold Hid; rw [HR.out]; simp, rfl⟩
        case round =>
          obtain ⟨j, hj, rfl, HJ, rfl⟩ := hrel
          by_cases hjt : j < z.refs.length
          · obtain ⟨b3, o3, r, rfl, gr, q1, hb3⟩ := hrr.at_ hjt
            have q1' : wr.cell? ⟨b3, o3 + j, none⟩ = some (.int .i64 r) := q1
            have hr64 : r < (p.x.length : Int) := by rw [HLX.out]; exact leadsM_lt (hld.out r (List.mem_of_getElem? gr))
            have GR := Lib.hid gr
            clear gr q1 hrr
            rcases Classical.em (r < 0) with h0 | h0
            · have HE : Hid (youngRef p.x r = false) := by unfold Hid; simp [youngRef]; omega
              go_wp2
              go_roundw
              case rel => exact ⟨j + 1, by omega, by go_num, by unfold Hid; rw [HJ.out, any_drop _ GR.out, HE.out]; simp, by first | trivial | rfl⟩
              case measure => simp [intOf]; omega
            · obtain ⟨b4, o4, q, hA4, gq, q2, hb4⟩ := hxx.at_ (k := r.toNat) (by omega)
              injection hA4 with hA4
              injection hA4 with hA4 hA5
              subst hA4; subst hA5
              have q3 : wr.cell? ⟨b, o + r.toNat, none⟩ = some (.bool q) := q2
              have HE : Hid (youngRef p.x r = !q) := by unfold Hid; rw [youngRef, getD_of gq]; simp; omega
              clear gq q2 hxx
              cases q
              · have HF := Lib.hid (bad2 (by rw [HJ.out, any_drop _ GR.out, HE.out]; simp))
                clear bad2 good
                go_wp2
                go_ret
                exact ⟨ret_bool HF.out.symm, blw_⟩
              · go_wp2
                go_roundw
                case rel => exact ⟨j + 1, by omega, by go_num, by unfold Hid; rw [HJ.out, any_drop _ GR.out, HE.out]; simp, by first | trivial | rfl⟩
                case measure => simp [intOf]; omega
          · have hje : j = z.refs.length := by omega
            have HG := good (HO.out.trans (by rw [hu]; rfl)) (by rw [HJ.out, hje]; simp)
            clear hje bad2 good
            go_wp2
            go_roundw
            case rel => exact ⟨k + 1, by omega, by go_num, HG, blw_⟩
            case measure => simp [intOf]; omega
      · have HG := good (HO.out.trans hok) (by rw [HR.out]; cases x <;> cases y <;> simp_all)
        clear bad1 bad2 good
        rcases bool_ft z.used with hu | hu
        all_goals
          rw [hu] at d1 hok
          cases x
          all_goals
            cases y
            all_goals
              first
              | (cases hok; done)
              | (exact absurd ⟨rfl, rfl⟩ hy1)
              | (clear hok hy1
                 go_wp2
                 refine wp_loop_once ?_
                 go_wp2
                 all_goals
                   go_roundw
                   case rel => exact ⟨k + 1, by omega, by go_num, HG, blw_⟩
                   case measure => simp [intOf]; omega)
    · have hke : k = p.x.length := by omega
      have HT : Hid (agedM p = true) := by
        unfold Hid; rw [H0.out, Bool.and_eq_true, all_range, all_range, ← HLX.out, ← hke]
        exact ⟨fun i hi => (HS.out i hi).1, fun i hi => (HS.out i hi).2⟩
      clear hke
      go_wp2
      go_ret
      exact ⟨ret_bool HT.out.symm, blw_⟩
end Go.Proofs.Ytmlgndeihfpfgaa
