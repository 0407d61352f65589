/- Texts of one family, one behind the other: CntL, CntR, CntW, FreL, CntSS, CntRS. -/
import Derived.Test.YtkikeanpbffpkaaChecked
import Derived.Deep.QuietTactic
import Derived.BigQuiet
import Derived.Deep.RegionWith
import Derived.Deep.DeepCutAuto
import Derived.IntWalk
import Derived.Still
import Derived.StillTailTactics
import Derived.Test.YtkikeanpbffpkaaGrCntD
import Derived.Test.YtkikeanpbffpkaaGrCopy
import Derived.Test.YtkikeanpbffpkaaGrCtx
import Derived.Test.YtkikeanpbffpkaaGrHeap
import Derived.Test.YtkikeanpbffpkaaGrCntI
import Derived.Test.YtkikeanpbffpkaaGrExecS
import Derived.Test.YtkikeanpbffpkaaPlace
import Derived.Test.YtkikeanpbffpkaaGrCmd
import Derived.Deep.RegionHeld3
import Derived.Test.YtkikeanpbffpkaaCmdsV
import Derived.Test.YtkikeanpbffpkaaBoxT
/- spec.l7Counts: how many references lead to every cell. -/
namespace Go.Proofs.Ytkikeanpbffpkaa
open Go.RowKit
set_option maxRecDepth 100000
set_option linter.unusedSimpArgs false
set_option linter.unusedVariables false
structure CtL (s0 : Nat) (A A' : Option Addr) (n c m c' : Nat) (w0 : World) (cs : List Int) (W : World) : Prop where
  h0 : W.cell? ⟨s0, 0, none⟩ = some (.slice A n c)
  h1 : W.cell? ⟨s0, 1, none⟩ = some (.slice A' m c')
  own : OF 3 fi W (some ⟨s0 + 1, 0, none⟩) n cs
  len : cs.length = n
  lt : s0 + 1 < W.heap.size
  bel : Below s0 w0 W
section
variable {s0 : Nat} {w0 W W' : World} {A A' : Option Addr} {n c m c' : Nat} {cs : List Int}
theorem CtL.below (h : CtL s0 A A' n c m c' w0 cs W) (hB : Below W.heap.size W W') : CtL s0 A A' n c m c' w0 cs W' :=
  ⟨cell_below h.h0 hB, cell_below h.h1 hB, h.own.below hB, h.len, Nat.lt_of_lt_of_le h.lt hB.size, h.bel.trans (hB.mono (by have := h.lt; omega))⟩
theorem CtL.set (h : CtL s0 A A' n c m c' w0 cs W) (k : Nat) (y : Int) : CtL s0 A A' n c m c' w0 (cs.set k y) (W.setCell ⟨s0 + 1, k, none⟩ (.int .i64 y)) := by
  have e0 := h.h0
  have e1 := h.h1
  exact ⟨by simp [go_sem, e0], by simp [go_sem, e1], h.own.set_ k y, by rw [List.length_set]; exact h.len, by simpa using h.lt, h.bel.setCell (by simp only; omega) _⟩
end
set_option maxHeartbeats 4000000 in
theorem l7Counts_any (v : Value) (h : HeapM) (w : World) (hv : RH w v h) (hva : validM h = true) :
    Calls Try.prog 69 #[v] w fun e w' => ∃ S k, e = .returned (.slice S h.cells.length k) ∧ OF 3 fi w' S k (cntsM h) ∧ (∀ g ∈ blk S, w.heap.size ≤ g) ∧ Below w.heap.size w w' := by
  obtain ⟨A, c, A', c', rfl, hc, hrr, -, -⟩ := hv
  have hsm := valid_small hva
  have hn40 : h.cells.length ≤ 40 := hsm.1
  have HC := Lib.hid hc
  have HR := Lib.hid hrr
  have HL := Lib.hid (valid_refs_lt hva)
  have HV := Lib.hid hva
  have hroots : h.roots.length = 4 := hsm.2.1
  have HR4 := Lib.hid hroots
  clear hc hrr hsm hva hroots
  have hmk := mk_ints h.cells.length (by omega)
  go_enter Try.func69, Try.ntmps69
  go_upto_region 2 with fail
  refine Code.gen (fun W => CtL w.heap.size A A' h.cells.length c h.roots.length c' w (List.replicate h.cells.length 0) W) ⟨by simp [go_sem], by simp [go_sem], OF.of_blkn (by simp) (heap_alloc_at _ _ _ (by first | rfl | simp)) (by simp only [maxLen]; simp; omega), by simp, by simp, blw_⟩ ?_
  clear hmk
  rintro W hS
  have HS := Lib.hid hS
  clear hS
  go_wp2
  go_loopw [4] (fun s4 wr => ∃ j : Nat, s4 = .int .i64 (j : Int) ∧ j ≤ h.roots.length ∧ Hid (CtL w.heap.size A A' h.cells.length c h.roots.length c' w (bumpL (List.replicate h.cells.length 0) (h.roots.take j)) wr)) (fun s4 _ => h.roots.length - (intOf s4).toNat)
  case atStart => exact ⟨0, rfl, by omega, HS⟩
  case round =>
    clear HS
    obtain ⟨j, rfl, hj, HS⟩ := hrel
    have q0 := HS.out.h0
    have q1 := HS.out.h1
    have hbz := HS.out.bel.size
    by_cases hlt : j < h.roots.length
    · obtain ⟨b, o, r, rfl, gr, d1, hb⟩ := (HR.out.below HS.out.bel).at_ hlt
      have d1' : wr.cell? ⟨b, o + j, none⟩ = some (.int .i64 r) := d1
      have hrc := HL.out.1 r (List.mem_of_getElem? gr)
      have HN := Lib.hid (bumpL_snoc (cs := List.replicate h.cells.length 0) gr)
      obtain ⟨X, hX⟩ : ∃ X, Hid (X = bumpL (List.replicate h.cells.length 0) (h.roots.take j)) := ⟨_, rfl⟩
      rw [← hX.out] at HS HN
      have HBX : Hid (∀ x ∈ X, 0 ≤ x ∧ x ≤ 1048576) := fun x hx => by
        rw [hX.out] at hx
        have := bumpL_bd (B := 0) _ (fun y hy => by have := (List.mem_replicate.1 hy).2; omega) (by omega) x hx
        have h4 := HR4.out
        simp at this
        omega
      have i0 : (0 : Int) ≤ (j : Int) := by omega
      have i1 : (j : Int) < (h.roots.length : Int) := by omega
      have i3 : (j : Int) + 1 < 9223372036854775807 := by have := HR4.out; omega
      clear gr d1
      by_cases h0 : 0 ≤ r
      · obtain ⟨x, rfl⟩ := Int.eq_ofNat_of_zero_le h0
        have hx : x < X.length := by rw [HS.out.len]; omega
        obtain ⟨y, hy⟩ : ∃ y, X[x]? = some y := ⟨_, List.getElem?_eq_getElem hx⟩
        have e1 : wr.cell? ⟨w.heap.size + 1, x, none⟩ = some (.int .i64 y) := HS.out.own.cell hy
        have f1 := HS.out.own.frozen x
        have hy2 := HBX.out y (List.mem_of_getElem? hy)
        have hy3 : y + 1 < 9223372036854775808 := by omega
        have HN2 : Hid (bumpL (List.replicate h.cells.length 0) (h.roots.take (j + 1)) = X.set x (y + 1)) := by
          unfold Hid
          rw [HN.out]
          unfold bump
          rw [if_pos (by omega), Int.toNat_natCast, List.getD_eq_getElem?_getD, hy]
          rfl
        clear hy
        go_upto_region 6 with fail
        refine Code.gen (fun W => W = wr) rfl ?_
        rintro _ rfl
        go_still_tail 16, (by kernel_rfl)
        go_wp2
        go_roundw
        case rel => exact ⟨j + 1, by go_num, by omega, by rw [HN2.out]; exact (HS.out.set x (y + 1)).below blw_⟩
        case measure => simp [intOf]; omega
      · have HN2 : Hid (bumpL (List.replicate h.cells.length 0) (h.roots.take (j + 1)) = X) := by
          unfold Hid
          rw [HN.out]
          unfold bump
          rw [if_neg h0]
        go_wp2
        go_roundw
        case rel => exact ⟨j + 1, by go_num, by omega, by rw [HN2.out]; exact HS⟩
        case measure => simp [intOf]; omega
    · have hje : j = h.roots.length := by omega
      subst hje
      have HS0 : Hid (CtL w.heap.size A A' h.cells.length c h.roots.length c' w (cntP h (fun _ => false) 0) wr) := by
        have h9 := HS.out
        rw [List.take_length, cntP_start h (fun _ => false)] at h9
        exact h9
      clear HS hlt
      go_wp2
      go_loopw [5] (fun s5 wr => ∃ i : Nat, s5 = .int .i64 (i : Int) ∧ i ≤ h.cells.length ∧ Hid (CtL w.heap.size A A' h.cells.length c h.roots.length c' w (cntP h (fun _ => false) i) wr)) (fun s5 _ => h.cells.length - (intOf s5).toNat)
      case atStart => exact ⟨0, rfl, by omega, HS0⟩
      case round =>
        clear HS0 q0 q1 hbz
        obtain ⟨i, rfl, hi, HS⟩ := hrel
        have q0 := HS.out.h0
        have hbz := HS.out.bel.size
        by_cases hlt : i < h.cells.length
        · obtain ⟨b, o, cc, Ac, cr2, rfl, gc, -, -, d2, hrf, -, hb⟩ := HC.out.at_ hlt
          have HRF := Lib.hid hrf
          have HN := Lib.hid (cntP_next h (fun _ => false) i)
          rw [refsAt_of gc] at HN
          simp only [Bool.false_eq_true, if_false] at HN
          have HRL := Lib.hid (HL.out.2 cc (List.mem_of_getElem? gc))
          have hr3 : cc.refs.length ≤ 3 := by have := refsAt_le HV.out i; rw [refsAt_of gc] at this; exact this
          have HD2 : Hid (w.cell? ⟨b, o + i * 3 + 2, none⟩ = some (.slice Ac cc.refs.length cr2)) := d2
          have i0 : (0 : Int) ≤ (i : Int) := by omega
          have i1 : (i : Int) < (h.cells.length : Int) := by omega
          have i3 : (i : Int) + 1 < 9223372036854775807 := by omega
          clear gc d2 hrf
          go_wp2
          go_loopw [6] (fun s6 wr => ∃ j : Nat, s6 = .int .i64 (j : Int) ∧ j ≤ cc.refs.length ∧ Hid (CtL w.heap.size (some ⟨b, o, none⟩) A' h.cells.length c h.roots.length c' w (bumpL (cntP h (fun _ => false) i) (cc.refs.take j)) wr)) (fun s6 _ => cc.refs.length - (intOf s6).toNat)
          case atStart => exact ⟨0, rfl, by omega, HS⟩
          case round =>
            clear HS q0 hbz
            obtain ⟨j, rfl, hj, HS⟩ := hrel
            have q0 := HS.out.h0
            have d2' := (HS.out.bel.cell (p := ⟨b, o + i * 3 + 2, none⟩) hb).trans HD2.out
            by_cases hlt2 : j < cc.refs.length
            · obtain ⟨b4, o4, r, rfl, gr, d1, hb4⟩ := (HRF.out.below HS.out.bel).at_ hlt2
              have d1' : wr.cell? ⟨b4, o4 + j, none⟩ = some (.int .i64 r) := d1
              have hrc := HRL.out r (List.mem_of_getElem? gr)
              have HN3 := Lib.hid (bumpL_snoc (cs := cntP h (fun _ => false) i) gr)
              obtain ⟨X, hX⟩ : ∃ X, Hid (X = bumpL (cntP h (fun _ => false) i) (cc.refs.take j)) := ⟨_, rfl⟩
              rw [← hX.out] at HS HN3
              have HBX : Hid (∀ x ∈ X, 0 ≤ x ∧ x ≤ 1048576) := fun x hx => by
                rw [hX.out] at hx
                have := bumpL_bd (B := 124) _ (cntP_bd HV.out hi) (by omega) x hx
                simp at this
                omega
              have j0 : (0 : Int) ≤ (j : Int) := by omega
              have j1 : (j : Int) < (cc.refs.length : Int) := by omega
              have j3 : (j : Int) + 1 < 9223372036854775807 := by omega
              clear gr d1
              by_cases h0 : 0 ≤ r
              · obtain ⟨x, rfl⟩ := Int.eq_ofNat_of_zero_le h0
                have hx : x < X.length := by rw [HS.out.len]; omega
                obtain ⟨y, hy⟩ : ∃ y, X[x]? = some y := ⟨_, List.getElem?_eq_getElem hx⟩
                have e1 : wr.cell? ⟨w.heap.size + 1, x, none⟩ = some (.int .i64 y) := HS.out.own.cell hy
                have f1 := HS.out.own.frozen x
                have hy2 := HBX.out y (List.mem_of_getElem? hy)
                have hy3 : y + 1 < 9223372036854775808 := by omega
                have HN2 : Hid (bumpL (cntP h (fun _ => false) i) (cc.refs.take (j + 1)) = X.set x (y + 1)) := by
                  unfold Hid
                  rw [HN3.out]
                  unfold bump
                  rw [if_pos (by omega), Int.toNat_natCast, List.getD_eq_getElem?_getD, hy]
                  rfl
                clear hy
                go_wp2
                go_roundw
                case rel => exact ⟨j + 1, by go_num, by omega, by rw [HN2.out]; exact HS.out.set x (y + 1)⟩
                case measure => simp [intOf]; omega
              · have HN2 : Hid (bumpL (cntP h (fun _ => false) i) (cc.refs.take (j + 1)) = X) := by
                  unfold Hid
                  rw [HN3.out]
                  unfold bump
                  rw [if_neg h0]
                go_wp2
                go_roundw
                case rel => exact ⟨j + 1, by go_num, by omega, by rw [HN2.out]; exact HS⟩
                case measure => simp [intOf]; omega
            · have hje : j = cc.refs.length := by omega
              subst hje
              have HS1 : Hid (CtL w.heap.size (some ⟨b, o, none⟩) A' h.cells.length c h.roots.length c' w (cntP h (fun _ => false) (i + 1)) wr) := by
                have h9 := HS.out
                rw [List.take_length, ← HN.out] at h9
                exact h9
              clear HS
              go_wp2
              go_roundw
              case rel => exact ⟨i + 1, by go_num, by omega, HS1⟩
              case measure => simp [intOf]; omega
        · have hie : i = h.cells.length := by omega
          subst hie
          have HF := Lib.hid HS.out.own
          have HB := Lib.hid HS.out.bel
          rw [cntP_end, cntsM_D] at HF
          go_wp2
          go_ret
          exact ⟨_, _, rfl, HF.out, fun g hg => by have := mem_blk_some hg; omega, HB.out⟩
end Go.Proofs.Ytkikeanpbffpkaa

/- spec.RefCounts. -/
namespace Go.Proofs.Ytkikeanpbffpkaa
open Go.RowKit
set_option maxRecDepth 100000
set_option linter.unusedSimpArgs false
set_option linter.unusedVariables false
def refCM (h : HeapM) : List Int := if validM h then cntsM h else []
set_option maxHeartbeats 4000000 in
theorem specRefCounts_any (v : Value) (h : HeapM) (w : World) (hv : RH w v h) :
    Calls Try.prog 61 #[v] w fun e w' => ∃ S k, e = .returned (.slice S (refCM h).length k) ∧ OF 3 fi w' S k (refCM h) ∧ (∀ g ∈ blk S, w.heap.size ≤ g) ∧ Below w.heap.size w w' := by
  obtain ⟨A, c, A', c', rfl⟩ := hv.parts
  go_enter Try.func61, Try.ntmps61
  go_upto_region 1 with fail
  refine Code.gen (Stb (fun W => RH W (.agg #[.slice A h.cells.length c, .slice A' h.roots.length c']) h ∧ Bx W w.heap.size [.slice A h.cells.length c, .slice A' h.roots.length c'] ∧ Below w.heap.size w W)) (Stb.and (Stb.rh (hv.below blw_)) (Stb.and (Stb.bx ((Bx.new w [.slice A h.cells.length c, .slice A' h.roots.length c'] 26).below blw_)) (Stb.here blw_))) ?_
  rintro W HI
  have c0 := HI.now.2.1.c 0 _ rfl
  have c1 := HI.now.2.1.c 1 _ rfl
  clear hv
  go_wp2_with fail
  (with_reducible refine (specHeapValid_any _ h _ (HI.now.1.below blw_)).mono ?_); rintro e w2 ⟨rfl, hB⟩
  replace HI := HI.step (show Below W.heap.size W w2 from blw_)
  clear hB c0 c1
  have c0 := HI.now.2.1.c 0 _ rfl
  have c1 := HI.now.2.1.c 1 _ rfl
  have hz := HI.now.2.2.size
  have HB := HI.now.2.2
  rcases bool_ft (validM h) with hva | hva
  · have HE : Hid (refCM h = []) := by unfold Hid refCM; rw [hva]; rfl
    rw [hva]
    go_wp2
    go_ret
    rw [HE.out]
    exact ⟨_, _, rfl, OF.of_blkn (xs := ([] : List Int)) rfl (heap_alloc_at _ _ _ (by first | rfl | simp)) (Nat.zero_le _), fun g hg => by rw [mem_blk_some hg]; exact hz, blw_⟩
  · have HE : Hid (refCM h = cntsM h) := by unfold Hid refCM; rw [hva]; rfl
    have HV := Lib.hid hva
    rw [hva]
    go_wp2_with fail
    (with_reducible refine (l7Counts_any _ h _ (HI.now.1.below blw_) HV.out).mono ?_); rintro e w3 ⟨S, k, rfl, hO, hg, hB⟩
    have HO := Lib.hid hO
    have HG := Lib.hid hg
    clear hO hg
    go_wp2
    go_ret
    rw [HE.out, cntsM_len]
    exact ⟨_, _, rfl, HO.out, fun g hg => by have := HG.out g hg; omega, Below.trans HB (Below.trans (Below.mono (show Below w2.heap.size w2 _ from blw_) hz) (Below.refl _ _))⟩
end Go.Proofs.Ytkikeanpbffpkaa

/- spec.CountedValid. -/
namespace Go.Proofs.Ytkikeanpbffpkaa
open Go.RowKit
set_option maxRecDepth 100000
set_option linter.unusedSimpArgs false
set_option linter.unusedVariables false
theorem countOk_ref (p : CountM) : countOk p = (decide (p.counts = refCM p.store) && validM p.store) := by
  unfold countOk refCM
  cases validM p.store <;> simp
set_option maxHeartbeats 4000000 in
theorem specCountedValid_any (v : Value) (p : CountM) (w : World) (hv : RCt w v p) :
    Calls Try.prog 31 #[v] w fun e w' => e = .returned (.bool (countOk p)) ∧ Below w.heap.size w w' := by
  obtain ⟨A, c, A', c', C, c2, rfl⟩ := hv.parts
  have hl40 : Hid ((refCM p.store).length ≤ 40) := by
    unfold Hid refCM
    rcases bool_ft (validM p.store) with h | h
    · rw [h]; simp
    · rw [h]; simp only [if_true]; rw [cntsM_len]; exact (valid_small h).1
  go_enter Try.func31, Try.ntmps31
  go_upto_region 1 with fail
  refine Code.gen (Stb (fun W => RCt W (.agg #[.slice A p.store.cells.length c, .slice A' p.store.roots.length c', .slice C p.counts.length c2]) p ∧ Bx W w.heap.size [.slice A p.store.cells.length c, .slice A' p.store.roots.length c', .slice C p.counts.length c2] ∧ Below w.heap.size w W)) (Stb.and (Stb.rct (hv.below blw_)) (Stb.and (Stb.bx ((Bx.new w [.slice A p.store.cells.length c, .slice A' p.store.roots.length c', .slice C p.counts.length c2] 28).below blw_)) (Stb.here blw_))) ?_
  rintro W HI
  have k0 := HI.now.2.1.c 0 _ rfl
  have k1 := HI.now.2.1.c 1 _ rfl
  clear hv
  go_wp2_with fail
  (with_reducible refine (specRefCounts_any _ p.store _ (HI.now.1.st.below blw_)).mono ?_); rintro e w2 ⟨S, k, rfl, hO, -, hB⟩
  replace HI := HI.step (show Below W.heap.size W w2 from blw_)
  have HO := Lib.hid hO
  clear hB k0 k1 hO
  have k0 := HI.now.2.1.c 0 _ rfl
  have k1 := HI.now.2.1.c 1 _ rfl
  have k2 := HI.now.2.1.c 2 _ rfl
  have HB := Lib.hid HI.now.2.2
  have HW := Lib.hid (countOk_ref p)
  by_cases hlen : (refCM p.store).length = p.counts.length
  · have hle : ((refCM p.store).length : Int) = (p.counts.length : Int) := by omega
    have HLE := Lib.hid hlen
    obtain ⟨X, hX⟩ : ∃ X, Hid (X = refCM p.store) := ⟨_, rfl⟩
    rw [← hX.out] at HO HW HLE hl40 hle ⊢
    have hb0 : ((X.length : Int) != (p.counts.length : Int)) = false := by simp [hle]
    clear hlen hle
    go_wp2
    go_loopw [4] (fun s4 wr => ∃ j : Nat, s4 = .int .i64 (j : Int) ∧ j ≤ X.length ∧ Hid (∀ i, i < j → p.counts[i]? = X[i]?) ∧ ∃ n, wr = w2.drewN n) (fun s4 _ => X.length - (intOf s4).toNat)
    case atStart => exact ⟨0, rfl, by omega, fun i hi => by omega, 0, rfl⟩
    case round =>
      obtain ⟨j, rfl, hj, HE, n9, rfl⟩ := hrel
      by_cases hlt : j < X.length
      · obtain ⟨b1, o1, y1, rfl, g1, m1, -⟩ := HO.out.rf.at_ hlt
        obtain ⟨b2, o2, y2, rfl, g2, m2, -⟩ := HI.now.1.co.at_ (show j < p.counts.length by have := HLE.out; omega)
        have q1 : w2.cell? ⟨b1, o1 + j, none⟩ = some (.int .i64 y1) := m1
        have q2 : w2.cell? ⟨b2, o2 + j, none⟩ = some (.int .i64 y2) := m2
        have i0 : (0 : Int) ≤ (j : Int) := by omega
        have i1 : (j : Int) < (X.length : Int) := by omega
        have i2 : (j : Int) < (p.counts.length : Int) := by have := HLE.out; omega
        have i3 : (j : Int) + 1 < 9223372036854775807 := by have := hl40.out; omega
        have G1 := Lib.hid g1
        have G2 := Lib.hid g2
        clear m1 m2 g1 g2
        by_cases he : y1 = y2
        · subst he
          have hne : (y1 != y1) = false := by simp
          go_wp2
          go_quiet (fail)
          go_wp2
          go_roundw
          case rel => exact ⟨j + 1, by go_num, by omega, fun i hi => by
              by_cases e : i = j
              · subst e; rw [G1.out, G2.out]
              · exact HE.out i (by omega), _, by first | rfl | (simp; rfl)⟩
          case measure => simp [intOf]; omega
        · have hne : (y1 != y2) = true := by simpa using he
          have HF : Hid (countOk p = false) := by
            unfold Hid
            rw [HW.out]
            rw [decide_eq_false (fun h => he (by have h1 := G1.out; have h2 := G2.out; rw [h, h1] at h2; injection h2))]
            rfl
          go_wp2
          go_quiet (fail)
          go_wp2
          go_ret
          exact ⟨by rw [HF.out]; rfl, by have hB := HB.out; have hz := hB.size; exact blw_⟩
      · have HF : Hid (countOk p = validM p.store) := by
          unfold Hid
          rw [HW.out, decide_eq_true (show p.counts = X from by
            apply List.ext_getElem?
            intro i
            by_cases hi : i < X.length
            · exact HE.out i (by omega)
            · rw [List.getElem?_eq_none (by have := HLE.out; omega), List.getElem?_eq_none (by omega)])]
          rfl
        have hB := HB.out
        have hz := hB.size
        go_wp2_with fail
        (with_reducible refine (specHeapValid_any _ p.store _ (HI.now.1.st.below blw_)).mono ?_); rintro e w3 ⟨rfl, hB3⟩
        go_wp2
        go_ret
        exact ⟨by rw [HF.out]; rfl, blw_⟩
  · have HF : Hid (countOk p = false) := by
      unfold Hid
      rw [HW.out, decide_eq_false (fun h => hlen (by rw [h]))]
      rfl
    have hb0 : (((refCM p.store).length : Int) != (p.counts.length : Int)) = true := by simp; omega
    have hn0 : ¬ ((refCM p.store).length : Int) = (p.counts.length : Int) := by omega
    have hB := HB.out
    have hz := hB.size
    go_wp2
    go_ret
    exact ⟨by rw [HF.out]; rfl, blw_⟩
end Go.Proofs.Ytkikeanpbffpkaa

/- spec.l10Free: the reference's freeing. -/
namespace Go.Proofs.Ytkikeanpbffpkaa
open Go.RowKit
set_option maxRecDepth 100000
set_option linter.unusedSimpArgs false
set_option linter.unusedVariables false
/-- What the search for a cell to free has found among the first k. -/
def AtM (h : HeapM) (dead : Nat → Bool) (k : Nat) (a : Int) : Prop :=
  (a = -1 ∧ ∀ i, i < k → usedN h.cells i = true → dead i = false → cntD h dead i ≠ 0) ∨ ∃ m : Nat, a = (m : Int) ∧ m < k ∧ usedN h.cells m = true ∧ dead m = false ∧ cntD h dead m = 0
theorem AtM.zero (h : HeapM) (dead : Nat → Bool) : AtM h dead 0 (-1) := .inl ⟨rfl, fun i hi => absurd hi (Nat.not_lt_zero _)⟩
theorem AtM.yes {h : HeapM} {dead : Nat → Bool} {k : Nat} {a : Int} (hu : (usedN h.cells k && !dead k) = true) (h0 : cntD h dead k = 0) : AtM h dead (k + 1) (k : Int) := by
  simp only [Bool.and_eq_true, Bool.not_eq_true'] at hu
  exact .inr ⟨k, rfl, Nat.lt_succ_self _, hu.1, hu.2, h0⟩
theorem AtM.no {h : HeapM} {dead : Nat → Bool} {k : Nat} {a : Int} (i : AtM h dead k a) (hn : (usedN h.cells k && !dead k) = false ∨ cntD h dead k ≠ 0) : AtM h dead (k + 1) a := by
  rcases i with ⟨e, h1⟩ | ⟨m, e, h1, h2, h3, h4⟩
  · refine .inl ⟨e, fun i hi hu hd => ?_⟩
    by_cases hk : i = k
    · subst hk
      rcases hn with hn | hn
      · rw [hu, hd] at hn; cases hn
      · exact hn
    · exact h1 i (by omega) hu hd
  · exact .inr ⟨m, e, by omega, h2, h3, h4⟩
theorem AtM.none_ {h : HeapM} {dead : Nat → Bool} (i : AtM h dead h.cells.length (-1)) (hf : ∀ j, dead j = true → Fre h j) (k : Nat) : dead k = true ↔ Fre h k := by
  refine all_fre hf (fun k hu hd => ?_) k
  rcases i with ⟨-, h1⟩ | ⟨m, e, -⟩
  · exact h1 k (usedN_lt hu) hu hd
  · omega
structure LfS (n lo s2 s3 : Nat) (w0 : World) (A : Option Addr) (c : Nat) (A' : Option Addr) (c' : Nat) (os : List OCell) (rs : List Int) (W : World) : Prop where
  own : OHs W A c A' c' os rs
  low : ∀ g ∈ hblks A os A', lo ≤ g
  b2 : Bx W s2 [.slice none 0 0, .slice none 0 0, .slice none 0 0]
  b3 : Bx W s3 [.slice A n c, .slice A' rs.length c']
  n2 : s2 ∉ hblks A os A'
  n3 : s3 ∉ hblks A os A'
  ls : lo ≤ s2 ∧ lo ≤ s3
  nl : os.length = n
  bel : Below lo w0 W
section
variable {n lo s2 s3 : Nat} {w0 W W' : World} {A A' : Option Addr} {c c' : Nat} {os : List OCell} {rs : List Int}
theorem LfS.below (h : LfS n lo s2 s3 w0 A c A' c' os rs W) (hB : Below W.heap.size W W') : LfS n lo s2 s3 w0 A c A' c' os rs W' :=
  ⟨h.own.keep fun g hg => hB.block g (h.own.lt g hg), h.low, h.b2.below hB, h.b3.below hB, h.n2, h.n3, h.ls, h.nl, h.bel.trans (hB.mono (by have := h.b2.lt; have := h.ls; omega))⟩
theorem LfS.free {gA q : Nat} (h : LfS n lo s2 s3 w0 (some ⟨gA, 0, none⟩) c A' c' os rs W) (hql : q < os.length) :
    LfS n lo s2 s3 w0 (some ⟨gA, 0, none⟩) c A' c' (os.set q zeroO) rs (((W.setCell ⟨gA, q * 3, none⟩ (.bool false)).setCell ⟨gA, q * 3 + 1, none⟩ (.int .i64 0)).setCell ⟨gA, q * 3 + 2, none⟩ (.slice none 0 0)) := by
  have hgA : gA ∈ blk (some ⟨gA, 0, none⟩) := by simp [blk]
  have hgh : gA ∈ hblks (some ⟨gA, 0, none⟩) os A' := List.mem_append.2 (.inl (List.mem_append.2 (.inl hgA)))
  have hO : Only (blk (some ⟨gA, 0, none⟩)) W (((W.setCell ⟨gA, q * 3, none⟩ (.bool false)).setCell ⟨gA, q * 3 + 1, none⟩ (.int .i64 0)).setCell ⟨gA, q * 3 + 2, none⟩ (.slice none 0 0)) :=
    (((Only.refl _ _).setCell (.inl hgA) _).setCell (.inl hgA) _).setCell (.inl hgA) _
  have hC := h.own.cells.set_ q zeroO hql OF.nil (by simp [zeroO, freeCell])
  have hsub := blks_set_zero (os := os) (k := q)
  have hh : ∀ g, g ∈ hblks (some ⟨gA, 0, none⟩) (os.set q zeroO) A' → g ∈ hblks (some ⟨gA, 0, none⟩) os A' := by
    intro g hg
    rcases List.mem_append.1 hg with hg | hg
    · rcases List.mem_append.1 hg with hg | hg
      · exact List.mem_append.2 (.inl (List.mem_append.2 (.inl hg)))
      · exact List.mem_append.2 (.inl (List.mem_append.2 (.inr (hsub.subset hg))))
    · exact List.mem_append.2 (.inr hg)
  have nn : ∀ g, g ∈ blk (some (⟨gA, 0, none⟩ : Addr)) → g ∈ hblks (some ⟨gA, 0, none⟩) os A' := fun g hg => List.mem_append.2 (.inl (List.mem_append.2 (.inl hg)))
  exact ⟨h.own.put_ hC hsub (by simp) hO, fun g hg => h.low g (hh g hg), h.b2.only hO (fun hc => h.n2 (nn _ hc)), h.b3.only hO (fun hc => h.n3 (nn _ hc)), fun hc => h.n2 (hh _ hc), fun hc => h.n3 (hh _ hc), h.ls, by rw [List.length_set]; exact h.nl,
    ((h.bel.setCell (h.low gA hgh) _).setCell (h.low gA hgh) _).setCell (h.low gA hgh) _⟩
theorem LfS.oc {p : CountM} {cnt : List Int} {S : Option Addr} {k : Nat} (f : LfS n lo s2 s3 w0 A c A' c' os rs W) (hm : os.map (·.c) = p.store.cells) (hr : rs = p.store.roots) (hc : cnt = p.counts) (hS : OF 3 fi W S k cnt) (hA : ∀ g ∈ blk S, lo ≤ g ∧ g ∉ hblks A os A') (h2 : s2 ∉ blk S) (hl2 : cnt.length = n) (hOn : Only [s2] W W') :
    OCt lo W' (.agg #[.slice A n c, .slice A' rs.length c', .slice S n k]) p := by
  subst hr
  subst hc
  have hl : n = p.store.cells.length := by rw [← hm, List.length_map]; exact f.nl.symm
  refine ⟨A, c, A', c', os, S, k, by rw [hl2, ← hl], hm, f.own.keep fun x hx => hOn.block x (f.own.lt x hx) (fun hc => f.n2 (by simp at hc; exact hc ▸ hx)), hS.only hOn (fun x hx hc => h2 (by simp at hc; exact hc ▸ hx)), ?_, ?_, ?_⟩
  · rw [List.nodup_append]
    exact ⟨f.own.nodup, blk_nodup _, fun a ha b hb e => by subst e; exact (hA a hb).2 ha⟩
  · intro g hg
    rcases List.mem_append.1 hg with hg | hg
    · exact f.low g hg
    · exact (hA g hg).1
  · rcases hS.2 with ⟨-, h0⟩ | ⟨g, cap, cur, -, -, -, h1, h2, -⟩
    · omega
    · simp only [maxLen] at h2; omega
end
set_option maxHeartbeats 4000000 in
theorem l10Free_any (v : Value) (h : HeapM) (w : World) (hv : RH w v h) (hva : validM h = true) :
    Calls Try.prog 36 #[v] w fun e w' => ∃ v', e = .returned v' ∧ OCt w.heap.size w' v' (freeC h) ∧ Below w.heap.size w w' := by
  obtain ⟨A, c, A', c', rfl⟩ := hv.parts
  have HV := Lib.hid hva
  have HSM := Lib.hid (valid_small hva)
  have hn40 := HSM.out.1
  clear hva
  go_enter Try.func36, Try.ntmps36
  go_wp2_with fail
  (with_reducible refine (l7Copy_any _ h _ (hv.below blw_) (by omega) (fun d hd => by have := HSM.out.2.2 d hd; omega) (by have := HSM.out.2.1; omega)).mono ?_); rintro e w1 ⟨v1, rfl, ⟨B, d, B', d', os, rfl, hm, hO, hlo⟩, hB1⟩
  have X2 : Bx w1 (w.heap.size + 1) [.slice none 0 0, .slice none 0 0, .slice none 0 0] := (show Bx ((w.alloc (.cells #[.slice A h.cells.length c, .slice A' h.roots.length c'] 26)).alloc (.cells #[.slice none 0 0, .slice none 0 0, .slice none 0 0] 28)) (w.heap.size + 1) _ by simpa using Bx.new (w.alloc (.cells #[.slice A h.cells.length c, .slice A' h.roots.length c'] 26)) [.slice none 0 0, .slice none 0 0, .slice none 0 0] 28).below hB1
  have hBw : Below w.heap.size w w1 := Below.trans (show Below w.heap.size w ((w.alloc (.cells #[.slice A h.cells.length c, .slice A' h.roots.length c'] 26)).alloc (.cells #[.slice none 0 0, .slice none 0 0, .slice none 0 0] 28)) from blw_) (hB1.mono (by simp; omega))
  have hz1 := hB1.size
  simp at hz1 hlo
  clear hv HSM hB1
  go_upto_region 2 with fail
  refine Code.gen (fun W => LfS h.cells.length w.heap.size (w.heap.size + 1) w1.heap.size w B d B' d' os h.roots W) ⟨hO.keep fun g hg => Below.block (show Below w1.heap.size w1 _ from blw_) g (hO.lt g hg), fun g hg => by have := hlo g hg; omega, X2.below blw_, (Bx.new w1 [.slice B h.cells.length d, .slice B' h.roots.length d'] 26).below blw_, fun hc => by have := hlo _ hc; omega, fun hc => by have := hO.lt _ hc; omega, ⟨by omega, by omega⟩, by rw [← hm, List.length_map], blw_⟩ ?_
  have HM := Lib.hid hm
  clear hm hO hlo X2 hBw
  rintro W hF
  have HF := Lib.hid hF
  clear hF
  go_wp2
  go_loopg [] (mD h.cells.length (fun _ => false)) (fun k wr => ∃ (dead : Nat → Bool) (os : List OCell), Hid (k = mD h.cells.length dead) ∧ Hid (os.map (·.c) = (dropF h dead).cells) ∧ Hid ((∀ j, dead j = true → Fre h j) ∧ ∀ j, dead j = true → cntD h dead j = 0) ∧ Hid (LfS h.cells.length w.heap.size (w.heap.size + 1) w1.heap.size w B d B' d' os h.roots wr))
  case atStart => exact ⟨fun _ => false, os, rfl, by rw [dropF_none]; exact HM.out, Lib.hid (And.intro (fun j (hj : false = true) => by cases hj) (fun j (hj : false = true) => by cases hj)), HF⟩
  case round =>
    clear HF HM
    obtain ⟨dead, os, HD, HM, HZ, HF⟩ := hrel
    have q0 := HF.out.b3.c 0 _ rfl
    have q1 := HF.out.b3.c 1 _ rfl
    have hrh : RH wr (.agg #[.slice B h.cells.length d, .slice B' h.roots.length d']) (dropF h dead) := by
      have h9 := (HF.out.own.rhs (h := dropF h dead) HM.out).rh d d'
      rw [dropF_len] at h9
      exact h9
    go_wp2_with fail
    (with_reducible refine (l7Counts_any _ (dropF h dead) _ (hrh.below blw_) (dropF_valid HV.out HZ.out.2)).mono ?_); rw [dropF_len]; rintro e w2 ⟨S, k, rfl, hS, hgS, hB2⟩
    have hBr : Below wr.heap.size wr w2 := blw_
    have HF2 := Lib.hid (HF.out.below hBr)
    have HAP : Hid (∀ g ∈ blk S, w.heap.size ≤ g ∧ g ∉ hblks B os B') := fun g hg => by
      have h1 := hgS g hg
      have h2 := HF.out.bel.size
      have h3 := hBr.size
      try simp at h1
      exact ⟨by omega, fun hc => by have := HF.out.own.lt g hc; omega⟩
    have HA2 : Hid (w.heap.size + 1 ∉ blk S) := fun hc => by
      have h1 := hgS _ hc
      have h2 := HF.out.b2.lt
      try simp at h1
      omega
    have HS := Lib.hid hS
    clear hS hgS hB2 q0 q1 hrh HF
    have q0 := HF2.out.b3.c 0 _ rfl
    have q1 := HF2.out.b3.c 1 _ rfl
    have hcl : (cntsM (dropF h dead)).length = h.cells.length := by rw [cntsM_len, dropF_len]
    have HCL := Lib.hid hcl
    clear hcl
    go_wp2_with fail
    go_loopw [6, 5] (fun s6 s5 wx => ∃ (j : Nat) (a : Int), s6 = .int .i64 (j : Int) ∧ s5 = .int .i64 a ∧ j ≤ h.cells.length ∧ Hid (AtM h dead j a) ∧ ∃ n9, wx = w2.drewN n9) (fun s6 _ _ => h.cells.length - (intOf s6).toNat)
    case atStart => exact ⟨0, -1, rfl, rfl, by omega, AtM.zero h dead, 0, rfl⟩
    case round =>
      obtain ⟨j, a, rfl, rfl, hj, HA, n9, rfl⟩ := hrel
      by_cases hlt : j < h.cells.length
      · have hjo : j < os.length := by rw [HF2.out.nl]; exact hlt
        obtain ⟨o, ho2⟩ : ∃ o, os[j]? = some o := ⟨_, List.getElem?_eq_getElem hjo⟩
        obtain ⟨gA, rfl, d0, -, -, hgA⟩ := HF2.out.own.cells.at_ ho2
        have hus : (usedN h.cells j && !dead j) = o.c.used := by
          rw [← dropF_used, ← HM.out]
          exact usedN_at (by rw [List.getElem?_map, ho2]; rfl)
        have HU := Lib.hid hus
        have hjc : j < (cntsM (dropF h dead)).length := by rw [HCL.out]; exact hlt
        obtain ⟨gS, rfl, hgS⟩ := HS.out.some_ hjc
        obtain ⟨y, hy⟩ : ∃ y, (cntsM (dropF h dead))[j]? = some y := ⟨_, List.getElem?_eq_getElem hjc⟩
        have d1 : w2.cell? ⟨gS, j, none⟩ = some (.int .i64 y) := HS.out.cell hy
        have HY : Hid (y = (cntD h dead j : Int)) := by
          have h9 : (cntsM (dropF h dead)).getD j 0 = y := by rw [List.getD_eq_getElem?_getD, hy]; rfl
          rw [← cntsM_D, cntsD_getD (by rw [dropF_len]; exact hlt), dropF_cnt] at h9
          exact h9.symm
        have i0 : (0 : Int) ≤ (j : Int) := by omega
        have i1 : (j : Int) < (h.cells.length : Int) := by omega
        have i3 : (j : Int) + 1 < 9223372036854775807 := by omega
        clear ho2 hus hjc hy hjo
        rcases bool_ft o.c.used with hu | hu
        · rw [hu] at d0 HU
          have HN := Lib.hid (HA.out.no (.inl HU.out))
          go_wp2
          go_roundw
          case rel => exact ⟨j + 1, a, by go_num, rfl, by omega, HN, n9, rfl⟩
          case measure => simp [intOf]; omega
        · rw [hu] at d0 HU
          by_cases hy0 : y = 0
          · subst hy0
            have HN : Hid (AtM h dead (j + 1) (j : Int)) := AtM.yes (a := a) HU.out (by have := HY.out; omega)
            go_wp2
            go_roundw
            case rel => exact ⟨j + 1, j, by go_num, rfl, by omega, HN, n9, rfl⟩
            case measure => simp [intOf]; omega
          · have hb0 : (y == 0) = false := by rw [beq_eq_false_iff_ne]; exact hy0
            have HN := Lib.hid (HA.out.no (.inr (by have := HY.out; omega)))
            go_wp2
            go_roundw
            case rel => exact ⟨j + 1, a, by go_num, rfl, by omega, HN, n9, rfl⟩
            case measure => simp [intOf]; omega
      · have hje : j = h.cells.length := by omega
        subst hje
        by_cases ha : a < 0
        · have ha1 : a = -1 := by rcases HA.out with ⟨e, -⟩ | ⟨m, e, -⟩ <;> omega
          subst ha1
          have hdone := dropF_fre (AtM.none_ HA.out HZ.out.1)
          have r0 := HF2.out.b2.c 0 _ rfl
          have r1 := HF2.out.b2.c 1 _ rfl
          have r2 := HF2.out.b2.c 2 _ rfl
          have f0 := HF2.out.b2.f 0
          have f1 := HF2.out.b2.f 1
          have f2 := HF2.out.b2.f 2
          have HDN := Lib.hid hdone
          clear hdone
          go_wp2_with fail
          refine bodyPost_ret (v := .agg #[.slice B h.cells.length d, .slice B' h.roots.length d', .slice S h.cells.length k]) (by simp [results, Try.results36, go_sem, r0, r1, r2]) rfl ⟨_, rfl, (HF2.out.below (Below.drewn (n := n9) (Below.refl _ _))).oc (p := freeC h) (cnt := cntsM (dropF h dead)) (by rw [HM.out, HDN.out.1]; rfl) rfl (by rw [HDN.out.1]; rfl) (HS.out.below (Below.drewn (n := n9) (Below.refl _ _))) HAP.out HA2.out HCL.out ?_, ?_⟩
          · exact (by repeat (first | (with_reducible exact Only.refl _ _) | (with_reducible refine Only.drew ?_) | (refine Only.setCell ?_ (.inl (by simp)) _)))
          · have hbl := Below.drewn (n := n9) HF2.out.bel
            exact (by repeat (first | (with_reducible assumption) | (with_reducible refine Below.drew ?_) | (refine Below.setCell ?_ (by simp only; omega) _)))
        · obtain ⟨m, rfl, hm1, hm2, hm3, hm4⟩ : ∃ m : Nat, a = (m : Int) ∧ m < h.cells.length ∧ usedN h.cells m = true ∧ dead m = false ∧ cntD h dead m = 0 := by
            rcases HA.out with ⟨e, -⟩ | h9
            · omega
            · exact h9
          have hmo : m < os.length := by rw [HF2.out.nl]; exact hm1
          obtain ⟨o, ho2⟩ : ∃ o, os[m]? = some o := ⟨_, List.getElem?_eq_getElem hmo⟩
          obtain ⟨gA, rfl, d0, d1, d2, hgA⟩ := HF2.out.own.cells.at_ ho2
          have fA0 := HF2.out.own.cells.frozen (m * 3)
          have fA1 := HF2.out.own.cells.frozen (m * 3 + 1)
          have fA2 := HF2.out.own.cells.frozen (m * 3 + 2)
          have i0 : (0 : Int) ≤ (m : Int) := by omega
          have i1 : (m : Int) < (h.cells.length : Int) := by omega
          have HE := Lib.hid ((HF2.out.below (Below.drewn (n := n9) (Below.refl _ _))).free hmo)
          have HM2 : Hid ((os.set m zeroO).map (·.c) = (dropF h (updD dead m)).cells) := by unfold Hid; rw [← dropF_set, ← HM.out, List.map_set]; rfl
          have HZ2 := Lib.hid (And.intro (upd_fre HZ.out.1 hm2 hm4) (cnt_upd_zero HZ.out.2 hm1 hm3 hm4))
          have HD2 : Hid (mD h.cells.length (updD dead m) < gk) := by unfold Hid; rw [HD.out]; have := mD_upd hm1 hm3; omega
          clear ho2
          go_wp2
          go_roundg (mD h.cells.length (updD dead m))
          case rel => exact ⟨updD dead m, os.set m zeroO, rfl, HM2, HZ2, HE.out.below blw_⟩
          case measure => exact HD2.out
end Go.Proofs.Ytkikeanpbffpkaa

/- spec.StepCounted. -/
namespace Go.Proofs.Ytkikeanpbffpkaa
open Go.RowKit
set_option maxRecDepth 100000
set_option linter.unusedSimpArgs false
set_option linter.unusedVariables false
set_option maxHeartbeats 4000000 in
theorem specStepCounted_any (v : Value) (p : CountM) (o : CmdM) (w : World) (hv : RCt w v p) :
    Calls Try.prog 8 #[v, .agg #[.int .i64 o.op, .int .i64 o.a, .int .i64 o.b, .int .i64 o.c]] w fun e w' => ∃ v', e = .returned (.tuple #[v', .bool (stepCountM p o).2]) ∧ OCt w.heap.size w' v' (stepCountM p o).1 ∧ Below w.heap.size w w' := by
  obtain ⟨A_p, n_p, B_p, m_p, C_p, k_p, rfl⟩ := hv.parts
  go_enter Try.func8, Try.ntmps8
  go_upto_region 1 with fail
  refine Code.gen (Stb (fun W => RCt W (.agg #[.slice A_p p.store.cells.length n_p, .slice B_p p.store.roots.length m_p, .slice C_p p.counts.length k_p]) p ∧ Bx W w.heap.size [.slice A_p p.store.cells.length n_p, .slice B_p p.store.roots.length m_p, .slice C_p p.counts.length k_p] ∧ Bx W (w.heap.size + 1) [.int .i64 o.op, .int .i64 o.a, .int .i64 o.b, .int .i64 o.c] ∧ Bx W (w.heap.size + 2) [.slice none 0 0, .slice none 0 0, .slice none 0 0] ∧ w.heap.size + 3 ≤ W.heap.size ∧ Below w.heap.size w W)) (Stb.and (Stb.rct (hv.below blw_)) (Stb.and (Stb.bx ((Bx.new w [.slice A_p p.store.cells.length n_p, .slice B_p p.store.roots.length m_p, .slice C_p p.counts.length k_p] 28).below blw_)) (Stb.and (Stb.bx ((show Bx ((w.alloc (.cells #[.slice A_p p.store.cells.length n_p, .slice B_p p.store.roots.length m_p, .slice C_p p.counts.length k_p] 28)).alloc (.cells #[.int .i64 o.op, .int .i64 o.a, .int .i64 o.b, .int .i64 o.c] 30)) (w.heap.size + 1) [.int .i64 o.op, .int .i64 o.a, .int .i64 o.b, .int .i64 o.c] by simpa using Bx.new (w.alloc (.cells #[.slice A_p p.store.cells.length n_p, .slice B_p p.store.roots.length m_p, .slice C_p p.counts.length k_p] 28)) [.int .i64 o.op, .int .i64 o.a, .int .i64 o.b, .int .i64 o.c] 30).below blw_)) (Stb.and (Stb.bx ((show Bx (((w.alloc (.cells #[.slice A_p p.store.cells.length n_p, .slice B_p p.store.roots.length m_p, .slice C_p p.counts.length k_p] 28)).alloc (.cells #[.int .i64 o.op, .int .i64 o.a, .int .i64 o.b, .int .i64 o.c] 30)).alloc (.cells #[.slice none 0 0, .slice none 0 0, .slice none 0 0] 28)) (w.heap.size + 2) [.slice none 0 0, .slice none 0 0, .slice none 0 0] by simpa using Bx.new ((w.alloc (.cells #[.slice A_p p.store.cells.length n_p, .slice B_p p.store.roots.length m_p, .slice C_p p.counts.length k_p] 28)).alloc (.cells #[.int .i64 o.op, .int .i64 o.a, .int .i64 o.b, .int .i64 o.c] 30)) [.slice none 0 0, .slice none 0 0, .slice none 0 0] 28).below blw_)) (Stb.and (Stb.size (by simp)) (Stb.here blw_)))))) ?_
  rintro W HI
  clear hv
  rcases bool_ft (countOk p) with hcv | hcv
  · have HX : Hid (stepCountM p o = (zeroC, false)) := by unfold Hid stepCountM; rw [hcv]; rfl
    have c_p0 := HI.now.2.1.c 0 _ rfl
    have c_p1 := HI.now.2.1.c 1 _ rfl
    have c_p2 := HI.now.2.1.c 2 _ rfl
    have c_o0 := HI.now.2.2.1.c 0 _ rfl
    have c_o1 := HI.now.2.2.1.c 1 _ rfl
    have c_o2 := HI.now.2.2.1.c 2 _ rfl
    have c_o3 := HI.now.2.2.1.c 3 _ rfl
    have zz := HI.now.2.2.2.2.1
    go_wp2_with fail
    refine Calls.gen (Stb (fun W => RCt W (.agg #[.slice A_p p.store.cells.length n_p, .slice B_p p.store.roots.length m_p, .slice C_p p.counts.length k_p]) p ∧ Bx W w.heap.size [.slice A_p p.store.cells.length n_p, .slice B_p p.store.roots.length m_p, .slice C_p p.counts.length k_p] ∧ Bx W (w.heap.size + 1) [.int .i64 o.op, .int .i64 o.a, .int .i64 o.b, .int .i64 o.c] ∧ Bx W (w.heap.size + 2) [.slice none 0 0, .slice none 0 0, .slice none 0 0] ∧ w.heap.size + 3 ≤ W.heap.size ∧ Below w.heap.size w W)) (HI.step blw_) ?_
    clear c_p0 c_p1 c_p2 c_o0 c_o1 c_o2 c_o3 zz
    clear HI 
    rintro W HI
    (with_reducible refine (specCountedValid_any _ p _ HI.now.1).mono ?_); rw [hcv]; rintro e w2 ⟨rfl, hB⟩
    replace HI := HI.step hB
    clear hB
    have HB := HI.now.2.2.2.2.2
    have c_r0 := HI.now.2.2.2.1.c 0 _ rfl
    have c_r1 := HI.now.2.2.2.1.c 1 _ rfl
    have c_r2 := HI.now.2.2.2.1.c 2 _ rfl
    have f_r0 := HI.now.2.2.2.1.f 0
    have f_r1 := HI.now.2.2.2.1.f 1
    have f_r2 := HI.now.2.2.2.1.f 2
    clear HI
    go_wp2_with fail
    refine bodyPost_ret (v := .tuple #[.agg #[.slice none 0 0, .slice none 0 0, .slice none 0 0], .bool false]) (by simp [results, Try.results8, go_sem, c_r0, c_r1, c_r2]) rfl ⟨_, by rw [HX.out], by rw [HX.out]; exact OCt.zero, blw_⟩
  rcases bool_ft (cmdOk o) with hco | hco
  · have HX : Hid (stepCountM p o = (zeroC, false)) := by unfold Hid stepCountM; rw [hcv, hco]; rfl
    have c_p0 := HI.now.2.1.c 0 _ rfl
    have c_p1 := HI.now.2.1.c 1 _ rfl
    have c_p2 := HI.now.2.1.c 2 _ rfl
    have c_o0 := HI.now.2.2.1.c 0 _ rfl
    have c_o1 := HI.now.2.2.1.c 1 _ rfl
    have c_o2 := HI.now.2.2.1.c 2 _ rfl
    have c_o3 := HI.now.2.2.1.c 3 _ rfl
    have zz := HI.now.2.2.2.2.1
    go_wp2_with fail
    refine Calls.gen (Stb (fun W => RCt W (.agg #[.slice A_p p.store.cells.length n_p, .slice B_p p.store.roots.length m_p, .slice C_p p.counts.length k_p]) p ∧ Bx W w.heap.size [.slice A_p p.store.cells.length n_p, .slice B_p p.store.roots.length m_p, .slice C_p p.counts.length k_p] ∧ Bx W (w.heap.size + 1) [.int .i64 o.op, .int .i64 o.a, .int .i64 o.b, .int .i64 o.c] ∧ Bx W (w.heap.size + 2) [.slice none 0 0, .slice none 0 0, .slice none 0 0] ∧ w.heap.size + 3 ≤ W.heap.size ∧ Below w.heap.size w W)) (HI.step blw_) ?_
    clear c_p0 c_p1 c_p2 c_o0 c_o1 c_o2 c_o3 zz
    clear HI 
    rintro W HI
    (with_reducible refine (specCountedValid_any _ p _ HI.now.1).mono ?_); rw [hcv]; rintro e w2 ⟨rfl, hB⟩
    replace HI := HI.step hB
    clear hB
    have c_p0 := HI.now.2.1.c 0 _ rfl
    have c_p1 := HI.now.2.1.c 1 _ rfl
    have c_p2 := HI.now.2.1.c 2 _ rfl
    have c_o0 := HI.now.2.2.1.c 0 _ rfl
    have c_o1 := HI.now.2.2.1.c 1 _ rfl
    have c_o2 := HI.now.2.2.1.c 2 _ rfl
    have c_o3 := HI.now.2.2.1.c 3 _ rfl
    have zz := HI.now.2.2.2.2.1
    go_wp2_with fail
    refine Calls.gen (Stb (fun W => RCt W (.agg #[.slice A_p p.store.cells.length n_p, .slice B_p p.store.roots.length m_p, .slice C_p p.counts.length k_p]) p ∧ Bx W w.heap.size [.slice A_p p.store.cells.length n_p, .slice B_p p.store.roots.length m_p, .slice C_p p.counts.length k_p] ∧ Bx W (w.heap.size + 1) [.int .i64 o.op, .int .i64 o.a, .int .i64 o.b, .int .i64 o.c] ∧ Bx W (w.heap.size + 2) [.slice none 0 0, .slice none 0 0, .slice none 0 0] ∧ w.heap.size + 3 ≤ W.heap.size ∧ Below w.heap.size w W)) (HI.step blw_) ?_
    clear c_p0 c_p1 c_p2 c_o0 c_o1 c_o2 c_o3 zz
    clear HI 
    rintro W HI
    (with_reducible refine (specCommandValid_any o _).mono ?_); rw [hco]; rintro e w2 ⟨rfl, hB⟩
    replace HI := HI.step hB
    clear hB
    have HB := HI.now.2.2.2.2.2
    have c_r0 := HI.now.2.2.2.1.c 0 _ rfl
    have c_r1 := HI.now.2.2.2.1.c 1 _ rfl
    have c_r2 := HI.now.2.2.2.1.c 2 _ rfl
    have f_r0 := HI.now.2.2.2.1.f 0
    have f_r1 := HI.now.2.2.2.1.f 1
    have f_r2 := HI.now.2.2.2.1.f 2
    clear HI
    go_wp2_with fail
    refine bodyPost_ret (v := .tuple #[.agg #[.slice none 0 0, .slice none 0 0, .slice none 0 0], .bool false]) (by simp [results, Try.results8, go_sem, c_r0, c_r1, c_r2]) rfl ⟨_, by rw [HX.out], by rw [HX.out]; exact OCt.zero, blw_⟩
  have HV := Lib.hid (countOk_iff.1 hcv)
  have hpm : possM p.store o = possO p.store o := by unfold possM; rw [HV.out.1, hco]; rfl
  have HSM := Lib.hid (valid_small HV.out.1)
  rcases bool_ft (possO p.store o) with hps | hps
  · have hcf : canF p.store o = false := by unfold canF; rw [hps]; rfl
    have HX : Hid (stepCountM p o = (p, false)) := by unfold Hid stepCountM; rw [hcv, hco, hcf]; rfl
    clear hcf
    have c_p0 := HI.now.2.1.c 0 _ rfl
    have c_p1 := HI.now.2.1.c 1 _ rfl
    have c_p2 := HI.now.2.1.c 2 _ rfl
    have c_o0 := HI.now.2.2.1.c 0 _ rfl
    have c_o1 := HI.now.2.2.1.c 1 _ rfl
    have c_o2 := HI.now.2.2.1.c 2 _ rfl
    have c_o3 := HI.now.2.2.1.c 3 _ rfl
    have zz := HI.now.2.2.2.2.1
    go_wp2_with fail
    refine Calls.gen (Stb (fun W => RCt W (.agg #[.slice A_p p.store.cells.length n_p, .slice B_p p.store.roots.length m_p, .slice C_p p.counts.length k_p]) p ∧ Bx W w.heap.size [.slice A_p p.store.cells.length n_p, .slice B_p p.store.roots.length m_p, .slice C_p p.counts.length k_p] ∧ Bx W (w.heap.size + 1) [.int .i64 o.op, .int .i64 o.a, .int .i64 o.b, .int .i64 o.c] ∧ Bx W (w.heap.size + 2) [.slice none 0 0, .slice none 0 0, .slice none 0 0] ∧ w.heap.size + 3 ≤ W.heap.size ∧ Below w.heap.size w W)) (HI.step blw_) ?_
    clear c_p0 c_p1 c_p2 c_o0 c_o1 c_o2 c_o3 zz
    clear HI 
    rintro W HI
    (with_reducible refine (specCountedValid_any _ p _ HI.now.1).mono ?_); rw [hcv]; rintro e w2 ⟨rfl, hB⟩
    replace HI := HI.step hB
    clear hB
    have c_p0 := HI.now.2.1.c 0 _ rfl
    have c_p1 := HI.now.2.1.c 1 _ rfl
    have c_p2 := HI.now.2.1.c 2 _ rfl
    have c_o0 := HI.now.2.2.1.c 0 _ rfl
    have c_o1 := HI.now.2.2.1.c 1 _ rfl
    have c_o2 := HI.now.2.2.1.c 2 _ rfl
    have c_o3 := HI.now.2.2.1.c 3 _ rfl
    have zz := HI.now.2.2.2.2.1
    go_wp2_with fail
    refine Calls.gen (Stb (fun W => RCt W (.agg #[.slice A_p p.store.cells.length n_p, .slice B_p p.store.roots.length m_p, .slice C_p p.counts.length k_p]) p ∧ Bx W w.heap.size [.slice A_p p.store.cells.length n_p, .slice B_p p.store.roots.length m_p, .slice C_p p.counts.length k_p] ∧ Bx W (w.heap.size + 1) [.int .i64 o.op, .int .i64 o.a, .int .i64 o.b, .int .i64 o.c] ∧ Bx W (w.heap.size + 2) [.slice none 0 0, .slice none 0 0, .slice none 0 0] ∧ w.heap.size + 3 ≤ W.heap.size ∧ Below w.heap.size w W)) (HI.step blw_) ?_
    clear c_p0 c_p1 c_p2 c_o0 c_o1 c_o2 c_o3 zz
    clear HI 
    rintro W HI
    (with_reducible refine (specCommandValid_any o _).mono ?_); rw [hco]; rintro e w2 ⟨rfl, hB⟩
    replace HI := HI.step hB
    clear hB
    have c_p0 := HI.now.2.1.c 0 _ rfl
    have c_p1 := HI.now.2.1.c 1 _ rfl
    have c_p2 := HI.now.2.1.c 2 _ rfl
    have c_o0 := HI.now.2.2.1.c 0 _ rfl
    have c_o1 := HI.now.2.2.1.c 1 _ rfl
    have c_o2 := HI.now.2.2.1.c 2 _ rfl
    have c_o3 := HI.now.2.2.1.c 3 _ rfl
    have zz := HI.now.2.2.2.2.1
    go_wp2_with fail
    refine Calls.gen (Stb (fun W => RCt W (.agg #[.slice A_p p.store.cells.length n_p, .slice B_p p.store.roots.length m_p, .slice C_p p.counts.length k_p]) p ∧ Bx W w.heap.size [.slice A_p p.store.cells.length n_p, .slice B_p p.store.roots.length m_p, .slice C_p p.counts.length k_p] ∧ Bx W (w.heap.size + 1) [.int .i64 o.op, .int .i64 o.a, .int .i64 o.b, .int .i64 o.c] ∧ Bx W (w.heap.size + 2) [.slice none 0 0, .slice none 0 0, .slice none 0 0] ∧ w.heap.size + 3 ≤ W.heap.size ∧ Below w.heap.size w W)) (HI.step blw_) ?_
    clear c_p0 c_p1 c_p2 c_o0 c_o1 c_o2 c_o3 zz
    clear HI 
    rintro W HI
    (with_reducible refine (l10Place_any _ p.store _ (HI.now.1).st (by have := HSM.out.1; omega)).mono ?_); rintro e w2 ⟨rfl, hB⟩
    replace HI := HI.step hB
    clear hB
    have c_p0 := HI.now.2.1.c 0 _ rfl
    have c_p1 := HI.now.2.1.c 1 _ rfl
    have c_p2 := HI.now.2.1.c 2 _ rfl
    have c_o0 := HI.now.2.2.1.c 0 _ rfl
    have c_o1 := HI.now.2.2.1.c 1 _ rfl
    have c_o2 := HI.now.2.2.1.c 2 _ rfl
    have c_o3 := HI.now.2.2.1.c 3 _ rfl
    have zz := HI.now.2.2.2.2.1
    go_wp2_with fail
    refine Calls.gen (Stb (fun W => RCt W (.agg #[.slice A_p p.store.cells.length n_p, .slice B_p p.store.roots.length m_p, .slice C_p p.counts.length k_p]) p ∧ Bx W w.heap.size [.slice A_p p.store.cells.length n_p, .slice B_p p.store.roots.length m_p, .slice C_p p.counts.length k_p] ∧ Bx W (w.heap.size + 1) [.int .i64 o.op, .int .i64 o.a, .int .i64 o.b, .int .i64 o.c] ∧ Bx W (w.heap.size + 2) [.slice none 0 0, .slice none 0 0, .slice none 0 0] ∧ w.heap.size + 3 ≤ W.heap.size ∧ Below w.heap.size w W)) (HI.step blw_) ?_
    clear c_p0 c_p1 c_p2 c_o0 c_o1 c_o2 c_o3 zz
    clear HI 
    rintro W HI
    (with_reducible refine (specCommandPossible_any _ p.store o _ (HI.now.1).st).mono ?_); rw [hpm, hps]; rintro e w2 ⟨rfl, hB⟩
    replace HI := HI.step hB
    clear hB
    have c_p0 := HI.now.2.1.c 0 _ rfl
    have c_p1 := HI.now.2.1.c 1 _ rfl
    have c_p2 := HI.now.2.1.c 2 _ rfl
    have c_o0 := HI.now.2.2.1.c 0 _ rfl
    have c_o1 := HI.now.2.2.1.c 1 _ rfl
    have c_o2 := HI.now.2.2.1.c 2 _ rfl
    have c_o3 := HI.now.2.2.1.c 3 _ rfl
    go_upto_region 5 with fail
    refine Code.gen (Stb (fun W => RCt W (.agg #[.slice A_p p.store.cells.length n_p, .slice B_p p.store.roots.length m_p, .slice C_p p.counts.length k_p]) p ∧ Bx W w.heap.size [.slice A_p p.store.cells.length n_p, .slice B_p p.store.roots.length m_p, .slice C_p p.counts.length k_p] ∧ Bx W (w.heap.size + 1) [.int .i64 o.op, .int .i64 o.a, .int .i64 o.b, .int .i64 o.c] ∧ Bx W (w.heap.size + 2) [.slice none 0 0, .slice none 0 0, .slice none 0 0] ∧ w.heap.size + 3 ≤ W.heap.size ∧ Below w.heap.size w W)) (HI.step blw_) ?_
    clear c_p0 c_p1 c_p2 c_o0 c_o1 c_o2 c_o3
    clear HI 
    rintro W HI
    have c_p0 := HI.now.2.1.c 0 _ rfl
    have c_p1 := HI.now.2.1.c 1 _ rfl
    have c_p2 := HI.now.2.1.c 2 _ rfl
    have c_r0 := HI.now.2.2.2.1.c 0 _ rfl
    have c_r1 := HI.now.2.2.2.1.c 1 _ rfl
    have c_r2 := HI.now.2.2.2.1.c 2 _ rfl
    have f_r0 := HI.now.2.2.2.1.f 0
    have f_r1 := HI.now.2.2.2.1.f 1
    have f_r2 := HI.now.2.2.2.1.f 2
    have zz := HI.now.2.2.2.2.1
    have HB := HI.now.2.2.2.2.2
    have hrc := HI.now.1
    clear HI
    have hS : ∀ X, Below W.heap.size W X → X.cell? ⟨w.heap.size, 0, none⟩ = some (.slice A_p p.store.cells.length n_p) ∧ X.cell? ⟨w.heap.size, 1, none⟩ = some (.slice B_p p.store.roots.length m_p) ∧ X.cell? ⟨w.heap.size, 2, none⟩ = some (.slice C_p p.counts.length k_p) := fun X hX => ⟨cell_below c_p0 hX, cell_below c_p1 hX, cell_below c_p2 hX⟩
    go_region_held3 (fun w9 => w9.cell? ⟨w.heap.size, 0, none⟩ = some (.slice A_p p.store.cells.length n_p) ∧ w9.cell? ⟨w.heap.size, 1, none⟩ = some (.slice B_p p.store.roots.length m_p) ∧ w9.cell? ⟨w.heap.size, 2, none⟩ = some (.slice C_p p.counts.length k_p))
      (first | (with_reducible exact ⟨s0, s1, s2⟩) | (simp [go_sem, s0, s1, s2]; done) | exact hS _ blw_)
      (first
        | (go_at_call 35; (with_reducible refine (l7Copy_any _ p.store _ (hrc.st.below blw_) (by have := HSM.out.1; omega) (fun d hd => by have := HSM.out.2.2 d hd; omega) (by have := HSM.out.2.1; omega)).mono ?_); rintro e wh ⟨vh, rfl, ⟨E, a1, E', a2, os, rfl, hm, ho, hlo⟩, hBh⟩; (have z_hBh := Below.size hBh); (try simp only [World.size_alloc, World.size_setCell, World.size_drew, World.heap_drewN] at z_hBh); have HM := Lib.hid hm; clear hm; have HL := Lib.hid hlo; clear hlo; have HO := Lib.hid ho; clear ho)
        | (refine step_appi rfl (.tmp 36) (.tmp 38) rfl [] rfl rfl (OF.fresh0 (by (repeat (first | rw [heap_drew_] | exact heap_alloc_at _ _ _ (by first | rfl | (simp; done) | (simp; omega)) | rw [heap_setCell_ne _ _ _ (by first | omega | (simp; done) | (simp; omega))] | rw [Below.block hBh _ (by first | omega | (simp; done) | (simp; omega))] | rw [Below.heap_alloc _ _ _ (by first | omega | (simp; done) | (simp; omega))])))) (hrc.co.below blw_) (by have := HV.out.2; rw [this, cntsM_len]; have := HSM.out.1; simp; omega) ?_
           intro S2 a3 wb hS2 hOn2 hgS2
           rw [List.nil_append] at hS2
           have z2 := hOn2.size
           try simp only [World.size_alloc, World.size_setCell, World.size_drew, World.heap_drewN] at z2
           have hB2 : Below W.heap.size W wb := Below.trans blw_ (hOn2.below (by first | omega | (simp; done) | (simp; omega)) (fun g hg => by rw [mem_blk_some hg]; first | omega | (simp; done) | (simp; omega)))
           have c_r0 := cell_below c_r0 hB2
           have c_r1 := cell_below c_r1 hB2
           have c_r2 := cell_below c_r2 hB2
           have f_r0 := (World.frozen?_of_block (a := ⟨w.heap.size + 2, 0, none⟩) (hB2.block (w.heap.size + 2) (by omega))).trans f_r0
           have f_r1 := (World.frozen?_of_block (a := ⟨w.heap.size + 2, 1, none⟩) (hB2.block (w.heap.size + 2) (by omega))).trans f_r1
           have f_r2 := (World.frozen?_of_block (a := ⟨w.heap.size + 2, 2, none⟩) (hB2.block (w.heap.size + 2) (by omega))).trans f_r2
           have s0 := cell_below c_p0 hB2
           have s1 := cell_below c_p1 hB2
           have s2 := cell_below c_p2 hB2))
    all_goals
      have hL := HL.out
      try simp only [World.size_alloc, World.size_setCell, World.size_drew, World.heap_drewN, heap_drew_] at hL
      have hLt := HO.out.lt
      have hS2l := hS2.lt
      have g2 : ∀ g ∈ blk S2, w.heap.size + 3 ≤ g ∧ g ∉ hblks E os E' := fun g hg => by
        rcases hgS2 g hg with hh | hh
        · have := mem_blk_some hh
          exact ⟨by first | omega | (simp at this; omega), fun hc => by have h1 := hL g hc; have h2 := hLt g hc; first | omega | (simp at h1 this; omega)⟩
        · try simp at hh
          exact ⟨by omega, fun hc => by have := hLt g hc; omega⟩
      have HSB := Lib.hid hS2
      have HG2 := Lib.hid g2
      have HL2 := Lib.hid hL
      have HON := Lib.hid hOn2
      clear hS2 g2 hL hOn2 hgS2 hS
      go_wp2_with fail
      refine bodyPost_ret (v := .tuple #[.agg #[.slice E p.store.cells.length a1, .slice E' p.store.roots.length a2, .slice S2 p.counts.length a3], .bool false]) (by simp [results, Try.results8, go_sem, c_r0, c_r1, c_r2]) rfl ⟨_, by rw [HX.out], ?_, by have hBw := HB.trans (hB2.mono (by omega)); exact ((hBw.setCell (p := ⟨w.heap.size + 2, 0, none⟩) (Nat.le_add_right _ _) _).setCell (p := ⟨w.heap.size + 2, 1, none⟩) (Nat.le_add_right _ _) _).setCell (p := ⟨w.heap.size + 2, 2, none⟩) (Nat.le_add_right _ _) _⟩
      rw [HX.out]
      refine OCt.mk_ (p := p) HM.out ?_ ?_ ?_ ?_
      · refine HO.out.keep fun g hg => ?_
        have h1 := HL2.out g hg
        have h2 := HO.out.lt g hg
        (repeat (first | rw [heap_drew_] | rw [heap_setCell_ne _ _ _ (by first | omega | (simp; done) | (simp; omega))] | rw [HON.out.block _ (by first | omega | (simp; done) | (simp; omega)) (fun hc => by have := mem_blk_some hc; first | omega | (simp at this; omega))] | rw [Below.heap_alloc _ _ _ (by first | omega | (simp; done) | (simp; omega))]))
      · exact fun g hg => by have := HL2.out g hg; omega
      · refine HSB.out.keep fun g hg => ?_
        have h1 := (HG2.out g hg).1
        (repeat (first | rw [heap_setCell_ne _ _ _ (by first | omega | (simp; done) | (simp; omega))]))
      · exact fun g hg => ⟨by have := (HG2.out g hg).1; omega, (HG2.out g hg).2⟩
  by_cases hfull : o.op = 1 ∧ freeAt p.store.cells = 40
  · have hcf : canF p.store o = false := canF_full hfull.1 hfull.2
    have HX : Hid (stepCountM p o = (p, false)) := by unfold Hid stepCountM; rw [hcv, hco, hcf]; rfl
    have HFU := Lib.hid hfull
    clear hcf hfull
    have c_p0 := HI.now.2.1.c 0 _ rfl
    have c_p1 := HI.now.2.1.c 1 _ rfl
    have c_p2 := HI.now.2.1.c 2 _ rfl
    have c_o0 := HI.now.2.2.1.c 0 _ rfl
    have c_o1 := HI.now.2.2.1.c 1 _ rfl
    have c_o2 := HI.now.2.2.1.c 2 _ rfl
    have c_o3 := HI.now.2.2.1.c 3 _ rfl
    have zz := HI.now.2.2.2.2.1
    go_wp2_with fail
    refine Calls.gen (Stb (fun W => RCt W (.agg #[.slice A_p p.store.cells.length n_p, .slice B_p p.store.roots.length m_p, .slice C_p p.counts.length k_p]) p ∧ Bx W w.heap.size [.slice A_p p.store.cells.length n_p, .slice B_p p.store.roots.length m_p, .slice C_p p.counts.length k_p] ∧ Bx W (w.heap.size + 1) [.int .i64 o.op, .int .i64 o.a, .int .i64 o.b, .int .i64 o.c] ∧ Bx W (w.heap.size + 2) [.slice none 0 0, .slice none 0 0, .slice none 0 0] ∧ w.heap.size + 3 ≤ W.heap.size ∧ Below w.heap.size w W)) (HI.step blw_) ?_
    clear c_p0 c_p1 c_p2 c_o0 c_o1 c_o2 c_o3 zz
    clear HI 
    rintro W HI
    (with_reducible refine (specCountedValid_any _ p _ HI.now.1).mono ?_); rw [hcv]; rintro e w2 ⟨rfl, hB⟩
    replace HI := HI.step hB
    clear hB
    have c_p0 := HI.now.2.1.c 0 _ rfl
    have c_p1 := HI.now.2.1.c 1 _ rfl
    have c_p2 := HI.now.2.1.c 2 _ rfl
    have c_o0 := HI.now.2.2.1.c 0 _ rfl
    have c_o1 := HI.now.2.2.1.c 1 _ rfl
    have c_o2 := HI.now.2.2.1.c 2 _ rfl
    have c_o3 := HI.now.2.2.1.c 3 _ rfl
    have zz := HI.now.2.2.2.2.1
    go_wp2_with fail
    refine Calls.gen (Stb (fun W => RCt W (.agg #[.slice A_p p.store.cells.length n_p, .slice B_p p.store.roots.length m_p, .slice C_p p.counts.length k_p]) p ∧ Bx W w.heap.size [.slice A_p p.store.cells.length n_p, .slice B_p p.store.roots.length m_p, .slice C_p p.counts.length k_p] ∧ Bx W (w.heap.size + 1) [.int .i64 o.op, .int .i64 o.a, .int .i64 o.b, .int .i64 o.c] ∧ Bx W (w.heap.size + 2) [.slice none 0 0, .slice none 0 0, .slice none 0 0] ∧ w.heap.size + 3 ≤ W.heap.size ∧ Below w.heap.size w W)) (HI.step blw_) ?_
    clear c_p0 c_p1 c_p2 c_o0 c_o1 c_o2 c_o3 zz
    clear HI 
    rintro W HI
    (with_reducible refine (specCommandValid_any o _).mono ?_); rw [hco]; rintro e w2 ⟨rfl, hB⟩
    replace HI := HI.step hB
    clear hB
    have c_p0 := HI.now.2.1.c 0 _ rfl
    have c_p1 := HI.now.2.1.c 1 _ rfl
    have c_p2 := HI.now.2.1.c 2 _ rfl
    have c_o0 := HI.now.2.2.1.c 0 _ rfl
    have c_o1 := HI.now.2.2.1.c 1 _ rfl
    have c_o2 := HI.now.2.2.1.c 2 _ rfl
    have c_o3 := HI.now.2.2.1.c 3 _ rfl
    have zz := HI.now.2.2.2.2.1
    go_wp2_with fail
    refine Calls.gen (Stb (fun W => RCt W (.agg #[.slice A_p p.store.cells.length n_p, .slice B_p p.store.roots.length m_p, .slice C_p p.counts.length k_p]) p ∧ Bx W w.heap.size [.slice A_p p.store.cells.length n_p, .slice B_p p.store.roots.length m_p, .slice C_p p.counts.length k_p] ∧ Bx W (w.heap.size + 1) [.int .i64 o.op, .int .i64 o.a, .int .i64 o.b, .int .i64 o.c] ∧ Bx W (w.heap.size + 2) [.slice none 0 0, .slice none 0 0, .slice none 0 0] ∧ w.heap.size + 3 ≤ W.heap.size ∧ Below w.heap.size w W)) (HI.step blw_) ?_
    clear c_p0 c_p1 c_p2 c_o0 c_o1 c_o2 c_o3 zz
    clear HI 
    rintro W HI
    (with_reducible refine (l10Place_any _ p.store _ (HI.now.1).st (by have := HSM.out.1; omega)).mono ?_); rintro e w2 ⟨rfl, hB⟩
    replace HI := HI.step hB
    clear hB
    have c_p0 := HI.now.2.1.c 0 _ rfl
    have c_p1 := HI.now.2.1.c 1 _ rfl
    have c_p2 := HI.now.2.1.c 2 _ rfl
    have c_o0 := HI.now.2.2.1.c 0 _ rfl
    have c_o1 := HI.now.2.2.1.c 1 _ rfl
    have c_o2 := HI.now.2.2.1.c 2 _ rfl
    have c_o3 := HI.now.2.2.1.c 3 _ rfl
    have zz := HI.now.2.2.2.2.1
    go_wp2_with fail
    refine Calls.gen (Stb (fun W => RCt W (.agg #[.slice A_p p.store.cells.length n_p, .slice B_p p.store.roots.length m_p, .slice C_p p.counts.length k_p]) p ∧ Bx W w.heap.size [.slice A_p p.store.cells.length n_p, .slice B_p p.store.roots.length m_p, .slice C_p p.counts.length k_p] ∧ Bx W (w.heap.size + 1) [.int .i64 o.op, .int .i64 o.a, .int .i64 o.b, .int .i64 o.c] ∧ Bx W (w.heap.size + 2) [.slice none 0 0, .slice none 0 0, .slice none 0 0] ∧ w.heap.size + 3 ≤ W.heap.size ∧ Below w.heap.size w W)) (HI.step blw_) ?_
    clear c_p0 c_p1 c_p2 c_o0 c_o1 c_o2 c_o3 zz
    clear HI 
    rintro W HI
    (with_reducible refine (specCommandPossible_any _ p.store o _ (HI.now.1).st).mono ?_); rw [hpm, hps]; rintro e w2 ⟨rfl, hB⟩
    replace HI := HI.step hB
    clear hB
    have c_p0 := HI.now.2.1.c 0 _ rfl
    have c_p1 := HI.now.2.1.c 1 _ rfl
    have c_p2 := HI.now.2.1.c 2 _ rfl
    have c_o0 := HI.now.2.2.1.c 0 _ rfl
    have c_o1 := HI.now.2.2.1.c 1 _ rfl
    have c_o2 := HI.now.2.2.1.c 2 _ rfl
    have c_o3 := HI.now.2.2.1.c 3 _ rfl
    have hop := HFU.out.1
    have hfI : (freeAt p.store.cells : Int) = 40 := by have := HFU.out.2; omega
    go_upto_region 5 with fail
    refine Code.gen (Stb (fun W => RCt W (.agg #[.slice A_p p.store.cells.length n_p, .slice B_p p.store.roots.length m_p, .slice C_p p.counts.length k_p]) p ∧ Bx W w.heap.size [.slice A_p p.store.cells.length n_p, .slice B_p p.store.roots.length m_p, .slice C_p p.counts.length k_p] ∧ Bx W (w.heap.size + 1) [.int .i64 o.op, .int .i64 o.a, .int .i64 o.b, .int .i64 o.c] ∧ Bx W (w.heap.size + 2) [.slice none 0 0, .slice none 0 0, .slice none 0 0] ∧ w.heap.size + 3 ≤ W.heap.size ∧ Below w.heap.size w W)) (HI.step blw_) ?_
    clear c_p0 c_p1 c_p2 c_o0 c_o1 c_o2 c_o3 hop hfI
    clear HI 
    rintro W HI
    have c_p0 := HI.now.2.1.c 0 _ rfl
    have c_p1 := HI.now.2.1.c 1 _ rfl
    have c_p2 := HI.now.2.1.c 2 _ rfl
    have c_r0 := HI.now.2.2.2.1.c 0 _ rfl
    have c_r1 := HI.now.2.2.2.1.c 1 _ rfl
    have c_r2 := HI.now.2.2.2.1.c 2 _ rfl
    have f_r0 := HI.now.2.2.2.1.f 0
    have f_r1 := HI.now.2.2.2.1.f 1
    have f_r2 := HI.now.2.2.2.1.f 2
    have zz := HI.now.2.2.2.2.1
    have HB := HI.now.2.2.2.2.2
    have hrc := HI.now.1
    clear HI
    have hS : ∀ X, Below W.heap.size W X → X.cell? ⟨w.heap.size, 0, none⟩ = some (.slice A_p p.store.cells.length n_p) ∧ X.cell? ⟨w.heap.size, 1, none⟩ = some (.slice B_p p.store.roots.length m_p) ∧ X.cell? ⟨w.heap.size, 2, none⟩ = some (.slice C_p p.counts.length k_p) := fun X hX => ⟨cell_below c_p0 hX, cell_below c_p1 hX, cell_below c_p2 hX⟩
    go_region_held3 (fun w9 => w9.cell? ⟨w.heap.size, 0, none⟩ = some (.slice A_p p.store.cells.length n_p) ∧ w9.cell? ⟨w.heap.size, 1, none⟩ = some (.slice B_p p.store.roots.length m_p) ∧ w9.cell? ⟨w.heap.size, 2, none⟩ = some (.slice C_p p.counts.length k_p))
      (first | (with_reducible exact ⟨s0, s1, s2⟩) | (simp [go_sem, s0, s1, s2]; done) | exact hS _ blw_)
      (first
        | (go_at_call 35; (with_reducible refine (l7Copy_any _ p.store _ (hrc.st.below blw_) (by have := HSM.out.1; omega) (fun d hd => by have := HSM.out.2.2 d hd; omega) (by have := HSM.out.2.1; omega)).mono ?_); rintro e wh ⟨vh, rfl, ⟨E, a1, E', a2, os, rfl, hm, ho, hlo⟩, hBh⟩; (have z_hBh := Below.size hBh); (try simp only [World.size_alloc, World.size_setCell, World.size_drew, World.heap_drewN] at z_hBh); have HM := Lib.hid hm; clear hm; have HL := Lib.hid hlo; clear hlo; have HO := Lib.hid ho; clear ho)
        | (refine step_appi rfl (.tmp 36) (.tmp 38) rfl [] rfl rfl (OF.fresh0 (by (repeat (first | rw [heap_drew_] | exact heap_alloc_at _ _ _ (by first | rfl | (simp; done) | (simp; omega)) | rw [heap_setCell_ne _ _ _ (by first | omega | (simp; done) | (simp; omega))] | rw [Below.block hBh _ (by first | omega | (simp; done) | (simp; omega))] | rw [Below.heap_alloc _ _ _ (by first | omega | (simp; done) | (simp; omega))])))) (hrc.co.below blw_) (by have := HV.out.2; rw [this, cntsM_len]; have := HSM.out.1; simp; omega) ?_
           intro S2 a3 wb hS2 hOn2 hgS2
           rw [List.nil_append] at hS2
           have z2 := hOn2.size
           try simp only [World.size_alloc, World.size_setCell, World.size_drew, World.heap_drewN] at z2
           have hB2 : Below W.heap.size W wb := Below.trans blw_ (hOn2.below (by first | omega | (simp; done) | (simp; omega)) (fun g hg => by rw [mem_blk_some hg]; first | omega | (simp; done) | (simp; omega)))
           have c_r0 := cell_below c_r0 hB2
           have c_r1 := cell_below c_r1 hB2
           have c_r2 := cell_below c_r2 hB2
           have f_r0 := (World.frozen?_of_block (a := ⟨w.heap.size + 2, 0, none⟩) (hB2.block (w.heap.size + 2) (by omega))).trans f_r0
           have f_r1 := (World.frozen?_of_block (a := ⟨w.heap.size + 2, 1, none⟩) (hB2.block (w.heap.size + 2) (by omega))).trans f_r1
           have f_r2 := (World.frozen?_of_block (a := ⟨w.heap.size + 2, 2, none⟩) (hB2.block (w.heap.size + 2) (by omega))).trans f_r2
           have s0 := cell_below c_p0 hB2
           have s1 := cell_below c_p1 hB2
           have s2 := cell_below c_p2 hB2))
    all_goals
      have hL := HL.out
      try simp only [World.size_alloc, World.size_setCell, World.size_drew, World.heap_drewN, heap_drew_] at hL
      have hLt := HO.out.lt
      have hS2l := hS2.lt
      have g2 : ∀ g ∈ blk S2, w.heap.size + 3 ≤ g ∧ g ∉ hblks E os E' := fun g hg => by
        rcases hgS2 g hg with hh | hh
        · have := mem_blk_some hh
          exact ⟨by first | omega | (simp at this; omega), fun hc => by have h1 := hL g hc; have h2 := hLt g hc; first | omega | (simp at h1 this; omega)⟩
        · try simp at hh
          exact ⟨by omega, fun hc => by have := hLt g hc; omega⟩
      have HSB := Lib.hid hS2
      have HG2 := Lib.hid g2
      have HL2 := Lib.hid hL
      have HON := Lib.hid hOn2
      clear hS2 g2 hL hOn2 hgS2 hS
      go_wp2_with fail
      refine bodyPost_ret (v := .tuple #[.agg #[.slice E p.store.cells.length a1, .slice E' p.store.roots.length a2, .slice S2 p.counts.length a3], .bool false]) (by simp [results, Try.results8, go_sem, c_r0, c_r1, c_r2]) rfl ⟨_, by rw [HX.out], ?_, by have hBw := HB.trans (hB2.mono (by omega)); exact ((hBw.setCell (p := ⟨w.heap.size + 2, 0, none⟩) (Nat.le_add_right _ _) _).setCell (p := ⟨w.heap.size + 2, 1, none⟩) (Nat.le_add_right _ _) _).setCell (p := ⟨w.heap.size + 2, 2, none⟩) (Nat.le_add_right _ _) _⟩
      rw [HX.out]
      refine OCt.mk_ (p := p) HM.out ?_ ?_ ?_ ?_
      · refine HO.out.keep fun g hg => ?_
        have h1 := HL2.out g hg
        have h2 := HO.out.lt g hg
        (repeat (first | rw [heap_drew_] | rw [heap_setCell_ne _ _ _ (by first | omega | (simp; done) | (simp; omega))] | rw [HON.out.block _ (by first | omega | (simp; done) | (simp; omega)) (fun hc => by have := mem_blk_some hc; first | omega | (simp at this; omega))] | rw [Below.heap_alloc _ _ _ (by first | omega | (simp; done) | (simp; omega))]))
      · exact fun g hg => by have := HL2.out g hg; omega
      · refine HSB.out.keep fun g hg => ?_
        have h1 := (HG2.out g hg).1
        (repeat (first | rw [heap_setCell_ne _ _ _ (by first | omega | (simp; done) | (simp; omega))]))
      · exact fun g hg => ⟨by have := (HG2.out g hg).1; omega, (HG2.out g hg).2⟩
  have hcf : canF p.store o = true := by unfold canF; rw [hps]; simp; exact (Classical.em (o.op = 1)).elim (fun h1 => .inr fun h2 => hfull ⟨h1, h2⟩) .inl
  have HX : Hid (stepCountM p o = (countDo p o, true)) := by unfold Hid stepCountM; rw [hcv, hco, hcf]; rfl
  have HX3 : Hid (validM (execM p.store o (freeAt p.store.cells)) = true) := canF_exec HV.out.1 hco hcf
  have HFU := Lib.hid hfull
  have HCO := Lib.hid hco
  have HPS := Lib.hid hps
  clear hcf hfull
  have c_p0 := HI.now.2.1.c 0 _ rfl
  have c_p1 := HI.now.2.1.c 1 _ rfl
  have c_p2 := HI.now.2.1.c 2 _ rfl
  have c_o0 := HI.now.2.2.1.c 0 _ rfl
  have c_o1 := HI.now.2.2.1.c 1 _ rfl
  have c_o2 := HI.now.2.2.1.c 2 _ rfl
  have c_o3 := HI.now.2.2.1.c 3 _ rfl
  have zz := HI.now.2.2.2.2.1
  go_wp2_with fail
  refine Calls.gen (Stb (fun W => RCt W (.agg #[.slice A_p p.store.cells.length n_p, .slice B_p p.store.roots.length m_p, .slice C_p p.counts.length k_p]) p ∧ Bx W w.heap.size [.slice A_p p.store.cells.length n_p, .slice B_p p.store.roots.length m_p, .slice C_p p.counts.length k_p] ∧ Bx W (w.heap.size + 1) [.int .i64 o.op, .int .i64 o.a, .int .i64 o.b, .int .i64 o.c] ∧ Bx W (w.heap.size + 2) [.slice none 0 0, .slice none 0 0, .slice none 0 0] ∧ w.heap.size + 3 ≤ W.heap.size ∧ Below w.heap.size w W)) (HI.step blw_) ?_
  clear c_p0 c_p1 c_p2 c_o0 c_o1 c_o2 c_o3 zz
  clear HI 
  rintro W HI
  (with_reducible refine (specCountedValid_any _ p _ HI.now.1).mono ?_); rw [hcv]; rintro e w2 ⟨rfl, hB⟩
  replace HI := HI.step hB
  clear hB
  have c_p0 := HI.now.2.1.c 0 _ rfl
  have c_p1 := HI.now.2.1.c 1 _ rfl
  have c_p2 := HI.now.2.1.c 2 _ rfl
  have c_o0 := HI.now.2.2.1.c 0 _ rfl
  have c_o1 := HI.now.2.2.1.c 1 _ rfl
  have c_o2 := HI.now.2.2.1.c 2 _ rfl
  have c_o3 := HI.now.2.2.1.c 3 _ rfl
  have zz := HI.now.2.2.2.2.1
  go_wp2_with fail
  refine Calls.gen (Stb (fun W => RCt W (.agg #[.slice A_p p.store.cells.length n_p, .slice B_p p.store.roots.length m_p, .slice C_p p.counts.length k_p]) p ∧ Bx W w.heap.size [.slice A_p p.store.cells.length n_p, .slice B_p p.store.roots.length m_p, .slice C_p p.counts.length k_p] ∧ Bx W (w.heap.size + 1) [.int .i64 o.op, .int .i64 o.a, .int .i64 o.b, .int .i64 o.c] ∧ Bx W (w.heap.size + 2) [.slice none 0 0, .slice none 0 0, .slice none 0 0] ∧ w.heap.size + 3 ≤ W.heap.size ∧ Below w.heap.size w W)) (HI.step blw_) ?_
  clear c_p0 c_p1 c_p2 c_o0 c_o1 c_o2 c_o3 zz
  clear HI 
  rintro W HI
  (with_reducible refine (specCommandValid_any o _).mono ?_); rw [hco]; rintro e w2 ⟨rfl, hB⟩
  replace HI := HI.step hB
  clear hB
  have c_p0 := HI.now.2.1.c 0 _ rfl
  have c_p1 := HI.now.2.1.c 1 _ rfl
  have c_p2 := HI.now.2.1.c 2 _ rfl
  have c_o0 := HI.now.2.2.1.c 0 _ rfl
  have c_o1 := HI.now.2.2.1.c 1 _ rfl
  have c_o2 := HI.now.2.2.1.c 2 _ rfl
  have c_o3 := HI.now.2.2.1.c 3 _ rfl
  have zz := HI.now.2.2.2.2.1
  go_wp2_with fail
  refine Calls.gen (Stb (fun W => RCt W (.agg #[.slice A_p p.store.cells.length n_p, .slice B_p p.store.roots.length m_p, .slice C_p p.counts.length k_p]) p ∧ Bx W w.heap.size [.slice A_p p.store.cells.length n_p, .slice B_p p.store.roots.length m_p, .slice C_p p.counts.length k_p] ∧ Bx W (w.heap.size + 1) [.int .i64 o.op, .int .i64 o.a, .int .i64 o.b, .int .i64 o.c] ∧ Bx W (w.heap.size + 2) [.slice none 0 0, .slice none 0 0, .slice none 0 0] ∧ w.heap.size + 3 ≤ W.heap.size ∧ Below w.heap.size w W)) (HI.step blw_) ?_
  clear c_p0 c_p1 c_p2 c_o0 c_o1 c_o2 c_o3 zz
  clear HI 
  rintro W HI
  (with_reducible refine (l10Place_any _ p.store _ (HI.now.1).st (by have := HSM.out.1; omega)).mono ?_); rintro e w2 ⟨rfl, hB⟩
  replace HI := HI.step hB
  clear hB
  have c_p0 := HI.now.2.1.c 0 _ rfl
  have c_p1 := HI.now.2.1.c 1 _ rfl
  have c_p2 := HI.now.2.1.c 2 _ rfl
  have c_o0 := HI.now.2.2.1.c 0 _ rfl
  have c_o1 := HI.now.2.2.1.c 1 _ rfl
  have c_o2 := HI.now.2.2.1.c 2 _ rfl
  have c_o3 := HI.now.2.2.1.c 3 _ rfl
  have zz := HI.now.2.2.2.2.1
  go_wp2_with fail
  refine Calls.gen (Stb (fun W => RCt W (.agg #[.slice A_p p.store.cells.length n_p, .slice B_p p.store.roots.length m_p, .slice C_p p.counts.length k_p]) p ∧ Bx W w.heap.size [.slice A_p p.store.cells.length n_p, .slice B_p p.store.roots.length m_p, .slice C_p p.counts.length k_p] ∧ Bx W (w.heap.size + 1) [.int .i64 o.op, .int .i64 o.a, .int .i64 o.b, .int .i64 o.c] ∧ Bx W (w.heap.size + 2) [.slice none 0 0, .slice none 0 0, .slice none 0 0] ∧ w.heap.size + 3 ≤ W.heap.size ∧ Below w.heap.size w W)) (HI.step blw_) ?_
  clear c_p0 c_p1 c_p2 c_o0 c_o1 c_o2 c_o3 zz
  clear HI 
  rintro W HI
  (with_reducible refine (specCommandPossible_any _ p.store o _ (HI.now.1).st).mono ?_); rw [hpm, hps]; rintro e w2 ⟨rfl, hB⟩
  replace HI := HI.step hB
  clear hB
  rcases Classical.em (o.op = 1) with hop | hop
  · have HOP := Lib.hid hop
    clear hop
    have c_p0 := HI.now.2.1.c 0 _ rfl
    have c_p1 := HI.now.2.1.c 1 _ rfl
    have c_p2 := HI.now.2.1.c 2 _ rfl
    have c_o0 := HI.now.2.2.1.c 0 _ rfl
    have c_o1 := HI.now.2.2.1.c 1 _ rfl
    have c_o2 := HI.now.2.2.1.c 2 _ rfl
    have c_o3 := HI.now.2.2.1.c 3 _ rfl
    have hop := HOP.out
    have hfI : ¬ (freeAt p.store.cells : Int) = 40 := fun h9 => HFU.out ⟨HOP.out, by omega⟩
    have zz := HI.now.2.2.2.2.1
    go_upto_region 6 with fail
    refine Code.gen (Stb (fun W => RCt W (.agg #[.slice A_p p.store.cells.length n_p, .slice B_p p.store.roots.length m_p, .slice C_p p.counts.length k_p]) p ∧ Bx W w.heap.size [.slice A_p p.store.cells.length n_p, .slice B_p p.store.roots.length m_p, .slice C_p p.counts.length k_p] ∧ Bx W (w.heap.size + 1) [.int .i64 o.op, .int .i64 o.a, .int .i64 o.b, .int .i64 o.c] ∧ Bx W (w.heap.size + 2) [.slice none 0 0, .slice none 0 0, .slice none 0 0] ∧ w.heap.size + 3 ≤ W.heap.size ∧ Below w.heap.size w W)) (HI.step blw_) ?_
    clear c_p0 c_p1 c_p2 c_o0 c_o1 c_o2 c_o3 hop hfI zz
    clear HI 
    rintro W HI
    have c_p0 := HI.now.2.1.c 0 _ rfl
    have c_p1 := HI.now.2.1.c 1 _ rfl
    have c_p2 := HI.now.2.1.c 2 _ rfl
    have c_o0 := HI.now.2.2.1.c 0 _ rfl
    have c_o1 := HI.now.2.2.1.c 1 _ rfl
    have c_o2 := HI.now.2.2.1.c 2 _ rfl
    have c_o3 := HI.now.2.2.1.c 3 _ rfl
    have zz := HI.now.2.2.2.2.1
    go_wp2_with fail
    refine Calls.gen (Stb (fun W => RCt W (.agg #[.slice A_p p.store.cells.length n_p, .slice B_p p.store.roots.length m_p, .slice C_p p.counts.length k_p]) p ∧ Bx W w.heap.size [.slice A_p p.store.cells.length n_p, .slice B_p p.store.roots.length m_p, .slice C_p p.counts.length k_p] ∧ Bx W (w.heap.size + 1) [.int .i64 o.op, .int .i64 o.a, .int .i64 o.b, .int .i64 o.c] ∧ Bx W (w.heap.size + 2) [.slice none 0 0, .slice none 0 0, .slice none 0 0] ∧ w.heap.size + 3 ≤ W.heap.size ∧ Below w.heap.size w W)) (HI.step blw_) ?_
    clear c_p0 c_p1 c_p2 c_o0 c_o1 c_o2 c_o3 zz
    clear HI 
    rintro W HI
    (with_reducible refine (do_any _ p.store o (freeAt p.store.cells) _ (HI.now.1).st HV.out.1 HCO.out HPS.out (freeAt_le _)).mono ?_); rintro e w2 ⟨v2, rfl, oH, hB⟩
    have hRH := oH.rh
    clear oH
    replace HI := HI.step hB
    clear hB
    have HRH := Lib.hid hRH
    clear hRH
    go_wp2_with fail
    (with_reducible refine (l10Free_any _ _ _ (HRH.out.below blw_) HX3.out).mono ?_); rintro e w3 ⟨v3, rfl, hO7, hB⟩
    have zs := hB.size
    obtain ⟨E, a1, E', a2, E2, a3, e7_⟩ := hO7.rc.parts
    subst e7_
    have hO8 := hO7.lo_ (Nat.le_trans HI.now.2.2.2.2.1 (by first | exact Nat.le_refl _ | (simp; done)))
    clear hO7 HRH
    replace HI := HI.step blw_
    clear hB
    have HB := HI.now.2.2.2.2.2
    have zz := HI.now.2.2.2.2.1
    have c_r0 := HI.now.2.2.2.1.c 0 _ rfl
    have c_r1 := HI.now.2.2.2.1.c 1 _ rfl
    have c_r2 := HI.now.2.2.2.1.c 2 _ rfl
    have f_r0 := HI.now.2.2.2.1.f 0
    have f_r1 := HI.now.2.2.2.1.f 1
    have f_r2 := HI.now.2.2.2.1.f 2
    clear HI
    go_wp2_with fail
    refine bodyPost_ret (v := .tuple #[.agg #[.slice E (countDo p o).store.cells.length a1, .slice E' (countDo p o).store.roots.length a2, .slice E2 (countDo p o).counts.length a3], .bool true]) (by simp [results, Try.results8, go_sem, c_r0, c_r1, c_r2, countDo]) rfl ⟨_, by rw [HX.out], by rw [HX.out]; exact (((hO8.set_lt (by simp) _).set_lt (by simp) _).set_lt (by simp) _).lo_ (by omega), blw_⟩
  have HOP := Lib.hid hop
  clear hop
  have c_p0 := HI.now.2.1.c 0 _ rfl
  have c_p1 := HI.now.2.1.c 1 _ rfl
  have c_p2 := HI.now.2.1.c 2 _ rfl
  have c_o0 := HI.now.2.2.1.c 0 _ rfl
  have c_o1 := HI.now.2.2.1.c 1 _ rfl
  have c_o2 := HI.now.2.2.1.c 2 _ rfl
  have c_o3 := HI.now.2.2.1.c 3 _ rfl
  have hop := HOP.out
  have zz := HI.now.2.2.2.2.1
  go_upto_region 6 with fail
  refine Code.gen (Stb (fun W => RCt W (.agg #[.slice A_p p.store.cells.length n_p, .slice B_p p.store.roots.length m_p, .slice C_p p.counts.length k_p]) p ∧ Bx W w.heap.size [.slice A_p p.store.cells.length n_p, .slice B_p p.store.roots.length m_p, .slice C_p p.counts.length k_p] ∧ Bx W (w.heap.size + 1) [.int .i64 o.op, .int .i64 o.a, .int .i64 o.b, .int .i64 o.c] ∧ Bx W (w.heap.size + 2) [.slice none 0 0, .slice none 0 0, .slice none 0 0] ∧ w.heap.size + 3 ≤ W.heap.size ∧ Below w.heap.size w W)) (HI.step blw_) ?_
  clear c_p0 c_p1 c_p2 c_o0 c_o1 c_o2 c_o3 hop zz
  clear HI 
  rintro W HI
  have c_p0 := HI.now.2.1.c 0 _ rfl
  have c_p1 := HI.now.2.1.c 1 _ rfl
  have c_p2 := HI.now.2.1.c 2 _ rfl
  have c_o0 := HI.now.2.2.1.c 0 _ rfl
  have c_o1 := HI.now.2.2.1.c 1 _ rfl
  have c_o2 := HI.now.2.2.1.c 2 _ rfl
  have c_o3 := HI.now.2.2.1.c 3 _ rfl
  have zz := HI.now.2.2.2.2.1
  go_wp2_with fail
  refine Calls.gen (Stb (fun W => RCt W (.agg #[.slice A_p p.store.cells.length n_p, .slice B_p p.store.roots.length m_p, .slice C_p p.counts.length k_p]) p ∧ Bx W w.heap.size [.slice A_p p.store.cells.length n_p, .slice B_p p.store.roots.length m_p, .slice C_p p.counts.length k_p] ∧ Bx W (w.heap.size + 1) [.int .i64 o.op, .int .i64 o.a, .int .i64 o.b, .int .i64 o.c] ∧ Bx W (w.heap.size + 2) [.slice none 0 0, .slice none 0 0, .slice none 0 0] ∧ w.heap.size + 3 ≤ W.heap.size ∧ Below w.heap.size w W)) (HI.step blw_) ?_
  clear c_p0 c_p1 c_p2 c_o0 c_o1 c_o2 c_o3 zz
  clear HI 
  rintro W HI
  (with_reducible refine (do_any _ p.store o (freeAt p.store.cells) _ (HI.now.1).st HV.out.1 HCO.out HPS.out (freeAt_le _)).mono ?_); rintro e w2 ⟨v2, rfl, oH, hB⟩
  have hRH := oH.rh
  clear oH
  replace HI := HI.step hB
  clear hB
  have HRH := Lib.hid hRH
  clear hRH
  go_wp2_with fail
  (with_reducible refine (l10Free_any _ _ _ (HRH.out.below blw_) HX3.out).mono ?_); rintro e w3 ⟨v3, rfl, hO7, hB⟩
  have zs := hB.size
  obtain ⟨E, a1, E', a2, E2, a3, e7_⟩ := hO7.rc.parts
  subst e7_
  have hO8 := hO7.lo_ (Nat.le_trans HI.now.2.2.2.2.1 (by first | exact Nat.le_refl _ | (simp; done)))
  clear hO7 HRH
  replace HI := HI.step blw_
  clear hB
  have HB := HI.now.2.2.2.2.2
  have zz := HI.now.2.2.2.2.1
  have c_r0 := HI.now.2.2.2.1.c 0 _ rfl
  have c_r1 := HI.now.2.2.2.1.c 1 _ rfl
  have c_r2 := HI.now.2.2.2.1.c 2 _ rfl
  have f_r0 := HI.now.2.2.2.1.f 0
  have f_r1 := HI.now.2.2.2.1.f 1
  have f_r2 := HI.now.2.2.2.1.f 2
  clear HI
  go_wp2_with fail
  refine bodyPost_ret (v := .tuple #[.agg #[.slice E (countDo p o).store.cells.length a1, .slice E' (countDo p o).store.roots.length a2, .slice E2 (countDo p o).counts.length a3], .bool true]) (by simp [results, Try.results8, go_sem, c_r0, c_r1, c_r2, countDo]) rfl ⟨_, by rw [HX.out], by rw [HX.out]; exact (((hO8.set_lt (by simp) _).set_lt (by simp) _).set_lt (by simp) _).lo_ (by omega), blw_⟩
end Go.Proofs.Ytkikeanpbffpkaa

/- spec.RunCounted. -/
namespace Go.Proofs.Ytkikeanpbffpkaa
open Go.RowKit
set_option maxRecDepth 100000
set_option linter.unusedSimpArgs false
set_option linter.unusedVariables false
set_option maxHeartbeats 4000000 in
theorem specRunCounted_any (A : Option Addr) (l : List CmdM) (c : Nat) (w : World) (hv0 : RO w A l) (hl : l.length ≤ 9223372036854775807) :
    Calls Try.prog 16 #[.slice A l.length c] w fun e w' => ∃ v', e = .returned v' ∧ OCt w.heap.size w' v' (runCountM l) ∧ Below w.heap.size w w' := by
  have hv := hv0
  rcases bool_ft (cmdsOk l) with hok | hok
  · have HE := Lib.hid (runCountM_bad hok)
    go_enter Try.func16, Try.ntmps16; go_wp2_with fail; refine Calls.gen (fun W => Bx W w.heap.size [.slice none 0 0, .slice none 0 0, .slice none 0 0] ∧ Below w.heap.size w W ∧ RO W A l) ⟨Bx.new w [.slice none 0 0, .slice none 0 0, .slice none 0 0] 28, blw_, hv.below blw_⟩ ?_; clear hv; rintro W0 ⟨X2, HB, hv⟩; (with_reducible refine (specCommandsValid_any A l c _ hv hl).mono ?_); rw [hok]; rintro e w1 ⟨rfl, hB⟩; have X2 := X2.below hB; have HB := HB.trans (hB.mono HB.size); have hv := hv.below hB; clear hB
    have r0 := X2.c 0 _ rfl
    have r1 := X2.c 1 _ rfl
    have r2 := X2.c 2 _ rfl
    have f0 := X2.f 0
    have f1 := X2.f 1
    have f2 := X2.f 2
    go_wp2_with fail
    refine bodyPost_ret (v := .agg #[.slice none 0 0, .slice none 0 0, .slice none 0 0]) (by simp [results, Try.results16, go_sem, r0, r1, r2]) rfl ⟨_, rfl, by rw [HE.out]; exact OCt.zero, blw_⟩
  have HE := Lib.hid (runCountN_all hok)
  have hl40 : l.length ≤ 40 := by unfold cmdsOk at hok; simp only [Bool.and_eq_true, decide_eq_true_eq] at hok; exact hok.1
  go_enter Try.func16, Try.ntmps16; go_wp2_with fail; refine Calls.gen (fun W => Bx W w.heap.size [.slice none 0 0, .slice none 0 0, .slice none 0 0] ∧ Below w.heap.size w W ∧ RO W A l) ⟨Bx.new w [.slice none 0 0, .slice none 0 0, .slice none 0 0] 28, blw_, hv.below blw_⟩ ?_; clear hv; rintro W0 ⟨X2, HB, hv⟩; (with_reducible refine (specCommandsValid_any A l c _ hv hl).mono ?_); rw [hok]; rintro e w1 ⟨rfl, hB⟩; have X2 := X2.below hB; have HB := HB.trans (hB.mono HB.size); have hv := hv.below hB; clear hB
  clear hok
  have hx1 := X2.lt
  go_wp2_with fail
  (with_reducible refine (specEmptyHeap_any _).mono ?_)
  rintro e w2 ⟨v2, rfl, ⟨B, d, B', d', os, rfl, hm, hO, hlo⟩, hB2⟩
  have X2 := X2.below hB2
  have HB := HB.trans (hB2.mono HB.size)
  have hlo2 : ∀ g ∈ hblks B os B', w.heap.size + 1 ≤ g := fun g hg => by have := hlo g hg; have := X2.lt; have := hB2.size; omega
  have hx2 := X2.lt
  have hlt := hO.lt
  have hW3 : Below w2.heap.size w2 (w2.alloc (.cells #[] 3)) := (Below.refl _ _).alloc (Nat.le_refl _) _
  have HC : Hid (CB (w.heap.size + 1) (w2.heap.size + 1) ((w2.alloc (.cells #[] 3)).alloc (.cells #[.slice B emptyM.cells.length d, .slice B' emptyM.roots.length d', .slice (some ⟨w2.heap.size, 0, none⟩) 0 0] 28)) emptyC B d B' d' (some ⟨w2.heap.size, 0, none⟩) 0) :=
    ⟨(show Bx _ (w2.heap.size + 1) [.slice B emptyM.cells.length d, .slice B' emptyM.roots.length d', .slice (some ⟨w2.heap.size, 0, none⟩) 0 0] by simpa using Bx.new (w2.alloc (.cells #[] 3)) [.slice B emptyM.cells.length d, .slice B' emptyM.roots.length d', .slice (some ⟨w2.heap.size, 0, none⟩) 0 0] 28), (OCt.mk_ (p := emptyC) (os := os) hm (hO.below hW3) hlo2 (OF.fresh0 (heap_alloc_at _ _ _ rfl)) (fun g hg => ⟨by have := mem_blk_some hg; omega, fun hc => by have := mem_blk_some hg; have := hlt g hc; omega⟩)).below blw_⟩
  have HX2 := Lib.hid X2
  have HB2 := Lib.hid HB
  clear hm hO hlo2 hlt hB2 hlo hv hW3 X2 HB
  go_upto_region 4 with fail
  refine Code.gen (fun W => CB (w.heap.size + 1) (w2.heap.size + 1) W emptyC B d B' d' (some ⟨w2.heap.size, 0, none⟩) 0 ∧ Bx W w.heap.size [.slice none 0 0, .slice none 0 0, .slice none 0 0] ∧ Below w.heap.size w W) ⟨HC.out.below blw_, HX2.out.below blw_, by have := HB2.out; exact blw_⟩ ?_
  clear HC HX2 HB2
  have hx4 : w.heap.size + 1 ≤ w2.heap.size + 1 := by omega
  generalize (some ⟨w2.heap.size, 0, none⟩ : Option Addr) = S
  generalize w2.heap.size + 1 = b3 at hx4 ⊢
  clear hx2 hx1
  rintro W ⟨HC, X2, HB⟩
  go_wp2
  go_loopw [4] (fun i wr => ∃ (k : Nat) (q : CountM) (D : Option Addr) (e : Nat) (D' : Option Addr) (e' : Nat) (D2 : Option Addr) (e2 : Nat), k ≤ l.length ∧ i = .int .i64 k ∧ Hid (q = runCountN l k) ∧ CB (w.heap.size + 1) b3 wr q D e D' e' D2 e2 ∧ Bx wr w.heap.size [.slice none 0 0, .slice none 0 0, .slice none 0 0] ∧ Below w.heap.size w wr) (fun i _ => l.length - (intOf i).toNat)
  case atStart => exact ⟨0, emptyC, B, d, B', d', S, 0, by omega, rfl, rfl, HC, X2, HB⟩
  case round =>
    clear HC X2 HB
    obtain ⟨k, q, D, e, D', e', D2, e2, hk, rfl, HR, HC, X2, HB⟩ := hrel
    have q0 := HC.bx.c 0 _ rfl
    have q1 := HC.bx.c 1 _ rfl
    have q2 := HC.bx.c 2 _ rfl
    have hqz := HC.bx.lt
    have hoc := HC.oc.rc
    have hbx := HC.bx
    by_cases hlt : k < l.length
    · obtain ⟨b, o, x, rfl, gx, c1, c2, c3, c4, hb⟩ := (hv0.below HB).at_ hlt
      have HN := Lib.hid (runCountN_succ gx)
      have hlt' : (k : Int) < (l.length : Int) := by omega
      have sB := HB.size
      have hS : ∀ W, Below wr.heap.size wr W → W.cell? ⟨b3, 0, none⟩ = some (.slice D q.store.cells.length e) ∧ W.cell? ⟨b3, 1, none⟩ = some (.slice D' q.store.roots.length e') ∧ W.cell? ⟨b3, 2, none⟩ = some (.slice D2 q.counts.length e2) ∧ W.cell? ⟨b, o + k * 4, none⟩ = some (.int .i64 x.op) ∧ W.cell? ⟨b, o + k * 4 + 1, none⟩ = some (.int .i64 x.a) ∧ W.cell? ⟨b, o + k * 4 + 2, none⟩ = some (.int .i64 x.b) ∧ W.cell? ⟨b, o + k * 4 + 3, none⟩ = some (.int .i64 x.c) := fun W hW =>
        ⟨cell_below q0 hW, cell_below q1 hW, cell_below q2 hW, cell_below c1 hW, cell_below c2 hW, cell_below c3 hW, cell_below c4 hW⟩
      have HX2 := Lib.hid X2
      have HBX := Lib.hid hbx
      have HB9 := Lib.hid HB
      clear gx HC X2 hbx HB
      go_upto_region 7 with fail
      go_region_held3 (fun w' => w'.cell? ⟨b3, 0, none⟩ = some (.slice D q.store.cells.length e) ∧ w'.cell? ⟨b3, 1, none⟩ = some (.slice D' q.store.roots.length e') ∧ w'.cell? ⟨b3, 2, none⟩ = some (.slice D2 q.counts.length e2) ∧ w'.cell? ⟨b, o + k * 4, none⟩ = some (.int .i64 x.op) ∧ w'.cell? ⟨b, o + k * 4 + 1, none⟩ = some (.int .i64 x.a) ∧ w'.cell? ⟨b, o + k * 4 + 2, none⟩ = some (.int .i64 x.b) ∧ w'.cell? ⟨b, o + k * 4 + 3, none⟩ = some (.int .i64 x.c))
        (first | with_reducible exact hS _ blw_)
        (first
          | (go_at_call 8; (with_reducible refine (specStepCounted_any _ q x _ (hoc.below blw_)).mono ?_); rintro e5 w5 ⟨v5, rfl, hO5, hB5⟩; obtain ⟨E, a1, E', a2, E2, a3, e5_⟩ := hO5.rc.parts; subst e5_; (have z_hB5 := Below.size hB5); (try simp only [World.size_alloc, World.size_setCell, World.size_drew, World.heap_drewN] at z_hB5); obtain ⟨hbc, hbf, -⟩ := bcell hB5; (first | (have zl5 : wr.heap.size < w5.heap.size := Nat.lt_of_lt_of_le (Nat.lt_succ_self _) z_hB5; have HBN := Lib.hid ((Bx.new wr [.slice none 0 0, .slice none 0 0, .slice none 0 0] 28).below (W' := w5) blw_)) | skip); have Y5 : Below wr.heap.size wr w5 := blw_; have HO5 := Lib.hid hO5; clear hO5))
      all_goals
        have x0 := cell_below q0 Y5
        have x1 := cell_below q1 Y5
        have x2 := cell_below q2 Y5
        have xf := HBX.out.below Y5
        have xf0 := xf.f 0
        have xf1 := xf.f 1
        have xf2 := xf.f 2
        have hx5 : b3 < w5.heap.size := xf.lt
        have sY5 := Y5.size
        have hO5 := HO5.out
        try simp only [World.size_alloc, World.size_setCell, World.size_drew, World.heap_drewN, heap_drew_] at hO5
        have HO5 := Lib.hid hO5
        have HX5 := Lib.hid (HX2.out.below Y5)
        have hw5 : Below w.heap.size w w5 := HB9.out.trans (Y5.mono sB)
        have HXB := Lib.hid xf
        have hwm : w5.heap.size ≠ b3 := by omega
        have hwm' : b3 ≠ w5.heap.size := by omega
        have hzc : wr.heap.size ≠ b3 := by omega
        have hzc2 : b3 ≠ wr.heap.size := by omega
        clear hO5 xf hB5 q0 q1 q2 hoc hS HX2 HBX HB9
        have HN5 : Hid ((stepCountM q x).1 = runCountN l (k + 1)) := by unfold Hid; rw [HN.out, ← HR.out]
        have nw1 : w.heap.size ≠ b3 := by omega
        have nw2 : w.heap.size ≠ wr.heap.size := by omega
        clear HN HR
        go_upto_region 8 with fail
      · refine Code.gen (fun W => OCt (b3 + 1) W (.agg #[.slice E (stepCountM q x).1.store.cells.length a1, .slice E' (stepCountM q x).1.store.roots.length a2, .slice E2 (stepCountM q x).1.counts.length a3]) (stepCountM q x).1 ∧ Bx W b3 [.slice D q.store.cells.length e, .slice D' q.store.roots.length e', .slice D2 q.counts.length e2] ∧ Bx W w.heap.size [.slice none 0 0, .slice none 0 0, .slice none 0 0] ∧ Below w.heap.size w W ∧ Bx W w5.heap.size [.slice E (stepCountM q x).1.store.cells.length a1, .slice E' (stepCountM q x).1.store.roots.length a2, .slice E2 (stepCountM q x).1.counts.length a3]) ⟨(HO5.out.lo_ (by omega)).below blw_, HXB.out.below blw_, HX5.out.below blw_, blw_, Bx.new w5 [.slice E (stepCountM q x).1.store.cells.length a1, .slice E' (stepCountM q x).1.store.roots.length a2, .slice E2 (stepCountM q x).1.counts.length a3] _⟩ ?_
        generalize w5.heap.size = b5
        clear x0 x1 x2 xf0 xf1 xf2 HO5 HX5 hw5 HXB; rintro WS ⟨hO5, hX3, hX0, hB6, hX5⟩; have x0 := hX3.c 0 _ rfl; have x1 := hX3.c 1 _ rfl; have x2 := hX3.c 2 _ rfl; have xf0 := hX3.f 0; have xf1 := hX3.f 1; have xf2 := hX3.f 2; have y0 := hX5.c 0 _ rfl; have y1 := hX5.c 1 _ rfl; have y2 := hX5.c 2 _ rfl; have HO6 := Lib.hid hO5; have HX6 := Lib.hid hX3; have HX7 := Lib.hid hX0; clear hO5 hX3 hX0 hX5; go_wp2; go_roundw
        case rel => exact ⟨k + 1, (stepCountM q x).1, E, a1, E', a2, E2, a3, by omega, by go_num, HN5, CB.store HX6.out HO6.out (Nat.lt_succ_self _) (by omega), ((HX7.out.other nw1 _ _).other nw1 _ _).other nw1 _ _, blw_⟩
        case measure => simp [intOf]; omega
      · refine Code.gen (fun W => OCt (b3 + 1) W (.agg #[.slice E (stepCountM q x).1.store.cells.length a1, .slice E' (stepCountM q x).1.store.roots.length a2, .slice E2 (stepCountM q x).1.counts.length a3]) (stepCountM q x).1 ∧ Bx W b3 [.slice D q.store.cells.length e, .slice D' q.store.roots.length e', .slice D2 q.counts.length e2] ∧ Bx W w.heap.size [.slice none 0 0, .slice none 0 0, .slice none 0 0] ∧ Below w.heap.size w W ∧ Bx W wr.heap.size [.slice E (stepCountM q x).1.store.cells.length a1, .slice E' (stepCountM q x).1.store.roots.length a2, .slice E2 (stepCountM q x).1.counts.length a3]) ⟨(((HO5.out.set_lt (Nat.lt_succ_self _) _).set_lt (Nat.lt_succ_self _) _).set_lt (Nat.lt_succ_self _) _).lo_ (by omega), ((HXB.out.other hzc2 _ _).other hzc2 _ _).other hzc2 _ _, ((HX5.out.other nw2 _ _).other nw2 _ _).other nw2 _ _, blw_, HBN.out.set3 _ _ _⟩ ?_
        generalize wr.heap.size = b5
        clear x0 x1 x2 xf0 xf1 xf2 HO5 HX5 hw5 HXB; rintro WS ⟨hO5, hX3, hX0, hB6, hX5⟩; have x0 := hX3.c 0 _ rfl; have x1 := hX3.c 1 _ rfl; have x2 := hX3.c 2 _ rfl; have xf0 := hX3.f 0; have xf1 := hX3.f 1; have xf2 := hX3.f 2; have y0 := hX5.c 0 _ rfl; have y1 := hX5.c 1 _ rfl; have y2 := hX5.c 2 _ rfl; have HO6 := Lib.hid hO5; have HX6 := Lib.hid hX3; have HX7 := Lib.hid hX0; clear hO5 hX3 hX0 hX5; go_wp2; go_roundw
        case rel => exact ⟨k + 1, (stepCountM q x).1, E, a1, E', a2, E2, a3, by omega, by go_num, HN5, CB.store HX6.out HO6.out (Nat.lt_succ_self _) (by omega), ((HX7.out.other nw1 _ _).other nw1 _ _).other nw1 _ _, blw_⟩
        case measure => simp [intOf]; omega
    · have hke : k = l.length := by omega
      have hge : ¬ (k : Int) < (l.length : Int) := by omega
      have HM : Hid (runCountM l = q) := by unfold Hid; rw [HE.out, HR.out, hke]
      have r0 := X2.c 0 _ rfl
      have r1 := X2.c 1 _ rfl
      have r2 := X2.c 2 _ rfl
      have f0 := X2.f 0
      have f1 := X2.f 1
      have f2 := X2.f 2
      have HO := Lib.hid HC.oc
      clear hke HR hoc hbx HC
      go_wp2_with fail
      refine bodyPost_ret (v := .agg #[.slice D q.store.cells.length e, .slice D' q.store.roots.length e', .slice D2 q.counts.length e2]) (by simp [results, Try.results16, go_sem, r0, r1, r2]) rfl ⟨_, rfl, ?_, blw_⟩
      rw [HM.out]
      exact (((HO.out.set_lt (by simp) _).set_lt (by simp) _).set_lt (by simp) _).lo_ (by omega)
end Go.Proofs.Ytkikeanpbffpkaa
