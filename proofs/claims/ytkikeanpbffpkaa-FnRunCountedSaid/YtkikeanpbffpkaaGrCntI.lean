/- Texts of one family, one behind the other: CntA, CntI, CntV, CntC, CntK, Que, FreS, FreU, CntS, CntD, CntRI. -/
import Derived.Test.YtkikeanpbffpkaaChecked
import Derived.IntWalk
import Derived.Test.YtkikeanpbffpkaaGrClo
import Derived.Test.YtkikeanpbffpkaaGrCntD
import Derived.Test.YtkikeanpbffpkaaGrCopy
import Derived.Test.YtkikeanpbffpkaaGrCtx
import Derived.Deep.QuietTactic
import Derived.BigQuiet
import Derived.Deep.RegionWith
import Derived.Test.YtkikeanpbffpkaaGrSame
import Derived.Test.YtkikeanpbffpkaaGrHeap
import Derived.Test.YtkikeanpbffpkaaGrSam
import Derived.Deep.RegionHeld3
import Derived.Deep.DeepCutAuto
import Derived.Maps.AppendAt
import Derived.Test.YtkikeanpbffpkaaDataO
import Derived.Test.YtkikeanpbffpkaaBoxT
import Derived.Still
import Derived.StillTailTactics
import Derived.Test.YtkikeanpbffpkaaGrStep
import Derived.Test.YtkikeanpbffpkaaGrExec
import Derived.Test.YtkikeanpbffpkaaPlace
import Derived.Test.YtkikeanpbffpkaaGrCmd
import Derived.Test.YtkikeanpbffpkaaCmdsV
/- impl.refCounts: its inner function counts the references of a list. -/
namespace Go.Proofs.Ytkikeanpbffpkaa
open Go.RowKit
set_option maxRecDepth 100000
set_option linter.unusedSimpArgs false
set_option linter.unusedVariables false
set_option maxHeartbeats 4000000 in
theorem addRefs_any (lo : Nat) (Ar : Option Addr) (rs : List Int) (cr : Nat) (bk : Nat) (A : Option Addr) (c : Nat) (cs : List Int) (w : World) (hk : w.cell? ⟨bk, 0, none⟩ = some (.slice A cs.length c)) (hO : OF 3 fi w A c cs) (hg : bk ∉ blk A) (hlo : ∀ b ∈ blk A, lo ≤ b) (hlw : lo ≤ w.heap.size)
    (hr : ∀ W, Below lo w W → RF fi W Ar rs) (hrl : rs.length ≤ 1048576) (hlt : ∀ r ∈ rs, r < cs.length) (hb : ∀ x ∈ cs, 0 ≤ x ∧ x ≤ 1048576) :
    Calls Try.prog 73 #[.slice Ar rs.length cr, .pointer (some ⟨bk, 0, none⟩)] w fun e w' => e = .returned (.tuple #[]) ∧ OF 3 fi w' A c (bumpL cs rs) ∧ Only (blk A) w w' := by
  have HR := Lib.hid hr
  have HLT := Lib.hid hlt
  have HO := Lib.hid hO
  have HBD := Lib.hid hb
  have HLO := Lib.hid hlo
  clear hr hlt hO hb hlo
  go_enter Try.func73, Try.ntmps73
  go_wp2
  go_loopw [7] (fun i wr => ∃ j : Nat, j ≤ rs.length ∧ i = .int .i64 (j : Int) ∧ Hid (OF 3 fi wr A c (bumpL cs (rs.take j))) ∧ Only (blk A) w wr) (fun i _ => rs.length - (intOf i).toNat)
  case atStart => exact ⟨0, by omega, rfl, HO, Only.refl _ _⟩
  case round =>
    obtain ⟨j, hj, rfl, HQ, hOn⟩ := hrel
    have k0 := hOn.cell hk hg
    by_cases hlt : j < rs.length
    · obtain ⟨b, o, r, rfl, gr, c1, -⟩ := (HR.out wr (hOn.below hlw HLO.out)).at_ hlt
      have c1' : wr.cell? ⟨b, o + j, none⟩ = some (.int .i64 r) := c1
      have hrc := HLT.out r (List.mem_of_getElem? gr)
      have HS := Lib.hid (bumpL_snoc (cs := cs) gr)
      have hln : (bumpL cs (rs.take j)).length = cs.length := bumpL_len _ _
      obtain ⟨Q, hQ⟩ : ∃ Q, Hid (Q = bumpL cs (rs.take j)) := ⟨_, rfl⟩
      rw [← hQ.out] at HQ HS hln
      have HBQ : Hid (∀ x ∈ Q, 0 ≤ x ∧ x ≤ 2097152) := fun x hx => by
        rw [hQ.out] at hx
        have := bumpL_bd _ HBD.out (by omega) x hx
        simp at this
        omega
      clear gr c1
      by_cases h0 : 0 ≤ r
      · obtain ⟨m, rfl⟩ := Int.eq_ofNat_of_zero_le h0
        have hm : m < Q.length := by omega
        obtain ⟨g, rfl, hgw⟩ := HQ.out.some_ hm
        have hy : Q[m]? = some Q[m] := List.getElem?_eq_getElem hm
        obtain ⟨y, hyv⟩ : ∃ y, Q[m] = y := ⟨_, rfl⟩
        rw [hyv] at hy
        have d1 : wr.cell? ⟨g, m, none⟩ = some (.int .i64 y) := HQ.out.cell hy
        have f1 := HQ.out.frozen m
        have hy2 := HBQ.out y (List.mem_of_getElem? hy)
        have hy3 : y + 1 < 9223372036854775808 := by omega
        have HN : Hid (bumpL cs (rs.take (j + 1)) = Q.set m (y + 1)) := by
          unfold Hid
          rw [HS.out]
          unfold bump
          rw [if_pos (by omega), Int.toNat_natCast, List.getD_eq_getElem?_getD, hy]
          rfl
        clear hy hyv
        go_wp2
        go_roundw
        case rel => exact ⟨j + 1, by omega, by go_num, by rw [HN.out]; exact HQ.out.set_ m (y + 1), hOn.setCell (.inl (by simp [blk])) _⟩
        case measure => simp [intOf]; omega
      · have HN : Hid (bumpL cs (rs.take (j + 1)) = Q) := by
          unfold Hid
          rw [HS.out]
          unfold bump
          rw [if_neg h0]
        go_wp2
        go_roundw
        case rel => exact ⟨j + 1, by omega, by go_num, by rw [HN.out]; exact HQ, hOn⟩
        case measure => simp [intOf]; omega
    · have hje : j = rs.length := by omega
      have HF : Hid (OF 3 fi wr A c (bumpL cs rs)) := by have := HQ.out; rw [hje, List.take_length] at this; exact this
      go_wp2
      go_end0
      exact ⟨rfl, HF.out, hOn⟩
end Go.Proofs.Ytkikeanpbffpkaa

/- impl.refCounts: how many roots and references of cells out of a set lead to every cell. -/
namespace Go.Proofs.Ytkikeanpbffpkaa
open Go.RowKit
set_option maxRecDepth 100000
set_option linter.unusedSimpArgs false
set_option linter.unusedVariables false
/-- The state of refCounts: the heap's box at s0, the counts' row at s0 + 1, its box at s0 + 2. -/
structure CtI (s0 : Nat) (w : World) (A A' : Option Addr) (n c m c' : Nat) (w0 : World) (cs : List Int) (W : World) : Prop where
  h0 : W.cell? ⟨s0, 0, none⟩ = some (.slice A n c)
  h1 : W.cell? ⟨s0, 1, none⟩ = some (.slice A' m c')
  kb : W.cell? ⟨s0 + 2, 0, none⟩ = some (.slice (some ⟨s0 + 1, 0, none⟩) n n)
  own : OF 3 fi W (some ⟨s0 + 1, 0, none⟩) n cs
  len : cs.length = n
  lt : s0 + 2 < W.heap.size
  bel : Below s0 w0 W
theorem CtI.only {s0 : Nat} {w w0 W W' : World} {A A' : Option Addr} {n c m c' : Nat} {cs cs' : List Int} (h : CtI s0 w A A' n c m c' w0 cs W) (hO : OF 3 fi W' (some ⟨s0 + 1, 0, none⟩) n cs') (hl : cs'.length = n) (hOn : Only (blk (some ⟨s0 + 1, 0, none⟩)) W W') : CtI s0 w A A' n c m c' w0 cs' W' :=
  ⟨hOn.cell h.h0 (by simp [blk]), hOn.cell h.h1 (by simp [blk]), hOn.cell h.kb (by simp [blk]), hO, hl, Nat.lt_of_lt_of_le h.lt hOn.size, h.bel.trans (hOn.below (by have := h.lt; omega) (fun b hb => by have := mem_blk_some hb; omega))⟩
theorem CtI.below {s0 : Nat} {w w0 W W' : World} {A A' : Option Addr} {n c m c' : Nat} {cs : List Int} (h : CtI s0 w A A' n c m c' w0 cs W) (hB : Below W.heap.size W W') : CtI s0 w A A' n c m c' w0 cs W' :=
  ⟨cell_below h.h0 hB, cell_below h.h1 hB, cell_below h.kb hB, h.own.below hB, h.len, Nat.lt_of_lt_of_le h.lt hB.size, h.bel.trans (hB.mono (by have := h.lt; omega))⟩
set_option maxHeartbeats 4000000 in
theorem refCounts_any (v : Value) (h : HeapM) (s : Nat) (w : World) (hv : RH w v h) (hva : validM h = true) (hs : s < 18446744073709551616) :
    Calls Try.prog 45 #[v, .int .u64 (s : Int)] w fun e w' => ∃ S k, e = .returned (.slice S h.cells.length k) ∧ OF 3 fi w' S k (cntsD h s.testBit) ∧ (∀ g ∈ blk S, w.heap.size ≤ g) ∧ Below w.heap.size w w' := by
  obtain ⟨A, c, A', c', rfl, hc, hrr, -, -⟩ := hv
  have hsm := valid_small hva
  have hn40 : h.cells.length ≤ 40 := hsm.1
  have HC := Lib.hid hc
  have HR := Lib.hid hrr
  have HL := Lib.hid (valid_refs_lt hva)
  have HV := Lib.hid hva
  have hroots : h.roots.length ≤ 4 := by have := hsm.2.1; omega
  clear hc hrr hsm hva
  have hmk := mk_ints h.cells.length (by omega)
  have hS0 : CtI w.heap.size w A A' h.cells.length c h.roots.length c' w (List.replicate h.cells.length 0) (((w.alloc (.cells #[.slice A h.cells.length c, .slice A' h.roots.length c'] 26)).alloc (.cells (rowF fi (List.replicate h.cells.length 0)) 3)).alloc (.cells #[.slice (some ⟨w.heap.size + 1, 0, none⟩) h.cells.length h.cells.length] 24)) :=
    ⟨by simp [go_sem], by simp [go_sem], by simp [go_sem], OF.of_blkn (by simp) (by rw [Below.heap_alloc _ _ _ (by first | omega | (simp; done) | (simp; omega))]; exact heap_alloc_at _ _ _ (by simp)) (by simp only [maxLen]; simp; omega), by simp, by simp, blw_⟩
  go_enter Try.func45, Try.ntmps45
  go_wp2_with fail
  refine Calls.gen (fun W => CtI w.heap.size w A A' h.cells.length c h.roots.length c' w (List.replicate h.cells.length 0) W) (hS0.below blw_) ?_
  clear hmk hS0
  rintro W0 hS0
  (with_reducible refine (addRefs_any w.heap.size A' h.roots c' (w.heap.size + 2) (some ⟨w.heap.size + 1, 0, none⟩) h.cells.length (List.replicate h.cells.length 0) W0 (by rw [List.length_replicate]; exact hS0.kb) hS0.own (by simp [blk]) (fun b hb => by have := mem_blk_some hb; omega) (by have := hS0.lt; omega) (fun W hW => HR.out.below (hS0.bel.trans hW)) (by omega) (fun r hr => by rw [List.length_replicate]; exact HL.out.1 r hr) (fun x hx => by have := (List.mem_replicate.1 hx).2; omega)).mono ?_)
  rintro e w1 ⟨rfl, hO1, hOn1⟩
  rw [cntP_start h s.testBit] at hO1
  have hS1 := hS0.only hO1 (cntP_len _ _ _) hOn1
  clear hS0 hO1 hOn1
  have q0 := hS1.h0
  have q1 := hS1.kb
  have q2 := hS1.lt
  have HS1 := Lib.hid hS1
  clear hS1
  go_wp2
  go_loopw [21] (fun i wr => ∃ j : Nat, j ≤ h.cells.length ∧ i = .int .i64 (j : Int) ∧ Hid (CtI w.heap.size w A A' h.cells.length c h.roots.length c' w (cntP h s.testBit j) wr)) (fun i _ => h.cells.length - (intOf i).toNat)
  case atStart => exact ⟨0, by omega, rfl, HS1⟩
  case round =>
    clear HS1 q0 q1 q2
    obtain ⟨j, hj, rfl, HS⟩ := hrel
    have q0 := HS.out.h0
    have q1 := HS.out.kb
    have q2 := HS.out.lt
    have hbz := HS.out.bel.size
    by_cases hlt : j < h.cells.length
    · obtain ⟨b, o, cc, Ac, cr2, rfl, gc, d0, d1, d2, hrf, hrl2, hb⟩ := HC.out.at_ hlt
      have d0' := (HS.out.bel.cell (p := ⟨b, o + j * 3, none⟩) hb).trans d0
      have d1' := (HS.out.bel.cell (p := ⟨b, o + j * 3 + 1, none⟩) hb).trans d1
      have d2' := (HS.out.bel.cell (p := ⟨b, o + j * 3 + 2, none⟩) hb).trans d2
      have HRF := Lib.hid hrf
      have HN := Lib.hid (cntP_next h s.testBit j)
      rw [refsAt_of gc] at HN
      have HRL := Lib.hid (HL.out.2 cc (List.mem_of_getElem? gc))
      have hr3 : cc.refs.length ≤ 3 := by have := refsAt_le HV.out j; rw [refsAt_of gc] at this; exact this
      clear gc d0 d1 d2 hrf
      go_wp2_with fail
      (with_reducible refine (has_any s (j : Int) _ (by omega) hs).mono ?_)
      rw [hasB_nat]
      rintro e w2 ⟨rfl, rfl⟩
      rcases bool_ft (s.testBit j) with hd | hd
      · rw [hd] at HN ⊢
        simp only [Bool.false_eq_true, if_false] at HN
        go_wp2_with fail
        refine Calls.gen (fun W => CtI w.heap.size w (some ⟨b, o, none⟩) A' h.cells.length c h.roots.length c' w (cntP h s.testBit j) W) (HS.out.below blw_) ?_
        clear HS q0 q1 q2 d0' d1' d2' hbz
        rintro W0 hS0
        (with_reducible refine (addRefs_any w.heap.size Ac cc.refs cr2 (w.heap.size + 2) (some ⟨w.heap.size + 1, 0, none⟩) h.cells.length (cntP h s.testBit j) W0 (by rw [cntP_len]; exact hS0.kb) hS0.own (by simp [blk]) (fun b hb => by have := mem_blk_some hb; omega) (by have := hS0.lt; omega) (fun W hW => HRF.out.below (hS0.bel.trans hW)) (by omega) (fun r hr => by rw [cntP_len]; exact HRL.out r hr) (fun x hx => by have := cntP_bd HV.out hj x hx; omega)).mono ?_)
        rintro e w1 ⟨rfl, hO1, hOn1⟩
        rw [← HN.out] at hO1
        have hS1 := hS0.only hO1 (cntP_len _ _ _) hOn1
        clear hS0 hO1 hOn1
        have HS1 := Lib.hid hS1
        clear hS1
        go_wp2
        go_roundw
        case rel => exact ⟨j + 1, by omega, by go_num, HS1⟩
        case measure => simp [intOf]; omega
      · rw [hd] at HN ⊢
        simp only [if_true] at HN
        go_wp2
        go_roundw
        case rel => exact ⟨j + 1, by omega, by go_num, by rw [HN.out]; exact HS.out.below blw_⟩
        case measure => simp [intOf]; omega
    · have hje : j = h.cells.length := by omega
      subst hje
      have HF := Lib.hid HS.out.own
      have HB := Lib.hid HS.out.bel
      go_wp2
      go_ret
      exact ⟨_, _, rfl, HF.out, fun g hg => by have := mem_blk_some hg; omega, HB.out⟩
end Go.Proofs.Ytkikeanpbffpkaa

/- impl.CountedValid. -/
namespace Go.Proofs.Ytkikeanpbffpkaa
open Go.RowKit
set_option maxRecDepth 100000
set_option linter.unusedSimpArgs false
set_option linter.unusedVariables false
theorem cnts_zero (h : HeapM) : cntsD h (Nat.testBit 0) = cntsM h := by
  rw [← cntsM_D]
  congr 1
  funext k
  exact Nat.zero_testBit k
theorem refCounts0_any (v : Value) (h : HeapM) (w : World) (hv : RH w v h) (hva : validM h = true) :
    Calls Try.prog 45 #[v, .int .u64 0] w fun e w' => ∃ S k, e = .returned (.slice S h.cells.length k) ∧ OF 3 fi w' S k (cntsM h) ∧ (∀ g ∈ blk S, w.heap.size ≤ g) ∧ Below w.heap.size w w' := by
  have h9 := refCounts_any v h 0 w hv hva (by omega)
  rw [cnts_zero] at h9
  exact h9
theorem implSameInts_len (A A' : Option Addr) (xs ys : List Int) (c c' : Nat) (w : World) (hx : RF fi w A xs) (hy : RF fi w A' ys) (hn : xs.length ≤ 9223372036854775807) {n : Nat} (h2 : n = ys.length) (hn2 : ys.length ≤ 9223372036854775807 := by omega) :
    Calls Try.prog 44 #[.slice A xs.length c, .slice A' n c'] w fun e w' => e = .returned (.bool (eqB xs ys)) ∧ Below w.heap.size w w' := by
  subst h2
  refine (implSameInts_any A A' xs ys c c' w hx hy hn hn2).mono ?_
  rintro e w' ⟨rfl, n, rfl⟩
  exact ⟨rfl, Below.drewn (Below.refl _ _)⟩
set_option maxHeartbeats 4000000 in
theorem implCountedValid_any (v : Value) (p : CountM) (w : World) (hv : RCt w v p) :
    Calls Try.prog 12 #[v] w fun e w' => e = .returned (.bool (countOk p)) ∧ Below w.heap.size w w' := by
  obtain ⟨A_p, n_p, B_p, m_p, C_p, k_p, rfl⟩ := hv.parts
  go_enter Try.func12, Try.ntmps12
  go_upto_region 1 with fail
  refine Code.gen (Stb (fun W => RCt W (.agg #[.slice A_p p.store.cells.length n_p, .slice B_p p.store.roots.length m_p, .slice C_p p.counts.length k_p]) p ∧ Bx W w.heap.size [.slice A_p p.store.cells.length n_p, .slice B_p p.store.roots.length m_p, .slice C_p p.counts.length k_p] ∧ Below w.heap.size w W)) (Stb.and (Stb.rct (hv.below blw_)) (Stb.and (Stb.bx ((Bx.new w [.slice A_p p.store.cells.length n_p, .slice B_p p.store.roots.length m_p, .slice C_p p.counts.length k_p] 28).below blw_)) (Stb.here blw_))) ?_
  rintro W HI
  clear hv
  rcases bool_ft (validM p.store) with hva | hva
  · have hcv : countOk p = false := by unfold countOk; rw [hva]; rfl
    have HVA := Lib.hid hva
    clear hva
    refine wp_region_R (by kernel_rfl) (fun R wd hR hwd => ?_)
    have hBd : Below W.heap.size W wd := by rw [hwd]; exact blw_
    replace HI := HI.step hBd
    clear hwd hBd
    refine rel_at (fr := ?fr_0) hR (fun f W => Stb (fun W => RCt W (.agg #[.slice A_p p.store.cells.length n_p, .slice B_p p.store.roots.length m_p, .slice C_p p.counts.length k_p]) p ∧ Bx W w.heap.size [.slice A_p p.store.cells.length n_p, .slice B_p p.store.roots.length m_p, .slice C_p p.counts.length k_p] ∧ Below w.heap.size w W) W) [(fun v W => v = .pointer (some ⟨w.heap.size, 0, none⟩)), (fun v W => v = .agg #[.slice A_p p.store.cells.length n_p, .slice B_p p.store.roots.length m_p]), (fun v W => v = .bool false), (fun v W => v = .bool false), (fun v W => v = undef), (fun v W => v = undef), (fun v W => v = undef), (fun v W => v = undef), (fun v W => v = undef), (fun v W => v = undef), (fun v W => v = (.bool false)), (fun v W => v = (.bool false))] (fun W W' => Below W.heap.size W W') [(0, []), (1, [0]), (2, [1, 0]), (3, [2, 1, 0]), (4, [3, 2, 1, 0]), (5, [3, 2, 1, 0]), (6, [3, 2, 1, 0]), (7, [3, 2, 1, 0]), (8, [3, 2, 1, 0]), (9, [3, 2, 1, 0]), (10, [3, 2, 1, 0, 9]), (11, [10, 3, 2, 1, 0, 9])] [(3, 0), (4, 1), (5, 2), (6, 3), (7, 4), (8, 5), (9, 6), (10, 7), (11, 8), (12, 9), (13, 10), (2, 11)] [0, 1, 2, 3, 4, 5, 6, 7, 8, 9, 10, 11] #[true, true, true, true, true, true, true, true, true, true, true, true] 12 0 (by kernel_rfl) (by kernel_rfl) ?hfr_0 ?h0_0 ?mono_0 ?steps_0 ?_
    case hfr_0 => intro x; (simp [frOf, fill, Act.put, List.lookup]; with_reducible rfl)
    case h0_0 => exact HI
    case mono_0 => exact (Pm.cons (fun _ _ _ _ h => h) (Pm.cons (fun _ _ _ _ h => h) (Pm.cons (fun _ _ _ _ h => h) (Pm.cons (fun _ _ _ _ h => h) (Pm.cons (fun _ _ _ _ h => h) (Pm.cons (fun _ _ _ _ h => h) (Pm.cons (fun _ _ _ _ h => h) (Pm.cons (fun _ _ _ _ h => h) (Pm.cons (fun _ _ _ _ h => h) (Pm.cons (fun _ _ _ _ h => h) (Pm.cons (fun _ _ _ _ h => h) (Pm.cons (fun _ _ _ _ h => h) Pm.nil))))))))))))
    case steps_0 =>
      refine Steps.cons (RStep.of rfl fun x W f hI hD K9 hK => ?_) ?_
      · clear hD
        go_simp
        exact hK (.pointer (some ⟨w.heap.size, 0, none⟩)) _ _ (by kernel_rfl) (Below.refl _ _) (hI) rfl
      refine Steps.cons (RStep.of rfl fun x W f hI hD K9 hK => ?_) ?_
      · have e0 : x 0 = .pointer (some ⟨w.heap.size, 0, none⟩) := hD 0 (by decide)
        clear hD
        have c0 := hI.now.2.1.c 0 _ rfl
        have c1 := hI.now.2.1.c 1 _ rfl
        simp only [e0] at hK ⊢
        go_simp
        exact hK (.agg #[.slice A_p p.store.cells.length n_p, .slice B_p p.store.roots.length m_p]) _ _ (by kernel_rfl) (Below.refl _ _) (hI) rfl
      refine Steps.cons (RStep.of rfl fun x W f hI hD K9 hK => ?_) ?_
      · have e1 : x 1 = .agg #[.slice A_p p.store.cells.length n_p, .slice B_p p.store.roots.length m_p] := hD 1 (by decide)
        clear hD
        simp only [e1] at hK ⊢
        go_wp2_with fail
        (with_reducible refine (implHeapValid_any _ p.store _ (hI.now.1).st).mono ?_); rw [HVA.out]
        rintro e w6 ⟨rfl, hB⟩
        exact hK _ _ _ (by kernel_rfl) hB (hI.step hB) rfl
      refine Steps.cons (RStep.of rfl fun x W f hI hD K9 hK => ?_) ?_
      · have e2 : x 2 = .bool false := hD 2 (by decide)
        clear hD
        simp only [e2] at hK ⊢
        go_simp
        exact hK (.bool false) _ _ (by kernel_rfl) (Below.refl _ _) (hI) rfl
      refine Steps.cons (RStep.of rfl fun x W f hI hD K9 hK => ?_) ?_
      · have e3 : x 3 = .bool false := hD 3 (by decide)
        clear hD
        simp only [e3] at hK ⊢
        go_simp
        exact hK (undef) _ _ (by kernel_rfl) (Below.refl _ _) (hI) rfl
      refine Steps.cons (RStep.of rfl fun x W f hI hD K9 hK => ?_) ?_
      · have e3 : x 3 = .bool false := hD 3 (by decide)
        clear hD
        simp only [e3] at hK ⊢
        go_simp
        exact hK (undef) _ _ (by kernel_rfl) (Below.refl _ _) (hI) rfl
      refine Steps.cons (RStep.of rfl fun x W f hI hD K9 hK => ?_) ?_
      · have e3 : x 3 = .bool false := hD 3 (by decide)
        clear hD
        simp only [e3] at hK ⊢
        go_simp
        exact hK (undef) _ _ (by kernel_rfl) (Below.refl _ _) (hI) rfl
      refine Steps.cons (RStep.of rfl fun x W f hI hD K9 hK => ?_) ?_
      · have e3 : x 3 = .bool false := hD 3 (by decide)
        clear hD
        simp only [e3] at hK ⊢
        go_simp
        exact hK (undef) _ _ (by kernel_rfl) (Below.refl _ _) (hI) rfl
      refine Steps.cons (RStep.of rfl fun x W f hI hD K9 hK => ?_) ?_
      · have e3 : x 3 = .bool false := hD 3 (by decide)
        clear hD
        simp only [e3] at hK ⊢
        go_simp
        exact hK (undef) _ _ (by kernel_rfl) (Below.refl _ _) (hI) rfl
      refine Steps.cons (RStep.of rfl fun x W f hI hD K9 hK => ?_) ?_
      · have e3 : x 3 = .bool false := hD 3 (by decide)
        clear hD
        simp only [e3] at hK ⊢
        go_simp
        exact hK (undef) _ _ (by kernel_rfl) (Below.refl _ _) (hI) rfl
      refine Steps.cons (RStep.of rfl fun x W f hI hD K9 hK => ?_) ?_
      · have e3 : x 3 = .bool false := hD 3 (by decide)
        have e9 : x 9 = undef := hD 9 (by decide)
        clear hD
        simp only [e3, e9] at hK ⊢
        go_simp
        exact hK ((.bool false)) _ _ (by kernel_rfl) (Below.refl _ _) (hI) rfl
      refine Steps.cons (RStep.of rfl fun x W f hI hD K9 hK => ?_) ?_
      · have e10 : x 10 = (.bool false) := hD 10 (by decide)
        clear hD
        simp only [e10] at hK ⊢
        go_simp
        exact hK ((.bool false)) _ _ (by kernel_rfl) (Below.refl _ _) (hI) rfl
      exact Steps.nil
    intro x W hI hV
    have e0 : x 0 = .pointer (some ⟨w.heap.size, 0, none⟩) := hV 0 (by decide)
    have e1 : x 1 = .agg #[.slice A_p p.store.cells.length n_p, .slice B_p p.store.roots.length m_p] := hV 1 (by decide)
    have e2 : x 2 = .bool false := hV 2 (by decide)
    have e3 : x 3 = .bool false := hV 3 (by decide)
    have e4 : x 4 = undef := hV 4 (by decide)
    have e5 : x 5 = undef := hV 5 (by decide)
    have e6 : x 6 = undef := hV 6 (by decide)
    have e7 : x 7 = undef := hV 7 (by decide)
    have e8 : x 8 = undef := hV 8 (by decide)
    have e9 : x 9 = undef := hV 9 (by decide)
    have e10 : x 10 = (.bool false) := hV 10 (by decide)
    have e11 : x 11 = (.bool false) := hV 11 (by decide)
    clear hV
    simp only [e0, e1, e2, e3, e4, e5, e6, e7, e8, e9, e10, e11]
    rw [hR]
    refine wpAny_done (by kernel_rfl) ?_ _
    clear hR
    replace HI := hI
    clear hI
    have HB := HI.now.2.2
    clear HI
    go_wp2_with fail
    go_ret
    exact ⟨by rw [hcv]; rfl, HB⟩
  have hcv : countOk p = eqB p.counts (cntsM p.store) := by unfold countOk; rw [hva]; rfl
  have HVA := Lib.hid hva
  clear hva
  refine wp_region_R (by kernel_rfl) (fun R wd hR hwd => ?_)
  have hBd : Below W.heap.size W wd := by rw [hwd]; exact blw_
  replace HI := HI.step hBd
  clear hwd hBd
  refine rel_at (fr := ?fr_1) hR (fun f W => Stb (fun W => RCt W (.agg #[.slice A_p p.store.cells.length n_p, .slice B_p p.store.roots.length m_p, .slice C_p p.counts.length k_p]) p ∧ Bx W w.heap.size [.slice A_p p.store.cells.length n_p, .slice B_p p.store.roots.length m_p, .slice C_p p.counts.length k_p] ∧ Below w.heap.size w W) W) [(fun v W => v = .pointer (some ⟨w.heap.size, 0, none⟩)), (fun v W => v = .agg #[.slice A_p p.store.cells.length n_p, .slice B_p p.store.roots.length m_p]), (fun v W => v = .bool true), (fun v W => v = .bool true), (fun v W => v = .pointer (some ⟨w.heap.size, 2, none⟩)), (fun v W => v = .slice C_p p.counts.length k_p), (fun v W => v = .pointer (some ⟨w.heap.size, 0, none⟩)), (fun v W => v = .agg #[.slice A_p p.store.cells.length n_p, .slice B_p p.store.roots.length m_p]), (fun v W => ∃ (S : Option Addr) (k : Nat), v = .slice S p.store.cells.length k ∧ RF fi W S (cntsM p.store)), (fun v W => v = .bool (eqB p.counts (cntsM p.store))), (fun v W => v = .bool (eqB p.counts (cntsM p.store))), (fun v W => v = .bool (eqB p.counts (cntsM p.store)))] (fun W W' => Below W.heap.size W W') [(0, []), (1, [0]), (2, [1, 0]), (3, [2, 1, 0]), (4, [3, 2, 1, 0]), (5, [3, 2, 1, 0, 4]), (6, [3, 2, 1, 0]), (7, [3, 2, 1, 0, 6]), (8, [3, 2, 1, 0, 7, 6]), (9, [3, 2, 1, 0, 5, 4, 8, 7, 6]), (10, [3, 2, 1, 0, 9, 5, 4, 8, 7, 6]), (11, [10, 3, 2, 1, 0, 9, 5, 4, 8, 7, 6])] [(3, 0), (4, 1), (5, 2), (6, 3), (7, 4), (8, 5), (9, 6), (10, 7), (11, 8), (12, 9), (13, 10), (2, 11)] [0, 1, 2, 3, 4, 5, 6, 7, 8, 9, 10, 11] #[true, true, true, true, true, true, true, true, true, true, true, true] 12 0 (by kernel_rfl) (by kernel_rfl) ?hfr_1 ?h0_1 ?mono_1 ?steps_1 ?_
  case hfr_1 => intro x; (simp [frOf, fill, Act.put, List.lookup]; with_reducible rfl)
  case h0_1 => exact HI
  case mono_1 => exact (Pm.cons (fun _ _ _ _ h => h) (Pm.cons (fun _ _ _ _ h => h) (Pm.cons (fun _ _ _ _ h => h) (Pm.cons (fun _ _ _ _ h => h) (Pm.cons (fun _ _ _ _ h => h) (Pm.cons (fun _ _ _ _ h => h) (Pm.cons (fun _ _ _ _ h => h) (Pm.cons (fun _ _ _ _ h => h) (Pm.cons (fun _ _ _ hG ⟨S, k, e, h⟩ => ⟨S, k, e, h.below hG⟩) (Pm.cons (fun _ _ _ _ h => h) (Pm.cons (fun _ _ _ _ h => h) (Pm.cons (fun _ _ _ _ h => h) Pm.nil))))))))))))
  case steps_1 =>
    refine Steps.cons (RStep.of rfl fun x W f hI hD K9 hK => ?_) ?_
    · clear hD
      go_simp
      exact hK (.pointer (some ⟨w.heap.size, 0, none⟩)) _ _ (by kernel_rfl) (Below.refl _ _) (hI) rfl
    refine Steps.cons (RStep.of rfl fun x W f hI hD K9 hK => ?_) ?_
    · have e0 : x 0 = .pointer (some ⟨w.heap.size, 0, none⟩) := hD 0 (by decide)
      clear hD
      have c0 := hI.now.2.1.c 0 _ rfl
      have c1 := hI.now.2.1.c 1 _ rfl
      simp only [e0] at hK ⊢
      go_simp
      exact hK (.agg #[.slice A_p p.store.cells.length n_p, .slice B_p p.store.roots.length m_p]) _ _ (by kernel_rfl) (Below.refl _ _) (hI) rfl
    refine Steps.cons (RStep.of rfl fun x W f hI hD K9 hK => ?_) ?_
    · have e1 : x 1 = .agg #[.slice A_p p.store.cells.length n_p, .slice B_p p.store.roots.length m_p] := hD 1 (by decide)
      clear hD
      simp only [e1] at hK ⊢
      go_wp2_with fail
      (with_reducible refine (implHeapValid_any _ p.store _ (hI.now.1).st).mono ?_); rw [HVA.out]
      rintro e w6 ⟨rfl, hB⟩
      exact hK _ _ _ (by kernel_rfl) hB (hI.step hB) rfl
    refine Steps.cons (RStep.of rfl fun x W f hI hD K9 hK => ?_) ?_
    · have e2 : x 2 = .bool true := hD 2 (by decide)
      clear hD
      simp only [e2] at hK ⊢
      go_simp
      exact hK (.bool true) _ _ (by kernel_rfl) (Below.refl _ _) (hI) rfl
    refine Steps.cons (RStep.of rfl fun x W f hI hD K9 hK => ?_) ?_
    · have e3 : x 3 = .bool true := hD 3 (by decide)
      clear hD
      simp only [e3] at hK ⊢
      go_simp
      exact hK (.pointer (some ⟨w.heap.size, 2, none⟩)) _ _ (by kernel_rfl) (Below.refl _ _) (hI) rfl
    refine Steps.cons (RStep.of rfl fun x W f hI hD K9 hK => ?_) ?_
    · have e3 : x 3 = .bool true := hD 3 (by decide)
      have e4 : x 4 = .pointer (some ⟨w.heap.size, 2, none⟩) := hD 4 (by decide)
      clear hD
      have c0 := hI.now.2.1.c 2 _ rfl
      simp only [e3, e4] at hK ⊢
      go_simp
      exact hK (.slice C_p p.counts.length k_p) _ _ (by kernel_rfl) (Below.refl _ _) (hI) rfl
    refine Steps.cons (RStep.of rfl fun x W f hI hD K9 hK => ?_) ?_
    · have e3 : x 3 = .bool true := hD 3 (by decide)
      clear hD
      simp only [e3] at hK ⊢
      go_simp
      exact hK (.pointer (some ⟨w.heap.size, 0, none⟩)) _ _ (by kernel_rfl) (Below.refl _ _) (hI) rfl
    refine Steps.cons (RStep.of rfl fun x W f hI hD K9 hK => ?_) ?_
    · have e3 : x 3 = .bool true := hD 3 (by decide)
      have e6 : x 6 = .pointer (some ⟨w.heap.size, 0, none⟩) := hD 6 (by decide)
      clear hD
      have c0 := hI.now.2.1.c 0 _ rfl
      have c1 := hI.now.2.1.c 1 _ rfl
      simp only [e3, e6] at hK ⊢
      go_simp
      exact hK (.agg #[.slice A_p p.store.cells.length n_p, .slice B_p p.store.roots.length m_p]) _ _ (by kernel_rfl) (Below.refl _ _) (hI) rfl
    refine Steps.cons (RStep.of rfl fun x W f hI hD K9 hK => ?_) ?_
    · have e3 : x 3 = .bool true := hD 3 (by decide)
      have e7 : x 7 = .agg #[.slice A_p p.store.cells.length n_p, .slice B_p p.store.roots.length m_p] := hD 7 (by decide)
      clear hD
      simp only [e3, e7] at hK ⊢
      go_wp2_with fail
      (with_reducible refine (refCounts0_any _ p.store _ (hI.now.1).st HVA.out).mono ?_)
      rintro e w6 ⟨S6, k6, rfl, hO6, -, hB⟩
      exact hK _ _ _ (by kernel_rfl) hB (hI.step hB) ⟨S6, k6, rfl, hO6.rf⟩
    refine Steps.cons (RStep.of rfl fun x W f hI hD K9 hK => ?_) ?_
    · have e3 : x 3 = .bool true := hD 3 (by decide)
      have e5 : x 5 = .slice C_p p.counts.length k_p := hD 5 (by decide)
      have h8 : (fun v W => ∃ (S : Option Addr) (k : Nat), v = .slice S p.store.cells.length k ∧ RF fi W S (cntsM p.store)) (x 8) W := hD 8 (by decide)
      clear hD
      simp only [e3, e5] at hK ⊢
      obtain ⟨S6, k6, e8, h8⟩ := h8
      simp only [e8] at hK ⊢
      go_wp2_with fail
      (with_reducible refine (implSameInts_len _ _ p.counts (cntsM p.store) _ k6 _ (hI.now.1).co h8 (hI.now.1).ln (cntsM_len _).symm (by have := (valid_small HVA.out).1; rw [cntsM_len]; omega)).mono ?_)
      rintro e w6 ⟨rfl, hB⟩
      exact hK _ _ _ (by kernel_rfl) hB (hI.step hB) rfl
    refine Steps.cons (RStep.of rfl fun x W f hI hD K9 hK => ?_) ?_
    · have e3 : x 3 = .bool true := hD 3 (by decide)
      have e9 : x 9 = .bool (eqB p.counts (cntsM p.store)) := hD 9 (by decide)
      clear hD
      simp only [e3, e9] at hK ⊢
      go_simp
      exact hK (.bool (eqB p.counts (cntsM p.store))) _ _ (by kernel_rfl) (Below.refl _ _) (hI) rfl
    refine Steps.cons (RStep.of rfl fun x W f hI hD K9 hK => ?_) ?_
    · have e10 : x 10 = .bool (eqB p.counts (cntsM p.store)) := hD 10 (by decide)
      clear hD
      simp only [e10] at hK ⊢
      go_simp
      exact hK (.bool (eqB p.counts (cntsM p.store))) _ _ (by kernel_rfl) (Below.refl _ _) (hI) rfl
    exact Steps.nil
  intro x W hI hV
  have e0 : x 0 = .pointer (some ⟨w.heap.size, 0, none⟩) := hV 0 (by decide)
  have e1 : x 1 = .agg #[.slice A_p p.store.cells.length n_p, .slice B_p p.store.roots.length m_p] := hV 1 (by decide)
  have e2 : x 2 = .bool true := hV 2 (by decide)
  have e3 : x 3 = .bool true := hV 3 (by decide)
  have e4 : x 4 = .pointer (some ⟨w.heap.size, 2, none⟩) := hV 4 (by decide)
  have e5 : x 5 = .slice C_p p.counts.length k_p := hV 5 (by decide)
  have e6 : x 6 = .pointer (some ⟨w.heap.size, 0, none⟩) := hV 6 (by decide)
  have e7 : x 7 = .agg #[.slice A_p p.store.cells.length n_p, .slice B_p p.store.roots.length m_p] := hV 7 (by decide)
  have h8 : (fun v W => ∃ (S : Option Addr) (k : Nat), v = .slice S p.store.cells.length k ∧ RF fi W S (cntsM p.store)) (x 8) W := hV 8 (by decide)
  have e9 : x 9 = .bool (eqB p.counts (cntsM p.store)) := hV 9 (by decide)
  have e10 : x 10 = .bool (eqB p.counts (cntsM p.store)) := hV 10 (by decide)
  have e11 : x 11 = .bool (eqB p.counts (cntsM p.store)) := hV 11 (by decide)
  clear hV
  simp only [e0, e1, e2, e3, e4, e5, e6, e7, e9, e10, e11]
  clear h8
  rw [hR]
  refine wpAny_done (by kernel_rfl) ?_ _
  clear hR
  replace HI := hI
  clear hI
  have HB := HI.now.2.2
  clear HI
  go_wp2_with fail
  go_ret
  exact ⟨by rw [hcv]; rfl, HB⟩
end Go.Proofs.Ytkikeanpbffpkaa

/- impl.counted, impl.copyCounted. -/
namespace Go.Proofs.Ytkikeanpbffpkaa
open Go.RowKit
set_option maxRecDepth 100000
set_option linter.unusedSimpArgs false
set_option linter.unusedVariables false
theorem Stb.size {w : World} {n : Nat} (h : n ≤ w.heap.size) : Stb (fun W => n ≤ W.heap.size) w := fun _ hW => Nat.le_trans h hW.size
set_option maxHeartbeats 4000000 in
theorem counted_any (A_h B_h : Option Addr) (n_h m_h : Nat) (h : HeapM) (w : World) (hv : RH w (.agg #[.slice A_h h.cells.length n_h, .slice B_h h.roots.length m_h]) h) (hva : validM h = true) :
    Calls Try.prog 49 #[.agg #[.slice A_h h.cells.length n_h, .slice B_h h.roots.length m_h]] w fun e w' => ∃ S k, e = .returned (.agg #[.slice A_h h.cells.length n_h, .slice B_h h.roots.length m_h, .slice S h.cells.length k]) ∧ OF 3 fi w' S k (cntsM h) ∧ (∀ g ∈ blk S, w.heap.size ≤ g) ∧ Below w.heap.size w w' := by
  go_enter Try.func49, Try.ntmps49
  go_upto_region 1 with fail
  refine Code.gen (Stb (fun W => RH W (.agg #[.slice A_h h.cells.length n_h, .slice B_h h.roots.length m_h]) h ∧ Bx W w.heap.size [.slice A_h h.cells.length n_h, .slice B_h h.roots.length m_h] ∧ Bx W (w.heap.size + 1) [.slice none 0 0, .slice none 0 0, .slice none 0 0] ∧ w.heap.size + 2 ≤ W.heap.size ∧ Below w.heap.size w W)) (Stb.and (Stb.rh (hv.below blw_)) (Stb.and (Stb.bx ((Bx.new w [.slice A_h h.cells.length n_h, .slice B_h h.roots.length m_h] 26).below blw_)) (Stb.and (Stb.bx ((show Bx ((w.alloc (.cells #[.slice A_h h.cells.length n_h, .slice B_h h.roots.length m_h] 26)).alloc (.cells #[.slice none 0 0, .slice none 0 0, .slice none 0 0] 28)) (w.heap.size + 1) [.slice none 0 0, .slice none 0 0, .slice none 0 0] by simpa using Bx.new (w.alloc (.cells #[.slice A_h h.cells.length n_h, .slice B_h h.roots.length m_h] 26)) [.slice none 0 0, .slice none 0 0, .slice none 0 0] 28).below blw_)) (Stb.and (Stb.size (by simp)) (Stb.here blw_))))) ?_
  rintro W HI
  clear hv
  have HVA := Lib.hid hva
  clear hva
  refine wp_region_R (by kernel_rfl) (fun R wd hR hwd => ?_)
  have hBd : Below W.heap.size W wd := by rw [hwd]; exact blw_
  replace HI := HI.step hBd
  clear hwd hBd
  refine rel_at (fr := ?fr_0) hR (fun f W => Stb (fun W => RH W (.agg #[.slice A_h h.cells.length n_h, .slice B_h h.roots.length m_h]) h ∧ Bx W w.heap.size [.slice A_h h.cells.length n_h, .slice B_h h.roots.length m_h] ∧ Bx W (w.heap.size + 1) [.slice none 0 0, .slice none 0 0, .slice none 0 0] ∧ w.heap.size + 2 ≤ W.heap.size ∧ Below w.heap.size w W) W) [(fun v W => v = .agg #[.slice A_h h.cells.length n_h, .slice B_h h.roots.length m_h]), (fun v W => v = .agg #[.slice A_h h.cells.length n_h, .slice B_h h.roots.length m_h]), (fun v W => ∃ (S : Option Addr) (k : Nat), v = .slice S h.cells.length k ∧ OF 3 fi W S k (cntsM h) ∧ ∀ g ∈ blk S, w.heap.size + 2 ≤ g), (fun v W => ∃ (S : Option Addr) (k : Nat), v = .agg #[.slice A_h h.cells.length n_h, .slice B_h h.roots.length m_h, .slice S h.cells.length k] ∧ OF 3 fi W S k (cntsM h) ∧ ∀ g ∈ blk S, w.heap.size + 2 ≤ g), tt] (fun W W' => Below W.heap.size W W') [(0, []), (1, []), (2, [1]), (3, [0, 2, 1]), (4, [0, 1, 2, 3])] [(3, 0), (4, 1), (5, 2), (6, 3)] [0, 1, 2, 3] #[true, true, true, true, false] 5 1 (by kernel_rfl) (by kernel_rfl) ?hfr_0 ?h0_0 ?mono_0 ?steps_0 ?_
  case hfr_0 => intro x; (simp [frOf, fill, Act.put, List.lookup]; with_reducible rfl)
  case h0_0 => exact HI
  case mono_0 => exact (Pm.cons (fun _ _ _ _ h => h) (Pm.cons (fun _ _ _ _ h => h) (Pm.cons (fun _ _ _ hG ⟨S, k, e, h, l⟩ => ⟨S, k, e, h.below hG, l⟩) (Pm.cons (fun _ _ _ hG ⟨S, k, e, h, l⟩ => ⟨S, k, e, h.below hG, l⟩) (Pm.cons (fun _ _ _ _ h => h) Pm.nil)))))
  case steps_0 =>
    refine Steps.cons (RStep.of rfl fun x W f hI hD K9 hK => ?_) ?_
    · clear hD
      have c0 := hI.now.2.1.c 0 _ rfl
      have c1 := hI.now.2.1.c 1 _ rfl
      go_simp
      exact hK (.agg #[.slice A_h h.cells.length n_h, .slice B_h h.roots.length m_h]) _ _ (by kernel_rfl) (Below.refl _ _) (hI) rfl
    refine Steps.cons (RStep.of rfl fun x W f hI hD K9 hK => ?_) ?_
    · clear hD
      have c0 := hI.now.2.1.c 0 _ rfl
      have c1 := hI.now.2.1.c 1 _ rfl
      go_simp
      exact hK (.agg #[.slice A_h h.cells.length n_h, .slice B_h h.roots.length m_h]) _ _ (by kernel_rfl) (Below.refl _ _) (hI) rfl
    refine Steps.cons (RStep.of rfl fun x W f hI hD K9 hK => ?_) ?_
    · have e1 : x 1 = .agg #[.slice A_h h.cells.length n_h, .slice B_h h.roots.length m_h] := hD 1 (by decide)
      clear hD
      simp only [e1] at hK ⊢
      go_wp2_with fail
      (with_reducible refine (refCounts0_any _ h _ hI.now.1 HVA.out).mono ?_)
      rintro e w6 ⟨S6, k6, rfl, hO6, hg6, hB⟩
      exact hK _ _ _ (by kernel_rfl) hB (hI.step hB) ⟨S6, k6, rfl, hO6, fun g hg => Nat.le_trans hI.now.2.2.2.1 (hg6 g hg)⟩
    refine Steps.cons (RStep.of rfl fun x W f hI hD K9 hK => ?_) ?_
    · have e0 : x 0 = .agg #[.slice A_h h.cells.length n_h, .slice B_h h.roots.length m_h] := hD 0 (by decide)
      have h2 : (fun v W => ∃ (S : Option Addr) (k : Nat), v = .slice S h.cells.length k ∧ OF 3 fi W S k (cntsM h) ∧ ∀ g ∈ blk S, w.heap.size + 2 ≤ g) (x 2) W := hD 2 (by decide)
      clear hD
      simp only [e0] at hK ⊢
      obtain ⟨S6, k6, e2, h2, l2⟩ := h2
      simp only [e2] at hK ⊢
      go_simp
      exact hK (.agg #[.slice A_h h.cells.length n_h, .slice B_h h.roots.length m_h, .slice S6 h.cells.length k6]) _ _ (by kernel_rfl) (Below.refl _ _) hI ⟨S6, k6, rfl, h2, l2⟩
    exact Steps.nil
  intro x W hI hV
  have e0 : x 0 = .agg #[.slice A_h h.cells.length n_h, .slice B_h h.roots.length m_h] := hV 0 (by decide)
  have e1 : x 1 = .agg #[.slice A_h h.cells.length n_h, .slice B_h h.roots.length m_h] := hV 1 (by decide)
  have h2 : (fun v W => ∃ (S : Option Addr) (k : Nat), v = .slice S h.cells.length k ∧ OF 3 fi W S k (cntsM h) ∧ ∀ g ∈ blk S, w.heap.size + 2 ≤ g) (x 2) W := hV 2 (by decide)
  have h3 : (fun v W => ∃ (S : Option Addr) (k : Nat), v = .agg #[.slice A_h h.cells.length n_h, .slice B_h h.roots.length m_h, .slice S h.cells.length k] ∧ OF 3 fi W S k (cntsM h) ∧ ∀ g ∈ blk S, w.heap.size + 2 ≤ g) (x 3) W := hV 3 (by decide)
  clear hV
  simp only [e0, e1]
  obtain ⟨S6, k6, e3, h3, l3⟩ := h3
  simp only [e3]
  clear h2
  have r0 := hI.now.2.2.1.c 0 _ rfl
  have r1 := hI.now.2.2.1.c 1 _ rfl
  have r2 := hI.now.2.2.1.c 2 _ rfl
  have f0 := hI.now.2.2.1.f 0
  have f1 := hI.now.2.2.1.f 1
  have f2 := hI.now.2.2.1.f 2
  rw [hR]
  refine wpAny_ready (rs := [4]) (by kernel_rfl) (by simp) ?_
  refine AllReady.cons rfl (fun K9 hK9 => ?_) AllReady.nil
  go_simp
  refine hK9 _ _ ?_
  clear hK9
  refine wpAny_done (by kernel_rfl) ?_ _
  clear hR
  have HB := hI.now.2.2.2.2
  clear hI
  go_wp2_with fail
  refine bodyPost_ret (v := .agg #[.slice A_h h.cells.length n_h, .slice B_h h.roots.length m_h, .slice S6 h.cells.length k6]) (by simp [results, Try.results49, go_sem, r0, r1, r2]) rfl ⟨_, _, rfl, ((h3.ne_ ?_).ne_ ?_).ne_ ?_, fun g hg => by have := l3 g hg; omega, blw_⟩
  all_goals (intro hm; have := l3 _ hm; simp at this; done)
end Go.Proofs.Ytkikeanpbffpkaa

/- impl.copyCounted. -/
namespace Go.Proofs.Ytkikeanpbffpkaa
open Go.RowKit
set_option maxRecDepth 100000
set_option linter.unusedSimpArgs false
set_option linter.unusedVariables false
set_option maxHeartbeats 4000000 in
theorem copyCounted_any (v : Value) (p : CountM) (w : World) (hv : RCt w v p) (hn : p.store.cells.length ≤ 1048576) (hr : ∀ d ∈ p.store.cells, d.refs.length ≤ 1048576) (hn2 : p.store.roots.length ≤ 1048576) (hn3 : p.counts.length ≤ 1048576) :
    Calls Try.prog 27 #[v] w fun e w' => ∃ v', e = .returned v' ∧ OCt w.heap.size w' v' p ∧ Below w.heap.size w w' := by
  obtain ⟨A, c, A', c', A2, c2, rfl, hh, hx, -⟩ := hv
  have k0 : ((w.alloc (.cells #[.slice A p.store.cells.length c, .slice A' p.store.roots.length c', .slice A2 p.counts.length c2] 28)).alloc (.cells #[.slice none 0 0, .slice none 0 0, .slice none 0 0] 28)).cell? ⟨w.heap.size, 0, none⟩ = some (.slice A p.store.cells.length c) := by simp [go_sem]
  have k1 : ((w.alloc (.cells #[.slice A p.store.cells.length c, .slice A' p.store.roots.length c', .slice A2 p.counts.length c2] 28)).alloc (.cells #[.slice none 0 0, .slice none 0 0, .slice none 0 0] 28)).cell? ⟨w.heap.size, 1, none⟩ = some (.slice A' p.store.roots.length c') := by simp [go_sem]
  have k2 : ((w.alloc (.cells #[.slice A p.store.cells.length c, .slice A' p.store.roots.length c', .slice A2 p.counts.length c2] 28)).alloc (.cells #[.slice none 0 0, .slice none 0 0, .slice none 0 0] 28)).cell? ⟨w.heap.size, 2, none⟩ = some (.slice A2 p.counts.length c2) := by simp [go_sem]
  have m0 : ((w.alloc (.cells #[.slice A p.store.cells.length c, .slice A' p.store.roots.length c', .slice A2 p.counts.length c2] 28)).alloc (.cells #[.slice none 0 0, .slice none 0 0, .slice none 0 0] 28)).cell? ⟨w.heap.size + 1, 0, none⟩ = some (.slice none 0 0) := by simp [go_sem]
  have m1 : ((w.alloc (.cells #[.slice A p.store.cells.length c, .slice A' p.store.roots.length c', .slice A2 p.counts.length c2] 28)).alloc (.cells #[.slice none 0 0, .slice none 0 0, .slice none 0 0] 28)).cell? ⟨w.heap.size + 1, 1, none⟩ = some (.slice none 0 0) := by simp [go_sem]
  have m2 : ((w.alloc (.cells #[.slice A p.store.cells.length c, .slice A' p.store.roots.length c', .slice A2 p.counts.length c2] 28)).alloc (.cells #[.slice none 0 0, .slice none 0 0, .slice none 0 0] 28)).cell? ⟨w.heap.size + 1, 2, none⟩ = some (.slice none 0 0) := by simp [go_sem]
  have mf : ∀ o, ((w.alloc (.cells #[.slice A p.store.cells.length c, .slice A' p.store.roots.length c', .slice A2 p.counts.length c2] 28)).alloc (.cells #[.slice none 0 0, .slice none 0 0, .slice none 0 0] 28)).frozen? ⟨w.heap.size + 1, o, none⟩ = false := by intro o; simp [go_sem]
  have hS : ∀ W, Below ((w.alloc (.cells #[.slice A p.store.cells.length c, .slice A' p.store.roots.length c', .slice A2 p.counts.length c2] 28)).alloc (.cells #[.slice none 0 0, .slice none 0 0, .slice none 0 0] 28)).heap.size ((w.alloc (.cells #[.slice A p.store.cells.length c, .slice A' p.store.roots.length c', .slice A2 p.counts.length c2] 28)).alloc (.cells #[.slice none 0 0, .slice none 0 0, .slice none 0 0] 28)) W → W.cell? ⟨w.heap.size, 0, none⟩ = some (.slice A p.store.cells.length c) ∧ W.cell? ⟨w.heap.size, 1, none⟩ = some (.slice A' p.store.roots.length c') ∧ W.cell? ⟨w.heap.size, 2, none⟩ = some (.slice A2 p.counts.length c2) :=
    fun W hW => ⟨cell_below k0 hW, cell_below k1 hW, cell_below k2 hW⟩
  go_enter Try.func27, Try.ntmps27
  go_upto_region 1 with fail
  go_region_held3 (fun w' => w'.cell? ⟨w.heap.size, 0, none⟩ = some (.slice A p.store.cells.length c) ∧ w'.cell? ⟨w.heap.size, 1, none⟩ = some (.slice A' p.store.roots.length c') ∧ w'.cell? ⟨w.heap.size, 2, none⟩ = some (.slice A2 p.counts.length c2))
    (first | exact ⟨s0, s1, s2⟩ | (simp [go_sem, s0, s1, s2]; done) | exact hS _ blw_)
    (first
      | (go_at_call 43; refine (copyHeap_any _ p.store _ ((hh.below blw_).rh _ _) hn hr hn2).mono ?_; rintro e wh ⟨vh, rfl, ⟨B, d, B', d', os, rfl, hm, ho, hlo⟩, hBh⟩; (have z_hBh := Below.size hBh); (try simp only [World.size_alloc, World.size_setCell, World.size_drew, World.heap_drewN] at z_hBh); have HM := Lib.hid hm; clear hm; have HL := Lib.hid hlo; clear hlo; have HO := Lib.hid ho; clear ho)
      | (go_at_call 65; (with_reducible refine (cloneInt_any A2 p.counts _ _ (hx.below blw_) (by omega)).mono ?_); rintro e wb ⟨S2, d2, rfl, hS2, hg2, hB2⟩; (have z_hB2 := Below.size hB2); (try simp only [World.size_alloc, World.size_setCell, World.size_drew, World.heap_drewN] at z_hB2); have hBB : Below ((w.alloc (.cells #[.slice A p.store.cells.length c, .slice A' p.store.roots.length c', .slice A2 p.counts.length c2] 28)).alloc (.cells #[.slice none 0 0, .slice none 0 0, .slice none 0 0] 28)).heap.size ((w.alloc (.cells #[.slice A p.store.cells.length c, .slice A' p.store.roots.length c', .slice A2 p.counts.length c2] 28)).alloc (.cells #[.slice none 0 0, .slice none 0 0, .slice none 0 0] 28)) wb := blw_
         have n0 := cell_below m0 hBB
         have n1 := cell_below m1 hBB
         have n2 := cell_below m2 hBB
         have nf : ∀ o, wb.frozen? ⟨w.heap.size + 1, o, none⟩ = false := fun o => ((bcell hBB).2.1 (w.heap.size + 1) o (by simp)).trans (mf o)
         have nf0 := nf 0
         have nf1 := nf 1
         have nf2 := nf 2
         have s0 := cell_below k0 hBB
         have s1 := cell_below k1 hBB
         have s2 := cell_below k2 hBB))
  have hL := HL.out
  have hlt := HO.out.lt
  have hlt2 := hS2.lt
  try simp only [World.size_alloc, World.size_setCell, World.size_drew, World.heap_drewN, heap_drew_] at hL hg2
  go_wp2_with fail
  have i1 : ∀ b ∈ hblks B os B', w.heap.size + 2 ≤ b ∧ b < wh.heap.size := fun b hb => ⟨by have := hL b hb; omega, hlt b hb⟩
  have i2 : ∀ b ∈ blk S2, wh.heap.size ≤ b ∧ b < wb.heap.size := fun b hb => ⟨by have := hg2 b hb; omega, hlt2 b hb⟩
  refine bodyPost_ret (v := .agg #[.slice B p.store.cells.length d, .slice B' p.store.roots.length d', .slice S2 p.counts.length d2]) (by simp [results, Try.results27, go_sem, n0, n1, n2]) rfl ⟨_, rfl, ⟨B, d, B', d', os, S2, d2, rfl, HM.out, ?_, ?_, ?_, ?_, by omega⟩, by have hBw : Below w.heap.size w wb := Below.trans blw_ (hBB.mono (by simp; omega)); exact ((hBw.setCell (by simp) _).setCell (by simp) _).setCell (by simp) _⟩
  · refine (HO.out.below blw_).keep fun g hg => ?_
    have h1 := i1 g hg
    (repeat (first | rw [heap_setCell_ne _ _ _ (by first | omega | (simp; done) | (simp; omega))]))
  · refine hS2.keep fun g hg => ?_
    have h1 := i2 g hg
    (repeat (first | rw [heap_setCell_ne _ _ _ (by first | omega | (simp; done) | (simp; omega))]))
  · rw [List.nodup_append]
    exact ⟨HO.out.nodup, blk_nodup _, fun a ha b hb e => by subst e; have := i1 a ha; have := i2 a hb; omega⟩
  · intro g hg
    rcases List.mem_append.1 hg with hg | hg
    · have := i1 g hg; omega
    · have := i2 g hg; omega
end Go.Proofs.Ytkikeanpbffpkaa

/- A queue: a list of ints of the call's own that begins anywhere in its row ('q = q[1:]', 'q = append(q, x)'). -/
namespace Go.Proofs.Ytkikeanpbffpkaa
open Go.RowKit
set_option maxRecDepth 100000
set_option linter.unusedSimpArgs false
set_option linter.unusedVariables false
def OQ (w : World) (S : Option Addr) (c : Nat) (xs : List Int) : Prop :=
  (S = none ∧ c = 0 ∧ xs = []) ∨ ∃ (g o : Nat) (cur : Array Value), S = some ⟨g, o, none⟩ ∧ w.heap[g]? = some (.cells cur 3 (0, 0)) ∧ xs.length ≤ c ∧ c ≤ maxLen ∧ (c = 0 ∨ o + c = cur.size) ∧ ∀ k x, xs[k]? = some x → cur[o + k]? = some (fi x)
section
variable {w w' : World} {S : Option Addr} {c : Nat} {xs : List Int}
theorem OQ.of (h : OF 3 fi w S c xs) : OQ w S c xs := by
  rcases h.2 with ⟨he, h0⟩ | ⟨g, cap, cur, he, hbg, hg, hnc, hcm, hcs, htake⟩
  · injection he with e1 e2 e3
    exact .inl ⟨e1, e3, List.eq_nil_of_length_eq_zero h0⟩
  · injection he with e1 e2 e3
    subst e3
    refine .inr ⟨g, 0, cur, e1, hg, hnc, hcm, .inr (by omega), fun k x hx => ?_⟩
    have hk := (List.getElem?_eq_some_iff.1 hx).1
    have : (xs.map fi)[k]? = some (fi x) := by rw [List.getElem?_map, hx]; rfl
    rw [← htake, List.getElem?_take, if_pos (by omega), Array.getElem?_toList] at this
    rw [Nat.zero_add]
    exact this
theorem OQ.keep (h : OQ w S c xs) (hk : ∀ g ∈ blk S, w'.heap[g]? = w.heap[g]?) : OQ w' S c xs := by
  rcases h with h | ⟨g, o, cur, rfl, hg, h1, h2, h3, h4⟩
  · exact .inl h
  · exact .inr ⟨g, o, cur, rfl, (hk g (by simp [blk])).trans hg, h1, h2, h3, h4⟩
theorem OQ.lt (h : OQ w S c xs) : ∀ g ∈ blk S, g < w.heap.size := by
  rcases h with ⟨rfl, -⟩ | ⟨g, o, cur, rfl, hg, -⟩
  · simp [blk]
  · intro b hb
    rw [mem_blk_some hb]
    exact (Array.getElem?_eq_some_iff.1 hg).1
theorem OQ.only {B : List Nat} (h : OQ w S c xs) (hO : Only B w w') (hn : ∀ g ∈ blk S, g ∉ B) : OQ w' S c xs := h.keep fun g hg => hO.block g (h.lt g hg) (hn g hg)
theorem OQ.below (h : OQ w S c xs) (hB : Below w.heap.size w w') : OQ w' S c xs := h.keep fun g hg => hB.block g (h.lt g hg)
theorem OQ.len (h : OQ w S c xs) : xs.length ≤ c := by
  rcases h with ⟨-, rfl, rfl⟩ | ⟨g, o, cur, -, -, h1, -⟩
  · simp
  · exact h1
theorem OQ.head {x : Int} (h : OQ w S c (x :: xs)) : ∃ g o, S = some ⟨g, o, none⟩ ∧ w.cell? ⟨g, o, none⟩ = some (fi x) := by
  rcases h with ⟨-, -, h⟩ | ⟨g, o, cur, e, hg, h1, h2, h3, h4⟩
  · cases h
  · refine ⟨g, o, e, ?_⟩
    have := h4 0 x rfl
    rw [Nat.add_zero] at this
    simp [World.cell?, hg, this]
theorem OQ.tail {x : Int} {g o : Nat} (h : OQ w (some ⟨g, o, none⟩) c (x :: xs)) (hc : c ≠ 1) : OQ w (some ⟨g, o + 1, none⟩) (c - 1) xs := by
  rcases h with ⟨-, -, h⟩ | ⟨g', o', cur, e, hg, h1, h2, h3, h4⟩
  · cases h
  · injection e with e
    injection e with e1 e2 e3
    subst e1; subst e2
    simp only [List.length_cons] at h1
    refine .inr ⟨g, o + 1, cur, rfl, hg, by omega, by omega, .inr (by omega), fun k y hy => ?_⟩
    have := h4 (k + 1) y (by simpa using hy)
    rw [show o + 1 + k = o + (k + 1) by omega]
    exact this
theorem OQ.tail1 {x : Int} {g o : Nat} (h : OQ w (some ⟨g, o, none⟩) 1 (x :: xs)) : xs = [] ∧ OQ w (some ⟨g, o, none⟩) 0 [] := by
  have hl := h.len
  simp only [List.length_cons] at hl
  rcases h with ⟨-, -, h⟩ | ⟨g', o', cur, e, hg, h1, h2, h3, h4⟩
  · cases h
  · injection e with e
    injection e with e1 e2 e3
    subst e1; subst e2
    exact ⟨List.eq_nil_of_length_eq_zero (by omega), .inr ⟨g, o, cur, rfl, hg, by simp, by omega, .inl rfl, fun k y hy => by simp at hy⟩⟩
end
section
variable {P : Program} (w : World)
theorem run_append_room_off (t ty e : TypeId) (i : TypeInfo) (ht : P.underlying t = some (.slice e)) (hi : P.info? e = some i)
    (g o sLen sCap : Nat) (cur : Array Value) (hg : w.heap[g]? = some (.cells cur e (0, 0)))
    (a : Addr) (m c : Nat) (news : List Value) (hl : news.length = m * i.size) (hnews : ∀ j u, news[j]? = some u → w.cell? (a.add j) = some u) (h1 : ∀ u ∈ news, u.oneCell' = true)
    (hroom : sLen + m ≤ sCap) (hfit : o + sLen * i.size + news.length ≤ cur.size) :
    (Builtin.append_ #[t, t] ty #[.slice (some ⟨g, o, none⟩) sLen sCap, .slice (some a) m c]).run P w =
      .ok (.slice (some ⟨g, o, none⟩) (sLen + m) sCap) (w.setRow g (cur.toList.take (o + sLen * i.size) ++ news ++ cur.toList.drop (o + sLen * i.size + news.length)).toArray) := by
  have hf := run_firstCells_some (P := P) w i.size m a m c news hl hnews
  have hst := run_storeCells_at P g (o + sLen * i.size) e news 0 cur w hg (by simpa using hfit) h1
  simp only [Nat.add_zero] at hst
  simp [Builtin.append_, run_underlying ht, sizeOf, typeInfo, hi, Builtin.lenOf, hroom, hf, Addr.add_lit, hst]
end
theorem app_queue {w : World} (ty : TypeId) {S : Option Addr} {c : Nat} {xs : List Int} (h : OQ w S c xs) (b c2 : Nat) (x : Int) (hx : w.cell? ⟨b, 0, none⟩ = some (fi x)) (hn : xs.length + 1 ≤ 1099511627776) :
    ∃ S' c' w', (Builtin.append_ #[24, 24] ty #[.slice S xs.length c, .slice (some ⟨b, 0, none⟩) 1 c2]).run Try.prog w = .ok (.slice S' (xs.length + 1) c') w' ∧ OQ w' S' c' (xs ++ [x]) ∧ Only (blk S) w w' ∧ (∀ g ∈ blk S', g ∈ blk S ∨ w.heap.size ≤ g) := by
  have hr : RF fi w (some ⟨b, 0, none⟩) [x] := fun k hk => by
    have : k = 0 := by simp at hk; omega
    subst this
    exact ⟨b, 0, x, rfl, rfl, hx⟩
  have hlen := h.len
  rcases h with ⟨rfl, rfl, rfl⟩ | ⟨g, o, cur, rfl, hg, h1, h2, h3, h4⟩
  · obtain ⟨S', c', w', hrun, k1, k2, k3⟩ := app_ints ty (OF.nil (T := 3) (f := fi) (w := w)) c2 hr (by simp)
    exact ⟨S', c', w', by simpa using hrun, OQ.of k1, k2, k3⟩
  · obtain ⟨i0, hi, hz0, hz1, hz2⟩ := info_parts info_int
    have hnews : ∀ j v, [fi x][j]? = some v → w.cell? ((⟨b, 0, none⟩ : Addr).add j) = some v := by
      intro j v hj
      match j, hj with
      | 0, hj =>
        simp at hj
        subst hj
        simpa [Addr.add] using hx
    have h1c : ∀ v ∈ [fi x], v.oneCell' = true := by
      intro v hv
      simp at hv
      subst hv
      rfl
    by_cases hroom : xs.length + 1 ≤ c
    · have hsz : o + c = cur.size := by rcases h3 with h3 | h3; omega; exact h3
      have hr9 := run_append_room_off (P := Try.prog) (ty := ty) w 24 3 i0 Try.underlying24 hi g o xs.length c cur hg ⟨b, 0, none⟩ 1 c2 [fi x] (by simp [hz1]) hnews h1c hroom (by rw [hz1]; simp; omega)
      refine ⟨_, _, _, hr9, .inr ⟨g, o, _, rfl, setRow_heap w g cur _ _ _ hg, by simp; omega, h2, .inr ?_, ?_⟩, ⟨rfl, rfl, rfl, by simp, fun k _ hk => setRow_other w g k _ (fun e => hk (by simp [blk, e]))⟩, fun g' hg' => .inl hg'⟩
      · rw [hz1]; simp; omega
      · intro k y hy
        rw [hz1]
        simp only [Nat.mul_one, List.length_singleton, List.getElem?_toArray]
        by_cases hk : k < xs.length
        · rw [List.getElem?_append_left hk] at hy
          rw [List.append_assoc, List.getElem?_append_left (by simp; omega), List.getElem?_take, if_pos (by omega), Array.getElem?_toList]
          exact h4 k y hy
        · have hk2 : k < (xs ++ [x]).length := (List.getElem?_eq_some_iff.1 hy).1
          simp at hk2
          have e : k = xs.length := by omega
          subst e
          rw [List.getElem?_append_right (Nat.le_refl _)] at hy
          simp at hy
          subst hy
          rw [List.append_assoc, List.getElem?_append_right (by simp; omega)]
          have : min (o + xs.length) cur.size = o + xs.length := by omega
          simp [this]
    · have holds : ∀ j u, (xs.map fi)[j]? = some u → w.cell? ((⟨g, o, none⟩ : Addr).add j) = some u := by
        intro j u hu
        rw [List.getElem?_map, Option.map_eq_some_iff] at hu
        obtain ⟨y, hy, rfl⟩ := hu
        rw [Addr.add_lit]
        have := h4 j y hy
        simp [World.cell?, hg, this]
      have hr9 := run_append_grow (P := Try.prog) (ty := ty) w 24 3 i0 _ Try.underlying24 hi hz0 ⟨g, o, none⟩ xs.length c (xs.map fi) (by simp [hz1]) holds ⟨b, 0, none⟩ 1 c2 [fi x] (by simp [hz1]) hnews (by omega) (by omega) (growslice_fits (by omega) (by rw [hz2]; omega))
      have hge := grownCap_ge w (xs.length + 1) c 3
      have hcm : grownCap w (xs.length + 1) c 3 ≤ maxLen := grownCap_le_maxLen w (xs.length + 1) c 3 (by simp only [maxLen]; omega)
      refine ⟨_, _, _, hr9, .inr ⟨w.heap.size, 0, _, rfl, heap_alloc_new w.drew _, by simp; omega, hcm, .inr ?_, ?_⟩, ⟨rfl, rfl, rfl, by simp, fun k hk _ => heap_alloc_old w.drew _ hk⟩, fun g' hg' => .inr (by rw [mem_blk_some hg']; exact Nat.le_refl _)⟩
      · simp only [Array.size_append, List.size_toArray, size_zeroCells, List.length_map, List.length_singleton, show (Value.int .i64 0).cells.size = 1 from rfl]
        omega
      · intro k y hy
        rw [Nat.zero_add]
        have hk2 : k < (xs ++ [x]).length := (List.getElem?_eq_some_iff.1 hy).1
        have e9 : ((xs.map fi).toArray ++ [fi x].toArray) = ((xs ++ [x]).map fi).toArray := by simp
        rw [e9, Array.getElem?_append_left (by simpa using hk2), List.getElem?_toArray, List.getElem?_map, hy]
        rfl
section
variable {w : World} {ops : Array Oper} {o : Oper} {a : Act} {K : Act → World → Prop} {Q : Exit → Act → World → Prop} {E : Prop}
theorem wpList_appq {rest : List Oper} (hgd : o.guard = none) (s x : Operand) (ho : o.op = .call { callee := .builtin .append, args := #[s, x], argTypes := #[24, 24] })
    {S : Option Addr} {c c2 b n : Nat} (xs : List Int) {y : Int} (hn : n = xs.length) (hs : a.eval s = .slice S n c) (hx : a.eval x = .slice (some ⟨b, 0, none⟩) 1 c2)
    (hown : OQ w S c xs) (hr : w.cell? ⟨b, 0, none⟩ = some (fi y)) (h : xs.length + 1 ≤ 1099511627776)
    (hK : ∀ S' c' w', OQ w' S' c' (xs ++ [y]) → Only (blk S) w w' → (∀ g ∈ blk S', g ∈ blk S ∨ w.heap.size ≤ g) → wpList Try.prog ops Q rest (a.put o.dst (.slice S' (n + 1) c')) w') :
    wpList Try.prog ops Q (o :: rest) a w := by
  subst hn
  obtain ⟨S', c', w', hrun, h1, h2, h3⟩ := app_queue o.type hown b c2 y hr h
  exact wpList_ran hgd s x _ ho hs hx hrun (hK _ _ _ h1 h2 h3)
end
end Go.Proofs.Ytkikeanpbffpkaa

/- The state of impl.freeUncounted: a heap of the call's own, its counts, a queue, a row whose references are being counted off. -/
namespace Go.Proofs.Ytkikeanpbffpkaa
open Go.RowKit
set_option linter.unusedSimpArgs false
set_option linter.unusedVariables false
theorem BT.only {W W' : World} {b : Nat} {T : TypeId} {S : List Nat} (h : BT W b T) (hO : Only S W W') (hs : b ∉ S) : BT W' b T := by
  have hl := h.lt
  obtain ⟨cur, h⟩ := h
  exact ⟨cur, (hO.block b hl hs).trans h⟩
theorem OQ.not_T {W : World} {Q : Option Addr} {c b : Nat} {xs : List Int} {T : TypeId} (h : OQ W Q c xs) (hb : BT W b T) (hne : 3 ≠ T) : b ∉ blk Q := by
  intro hm
  obtain ⟨cur, hb⟩ := hb
  rcases h with ⟨rfl, -, -⟩ | ⟨g, o, cur2, rfl, h2, -⟩
  · simp [blk] at hm
  · have := mem_blk_some hm
    subst this
    rw [hb] at h2
    simp at h2
    exact hne h2.2.symm
theorem blks_apart {os : List OCell} : ∀ {k : Nat} {o : OCell}, os[k]? = some o → (blks os).Nodup → ∀ b ∈ blk o.A, b ∉ blks (os.set k zeroO) := by
  induction os with
  | nil => intro k o h; simp at h
  | cons a os ih =>
    intro k o h hn b hb hm
    simp only [blks, List.flatMap_cons] at hn
    cases k with
    | zero =>
      simp at h
      subst h
      simp only [List.set_cons_zero, blks, List.flatMap_cons] at hm
      rw [List.nodup_append] at hn
      rcases List.mem_append.1 hm with hm | hm
      · simp [zeroO, blk] at hm
      · exact hn.2.2 b hb b hm rfl
    | succ k =>
      simp only [List.set_cons_succ, blks, List.flatMap_cons] at hm
      rw [List.nodup_append] at hn
      have ho : o ∈ os := List.mem_of_getElem? (by simpa using h)
      rcases List.mem_append.1 hm with hm | hm
      · exact hn.2.2 b hm b (List.mem_flatMap.2 ⟨o, ho, hb⟩) rfl
      · exact ih (by simpa using h) hn.2.1 b hb hm
structure FrS (n lo s2 s3 : Nat) (w0 : World) (A : Option Addr) (c : Nat) (A' : Option Addr) (c' : Nat) (os : List OCell) (rs : List Int) (S : Option Addr) (k : Nat) (cnt : List Int) (R : Option Addr) (cr : Nat) (rem : List Int) (Q : Option Addr) (cQ : Nat) (xs : List Int) (W : World) : Prop where
  own : OHs W A c A' c' os rs
  cts : OF 3 fi W S k cnt
  row : OF 3 fi W R cr rem
  que : OQ W Q cQ xs
  aS : ∀ g ∈ blk S, g ∉ hblks A os A'
  aR : ∀ g ∈ blk R, g ∉ hblks A os A' ∧ g ∉ blk S
  aQ : ∀ g ∈ blk Q, g ∉ hblks A os A' ∧ g ∉ blk S ∧ g ∉ blk R
  low : (∀ g ∈ hblks A os A', lo ≤ g) ∧ (∀ g ∈ blk S, lo ≤ g) ∧ ∀ g ∈ blk Q, lo ≤ g
  b2 : Bx W s2 [.slice none 0 0, .slice none 0 0, .slice none 0 0]
  t2 : BT W s2 28
  b3 : Bx W s3 [.slice A n c, .slice A' rs.length c', .slice S n k]
  t3 : BT W s3 28
  ne : s2 ≠ s3
  ls : lo ≤ s2 ∧ lo ≤ s3
  nl : os.length = n ∧ cnt.length = n
  bel : Below lo w0 W
section
variable {n lo s2 s3 : Nat} {w0 W W1 W' : World} {A A' S R Q Q' : Option Addr} {c c' k cr cQ cQ' : Nat} {os : List OCell} {rs cnt rem xs : List Int}
theorem FrS.below (h : FrS n lo s2 s3 w0 A c A' c' os rs S k cnt R cr rem Q cQ xs W) (hB : Below W.heap.size W W') : FrS n lo s2 s3 w0 A c A' c' os rs S k cnt R cr rem Q cQ xs W' :=
  ⟨h.own.keep fun g hg => hB.block g (h.own.lt g hg), h.cts.below hB, h.row.below hB, h.que.below hB, h.aS, h.aR, h.aQ, h.low, h.b2.below hB, h.t2.below hB, h.b3.below hB, h.t3.below hB, h.ne, h.ls, h.nl,
    h.bel.trans (hB.mono (by have := h.b2.lt; have := h.ls; omega))⟩
theorem FrS.s2n (h : FrS n lo s2 s3 w0 A c A' c' os rs S k cnt R cr rem Q cQ xs W) : s2 ∉ hblks A os A' ∧ s2 ∉ blk S ∧ s2 ∉ blk R ∧ s2 ∉ blk Q :=
  ⟨h.own.not_T h.t2 (by decide) (by decide), row_not h.cts h.t2 (by decide), row_not h.row h.t2 (by decide), h.que.not_T h.t2 (by decide)⟩
theorem FrS.s3n (h : FrS n lo s2 s3 w0 A c A' c' os rs S k cnt R cr rem Q cQ xs W) : s3 ∉ hblks A os A' ∧ s3 ∉ blk S ∧ s3 ∉ blk R ∧ s3 ∉ blk Q :=
  ⟨h.own.not_T h.t3 (by decide) (by decide), row_not h.cts h.t3 (by decide), row_not h.row h.t3 (by decide), h.que.not_T h.t3 (by decide)⟩
/-- The beginning. -/
theorem FrS.start {w w1 : World} (hO : OHs w A c A' c' os rs) (hlo : ∀ g ∈ hblks A os A', lo ≤ g) (hl : lo ≤ w.heap.size) (hBw : Below w.heap.size w w1) (hS : OF 3 fi w1 S k cnt) (hgS : ∀ g ∈ blk S, w.heap.size + 2 ≤ g) (hB : Below w1.heap.size w1 W)
    (b2 : Bx w1 (w.heap.size + 1) [.slice none 0 0, .slice none 0 0, .slice none 0 0]) (t2 : BT w1 (w.heap.size + 1) 28) (b3 : Bx W w1.heap.size [.slice A n c, .slice A' rs.length c', .slice S n k]) (t3 : BT W w1.heap.size 28)
    (hQ : OQ W Q cQ xs) (hg : ∀ g ∈ blk Q, w1.heap.size ≤ g) (nl : os.length = n ∧ cnt.length = n) : FrS n lo (w.heap.size + 1) w1.heap.size w A c A' c' os rs S k cnt none 0 [] Q cQ xs W := by
  have z1 := hBw.size
  have z2 := b2.lt
  have l0 : ∀ g ∈ hblks A os A', g < w.heap.size := hO.lt
  have l1 := hS.lt
  have o1 : OHs w1 A c A' c' os rs := hO.keep fun g hg => hBw.block g (hO.lt g hg)
  refine ⟨o1.keep fun g hg => hB.block g (o1.lt g hg), hS.below hB, OF.nil, hQ, fun g h1 h2 => ?_, by simp [blk], fun g h1 => ⟨fun h2 => ?_, fun h2 => ?_, by simp [blk]⟩, ⟨hlo, fun g h1 => ?_, fun g h1 => ?_⟩, b2.below hB, t2.below hB, b3, t3, by omega, ⟨by omega, by omega⟩, nl, (hBw.mono hl).trans (hB.mono (by omega))⟩
  · have := hgS g h1; have := l0 g h2; omega
  · have := hg g h1; have := l0 g h2; omega
  · have := hg g h1; have := l1 g h2; omega
  · have := hgS g h1; omega
  · have := hg g h1; omega
/-- A count is stored. -/
theorem FrS.count {g : Nat} (h : FrS n lo s2 s3 w0 A c A' c' os rs (some ⟨g, 0, none⟩) k cnt R cr rem Q cQ xs W) (m : Nat) (y : Int) : FrS n lo s2 s3 w0 A c A' c' os rs (some ⟨g, 0, none⟩) k (cnt.set m y) R cr rem Q cQ xs (W.setCell ⟨g, m, none⟩ (.int .i64 y)) := by
  have hg : g ∈ blk (some ⟨g, 0, none⟩) := by simp [blk]
  have n2 : s2 ≠ g := fun e => h.s2n.2.1 (by rw [e]; exact hg)
  have n3 : s3 ≠ g := fun e => h.s3n.2.1 (by rw [e]; exact hg)
  have key : ∀ x, x ≠ g → (W.setCell ⟨g, m, none⟩ (.int .i64 y)).heap[x]? = W.heap[x]? := fun x hx => heap_setCell_ne _ _ _ hx
  exact ⟨h.own.keep fun x hx => key x (fun e => h.aS g hg (e ▸ hx)), h.cts.set_ m y, h.row.keep fun x hx => key x (fun e => (h.aR x hx).2 (by rw [e]; exact hg)), h.que.keep fun x hx => key x (fun e => (h.aQ x hx).2.1 (by rw [e]; exact hg)),
    h.aS, h.aR, h.aQ, h.low, h.b2.other n2 _ _, h.t2.set _ _, h.b3.other n3 _ _, h.t3.set _ _, h.ne, h.ls, ⟨h.nl.1, by rw [List.length_set]; exact h.nl.2⟩, h.bel.setCell (h.low.2.1 g hg) _⟩
/-- The queue has grown. -/
theorem FrS.push (h : FrS n lo s2 s3 w0 A c A' c' os rs S k cnt R cr rem Q cQ xs W) (hB : Below W.heap.size W W1) {x : Int} (hQ : OQ W' Q' cQ' (xs ++ [x])) (hOn : Only (blk Q) W1 W') (hg : ∀ g ∈ blk Q', g ∈ blk Q ∨ W1.heap.size ≤ g) : FrS n lo s2 s3 w0 A c A' c' os rs S k cnt R cr rem Q' cQ' (xs ++ [x]) W' := by
  have h1 := h.below hB
  have hz := hB.size
  have n2 := h1.s2n.2.2.2
  have n3 := h1.s3n.2.2.2
  have l0 : ∀ g ∈ hblks A os A', g < W.heap.size := h.own.lt
  have l1 := h.cts.lt
  have l2 := h.row.lt
  refine ⟨h1.own.keep fun x hx => hOn.block x (h1.own.lt x hx) (fun hc => (h.aQ x hc).1 hx), h1.cts.only hOn (fun x hx hc => (h.aQ x hc).2.1 hx), h1.row.only hOn (fun x hx hc => (h.aQ x hc).2.2 hx), hQ, h.aS, h.aR, fun x hx => ?_, ⟨h.low.1, h.low.2.1, fun x hx => ?_⟩, h1.b2.only hOn n2, h1.t2.only hOn n2, h1.b3.only hOn n3, h1.t3.only hOn n3, h.ne, h.ls, h.nl,
    h1.bel.trans (hOn.below (by have := h1.b2.lt; have := h.ls; omega) h.low.2.2)⟩
  · rcases hg x hx with hx | hx
    · exact h.aQ x hx
    · exact ⟨fun hc => by have := l0 x hc; omega, fun hc => by have := l1 x hc; omega, fun hc => by have := l2 x hc; omega⟩
  · rcases hg x hx with hx | hx
    · exact h.low.2.2 x hx
    · have := h.b2.lt; have := h.ls; omega
/-- The queue's rest. -/
theorem FrS.rest {ys : List Int} (h : FrS n lo s2 s3 w0 A c A' c' os rs S k cnt R cr rem Q cQ xs W) (hQ : OQ W Q' cQ' ys) (hb : blk Q' = blk Q) : FrS n lo s2 s3 w0 A c A' c' os rs S k cnt R cr rem Q' cQ' ys W :=
  ⟨h.own, h.cts, h.row, hQ, h.aS, h.aR, by rw [hb]; exact h.aQ, ⟨h.low.1, h.low.2.1, by rw [hb]; exact h.low.2.2⟩, h.b2, h.t2, h.b3, h.t3, h.ne, h.ls, h.nl, h.bel⟩
/-- The row has been counted off. -/
theorem FrS.drop (h : FrS n lo s2 s3 w0 A c A' c' os rs S k cnt R cr rem Q cQ xs W) : FrS n lo s2 s3 w0 A c A' c' os rs S k cnt none 0 [] Q cQ xs W :=
  ⟨h.own, h.cts, OF.nil, h.que, h.aS, by simp [blk], fun g hg => ⟨(h.aQ g hg).1, (h.aQ g hg).2.1, by simp [blk]⟩, h.low, h.b2, h.t2, h.b3, h.t3, h.ne, h.ls, h.nl, h.bel⟩
/-- A cell is freed: its row is the one that is counted off. -/
theorem FrS.free {gA q : Nat} {o : OCell} (h : FrS n lo s2 s3 w0 (some ⟨gA, 0, none⟩) c A' c' os rs S k cnt R cr rem Q cQ xs W) (hq : os[q]? = some o) :
    FrS n lo s2 s3 w0 (some ⟨gA, 0, none⟩) c A' c' (os.set q zeroO) rs S k cnt o.A o.cap o.c.refs Q cQ xs (((W.setCell ⟨gA, q * 3, none⟩ (.bool false)).setCell ⟨gA, q * 3 + 1, none⟩ (.int .i64 0)).setCell ⟨gA, q * 3 + 2, none⟩ (.slice none 0 0)) := by
  have hql := (List.getElem?_eq_some_iff.1 hq).1
  have hgA : gA ∈ blk (some ⟨gA, 0, none⟩) := by simp [blk]
  have hgh : gA ∈ hblks (some ⟨gA, 0, none⟩) os A' := List.mem_append.2 (.inl (List.mem_append.2 (.inl hgA)))
  have hO : Only (blk (some ⟨gA, 0, none⟩)) W (((W.setCell ⟨gA, q * 3, none⟩ (.bool false)).setCell ⟨gA, q * 3 + 1, none⟩ (.int .i64 0)).setCell ⟨gA, q * 3 + 2, none⟩ (.slice none 0 0)) :=
    (((Only.refl _ _).setCell (.inl hgA) _).setCell (.inl hgA) _).setCell (.inl hgA) _
  have hC := h.own.cells.set_ q zeroO hql OF.nil (by simp [zeroO, freeCell])
  have hsub := blks_set_zero (os := os) (k := q)
  have hoo := h.own.cells.2 o (List.mem_of_getElem? hq)
  have hbo : ∀ g ∈ blk o.A, g ∈ blks os := fun g hg => List.mem_flatMap.2 ⟨o, List.mem_of_getElem? hq, hg⟩
  have hnd := h.own.nodup
  have hh : ∀ g, g ∈ hblks (some ⟨gA, 0, none⟩) (os.set q zeroO) A' → g ∈ hblks (some ⟨gA, 0, none⟩) os A' := by
    intro g hg
    rcases List.mem_append.1 hg with hg | hg
    · rcases List.mem_append.1 hg with hg | hg
      · exact List.mem_append.2 (.inl (List.mem_append.2 (.inl hg)))
      · exact List.mem_append.2 (.inl (List.mem_append.2 (.inr (hsub.subset hg))))
    · exact List.mem_append.2 (.inr hg)
  have hbh : ∀ g ∈ blk o.A, g ∈ hblks (some ⟨gA, 0, none⟩) os A' := fun g hg => List.mem_append.2 (.inl (List.mem_append.2 (.inr (hbo g hg))))
  have nb : ∀ g ∈ blk o.A, g ∉ blk (some ⟨gA, 0, none⟩) := fun g hg hc => by
    rw [List.nodup_append, List.nodup_append] at hnd
    exact hnd.1.2.2 g hc g (hbo g hg) rfl
  have nn : ∀ g, g ∈ blk (some (⟨gA, 0, none⟩ : Addr)) → g ∈ hblks (some ⟨gA, 0, none⟩) os A' := fun g hg => List.mem_append.2 (.inl (List.mem_append.2 (.inl hg)))
  refine ⟨h.own.put_ hC hsub (by simp) hO, h.cts.only hO (fun g hg hc => h.aS g hg (nn g hc)), hoo.1.only hO nb, h.que.only hO (fun g hg hc => (h.aQ g hg).1 (nn g hc)), fun g hg hc => h.aS g hg (hh g hc), fun g hg => ⟨fun hc => ?_, fun hc => h.aS g hc (hbh g hg)⟩,
    fun g hg => ⟨fun hc => (h.aQ g hg).1 (hh g hc), (h.aQ g hg).2.1, fun hc => (h.aQ g hg).1 (hbh g hc)⟩, ⟨fun g hg => h.low.1 g (hh g hg), h.low.2⟩, h.b2.only hO (fun hc => h.s2n.1 (nn _ hc)), h.t2.only hO (fun hc => h.s2n.1 (nn _ hc)), h.b3.only hO (fun hc => h.s3n.1 (nn _ hc)), h.t3.only hO (fun hc => h.s3n.1 (nn _ hc)), h.ne, h.ls, ⟨by rw [List.length_set]; exact h.nl.1, h.nl.2⟩,
    ((h.bel.setCell (h.low.1 gA hgh) _).setCell (h.low.1 gA hgh) _).setCell (h.low.1 gA hgh) _⟩
  rcases List.mem_append.1 hc with hc | hc
  · rcases List.mem_append.1 hc with hc | hc
    · exact nb g hg hc
    · rw [List.nodup_append, List.nodup_append] at hnd
      exact blks_apart hq hnd.1.2.1 g hg hc
  · rw [List.nodup_append] at hnd
    exact hnd.2.2 g (List.mem_append.2 (.inr (hbo g hg))) g hc rfl
/-- What is returned. -/
theorem FrS.oc {p : CountM} (f : FrS n lo s2 s3 w0 A c A' c' os rs S k cnt R cr rem Q cQ xs W) (hm : os.map (·.c) = p.store.cells) (hr : rs = p.store.roots) (hc : cnt = p.counts) (hOn : Only [s2] W W') :
    OCt lo W' (.agg #[.slice A n c, .slice A' rs.length c', .slice S n k]) p := by
  subst hr
  subst hc
  have hl : n = p.store.cells.length := by rw [← hm, List.length_map]; exact f.nl.1.symm
  have hl2 := f.nl.2
  refine ⟨A, c, A', c', os, S, k, by rw [hl2, ← hl], hm, f.own.keep fun x hx => hOn.block x (f.own.lt x hx) (fun hc => f.s2n.1 (by simp at hc; exact hc ▸ hx)), f.cts.only hOn (fun x hx hc => f.s2n.2.1 (by simp at hc; exact hc ▸ hx)), ?_, ?_, ?_⟩
  · rw [List.nodup_append]
    exact ⟨f.own.nodup, blk_nodup _, fun a ha b hb e => by subst e; exact f.aS a hb ha⟩
  · intro g hg
    rcases List.mem_append.1 hg with hg | hg
    · exact f.low.1 g hg
    · exact f.low.2.1 g hg
  · rcases f.cts.2 with ⟨-, h0⟩ | ⟨g, cap, cur, -, -, -, h1, h2, -⟩
    · omega
    · simp only [maxLen] at h2; omega
end
end Go.Proofs.Ytkikeanpbffpkaa

/- impl.freeUncounted: what nothing leads to is freed, again and again. -/
namespace Go.Proofs.Ytkikeanpbffpkaa
open Go.RowKit
set_option maxRecDepth 100000
set_option linter.unusedSimpArgs false
set_option linter.unusedVariables false
set_option maxHeartbeats 4000000 in
theorem freeUncounted_any (lo : Nat) (v : Value) (h : HeapM) (w : World) (hv : OH lo w v h) (hva : validM h = true) (hlo : lo ≤ w.heap.size) :
    Calls Try.prog 28 #[v] w fun e w' => ∃ v', e = .returned v' ∧ OCt lo w' v' (freeC h) ∧ Below lo w w' := by
  obtain ⟨A, c, A', c', os, rfl, hm, ho, hl⟩ := hv
  have hosl : os.length = h.cells.length := by rw [← hm, List.length_map]
  have HV := Lib.hid hva
  have HM := Lib.hid hm
  have HO := Lib.hid ho
  have HLO := Lib.hid hl
  have HOL := Lib.hid hosl
  have hn40 := (valid_small hva).1
  have hrh := (ho.rhs hm).rh c c'
  clear hva hm ho hl hosl
  go_enter Try.func28, Try.ntmps28
  go_wp2_with fail
  (with_reducible refine (counted_any A A' c c' h _ (hrh.below blw_) HV.out).mono ?_); rintro e w1 ⟨S, k, rfl, hS, hgS, hB1⟩
  have hz1 := hB1.size
  simp at hz1 hgS
  have HS := Lib.hid hS
  have HGS := Lib.hid hgS
  have X2 : Bx w1 (w.heap.size + 1) [.slice none 0 0, .slice none 0 0, .slice none 0 0] := (show Bx ((w.alloc (.cells #[.slice A h.cells.length c, .slice A' h.roots.length c'] 26)).alloc (.cells #[.slice none 0 0, .slice none 0 0, .slice none 0 0] 28)) (w.heap.size + 1) _ by simpa using Bx.new (w.alloc (.cells #[.slice A h.cells.length c, .slice A' h.roots.length c'] 26)) [.slice none 0 0, .slice none 0 0, .slice none 0 0] 28).below hB1
  have T2 : BT w1 (w.heap.size + 1) 28 := (show BT ((w.alloc (.cells #[.slice A h.cells.length c, .slice A' h.roots.length c'] 26)).alloc (.cells #[.slice none 0 0, .slice none 0 0, .slice none 0 0] 28)) (w.heap.size + 1) _ by simpa using BT.new (w.alloc (.cells #[.slice A h.cells.length c, .slice A' h.roots.length c'] 26)) #[.slice none 0 0, .slice none 0 0, .slice none 0 0] 28).below hB1
  have K1 : w1.cell? ⟨w.heap.size, 0, none⟩ = some (.slice A h.cells.length c) := cell_below (w := (w.alloc (.cells #[.slice A h.cells.length c, .slice A' h.roots.length c'] 26)).alloc (.cells #[.slice none 0 0, .slice none 0 0, .slice none 0 0] 28)) (by simp [go_sem]) hB1
  have hBw : Below w.heap.size w w1 := Below.trans (show Below w.heap.size w ((w.alloc (.cells #[.slice A h.cells.length c, .slice A' h.roots.length c'] 26)).alloc (.cells #[.slice none 0 0, .slice none 0 0, .slice none 0 0] 28)) from blw_) (hB1.mono (by simp; omega))
  clear hrh hS hgS hB1
  go_upto_region 3 with fail
  refine Code.gen (fun W => FrS h.cells.length lo (w.heap.size + 1) w1.heap.size w A c A' c' os h.roots S k (cntsM h) none 0 [] (some ⟨w1.heap.size + 1, 0, none⟩) 0 (castL (qN h 0)) W ∧ Below w1.heap.size w1 W) ⟨FrS.start HO.out HLO.out hlo hBw HS.out HGS.out blw_ X2 T2 ((Bx.new w1 [.slice A h.cells.length c, .slice A' h.roots.length c', .slice S h.cells.length k] 28).below blw_) ((BT.new w1 #[.slice A h.cells.length c, .slice A' h.roots.length c', .slice S h.cells.length k] 28).below blw_) (OQ.of (OF.of_blkn (xs := ([] : List Int)) rfl (heap_alloc_at _ _ _ (by first | rfl | simp)) (Nat.zero_le _))) (fun g hg => by rw [mem_blk_some hg]; exact Nat.le_succ _) ⟨HOL.out, cntsM_len h⟩, blw_⟩ ?_
  clear X2 T2 HO HLO
  rintro W ⟨hF, hB⟩
  have HF := Lib.hid hF
  have q3 := hF.b3.c 2 _ rfl
  clear hF
  go_wp2
  go_loopw [16, 4] (fun s16 s4 wr => ∃ (j : Nat) (Q : Option Addr) (cQ m : Nat), s16 = .int .i64 (j : Int) ∧ j ≤ h.cells.length ∧ s4 = .slice Q m cQ ∧ Hid (m = (qN h j).length) ∧ Hid (FrS h.cells.length lo (w.heap.size + 1) w1.heap.size w A c A' c' os h.roots S k (cntsM h) none 0 [] Q cQ (castL (qN h j)) wr) ∧ Hid (∀ g ∈ blk Q, w1.heap.size ≤ g) ∧ Below w1.heap.size w1 wr) (fun s16 _ _ => h.cells.length - (intOf s16).toNat)
  case atStart => exact ⟨0, _, _, _, rfl, by omega, rfl, rfl, HF, fun g hg => by rw [mem_blk_some hg]; exact Nat.le_succ _, hB⟩
  case round =>
    clear HF q3 hB
    obtain ⟨j, Q, cQ, m, rfl, hj, rfl, HM2, HF, HGQ, hB⟩ := hrel
    have q3 := HF.out.b3.c 2 _ rfl
    have k1 := (hB.cell (p := ⟨w.heap.size, 0, none⟩) (show w.heap.size < w1.heap.size by omega)).trans K1
    by_cases hlt : j < h.cells.length
    · have hcl : j < (cntsM h).length := by rw [cntsM_len]; exact hlt
      obtain ⟨gS, rfl, hgS2⟩ := HF.out.cts.some_ hcl
      obtain ⟨y, hy⟩ : ∃ y, (cntsM h)[j]? = some y := ⟨_, List.getElem?_eq_getElem hcl⟩
      have hyg : (cntsM h).getD j 0 = y := by rw [List.getD_eq_getElem?_getD, hy]; rfl
      have d1 : wr.cell? ⟨gS, j, none⟩ = some (.int .i64 y) := HF.out.cts.cell hy
      have hjo : j < os.length := by rw [HOL.out]; exact hlt
      obtain ⟨o, ho2⟩ : ∃ o, os[j]? = some o := ⟨_, List.getElem?_eq_getElem hjo⟩
      obtain ⟨gA, rfl, d0, -, -, hgA⟩ := HF.out.own.cells.at_ ho2
      have hus : usedN h.cells j = o.c.used := by rw [← HM.out]; exact usedN_at (by rw [List.getElem?_map, ho2]; rfl)
      have HY := Lib.hid hyg
      have HU := Lib.hid hus
      have i0 : (0 : Int) ≤ (j : Int) := by omega
      have i1 : (j : Int) < (h.cells.length : Int) := by omega
      have i3 : (j : Int) + 1 < 9223372036854775807 := by omega
      clear hcl hy hyg ho2 hus hjo
      by_cases hy0 : y = 0
      · subst hy0
        rcases bool_ft o.c.used with hu | hu
        · rw [hu] at d0 HU
          have HN := Lib.hid (qN_no (h := h) (j := j) (.inl HU.out))
          go_wp2
          go_roundw
          case rel => exact ⟨j + 1, _, _, _, by go_num, by omega, rfl, by rw [HN.out]; exact HM2, by rw [HN.out]; exact HF, HGQ, hB⟩
          case measure => simp [intOf]; omega
        · rw [hu] at d0 HU
          have HN := Lib.hid (qN_yes (h := h) (j := j) HU.out HY.out)
          have hzr := hB.size
          go_wp2_with (at_builtin; (refine wpList_appq rfl (.tmp 31) (.tmp 33) rfl (castL (qN h j)) (by rw [castL_len]; exact HM2.out) rfl rfl (HF.out.que.below blw_) (y := (j : Int)) (by simp [go_sem, fi]) (by rw [castL_len]; have := qN_le h j; omega) ?_); intro S2 c2 w3 hQ3 hOn3 hg3; have HF3 := Lib.hid (HF.out.push blw_ hQ3 hOn3 hg3); have hB3 : Below w1.heap.size w1 w3 := Below.trans blw_ (hOn3.below (by simp; omega) (fun b9 hb9 => HGQ.out b9 hb9)); have HG3 : Hid (∀ g ∈ blk S2, w1.heap.size ≤ g) := (fun b9 hb9 => by rcases hg3 b9 hb9 with h9 | h9; exact HGQ.out b9 h9; (try simp at h9); omega); clear hQ3 hOn3 hg3)
          go_roundw
          case rel => exact ⟨j + 1, S2, c2, m + 1, by go_num, by omega, rfl, by rw [HN.out, List.length_append, ← HM2.out]; rfl, by rw [HN.out, castL_snoc]; exact HF3, HG3, hB3⟩
          case measure => simp [intOf]; omega
      · have hb0 : (y == 0) = false := by rw [beq_eq_false_iff_ne]; exact hy0
        have HN := Lib.hid (qN_no (h := h) (j := j) (.inr (by rw [HY.out]; exact hy0)))
        go_wp2
        go_roundw
        case rel => exact ⟨j + 1, _, _, _, by go_num, by omega, rfl, by rw [HN.out]; exact HM2, by rw [HN.out]; exact HF, HGQ, hB⟩
        case measure => simp [intOf]; omega
    · have hje : j = h.cells.length := by omega
      subst hje
      have HQ0 := Lib.hid (qN_start h)
      obtain ⟨queue0, hq0⟩ : ∃ q, q = qN h h.cells.length := ⟨_, rfl⟩
      rw [← hq0] at HM2 HF HQ0
      clear hq0 q3 k1 hj hB HGQ K1 hBw HS HGS hlt
      go_wp2
      go_loopg [4] (mD h.cells.length (fun _ => false)) (fun d s4 wr => ∃ (dead : Nat → Bool) (queue : List Nat) (C : List Int) (os : List OCell) (Q : Option Addr) (cQ m : Nat), Hid (d = mD h.cells.length dead) ∧ s4 = .slice Q m cQ ∧ Hid (m = queue.length) ∧ Hid (os.map (·.c) = (dropF h dead).cells) ∧ Hid (FrQ h dead queue [] (fun i => C.getD i 0)) ∧ Hid (FrS h.cells.length lo (w.heap.size + 1) w1.heap.size w A c A' c' os h.roots S k C none 0 [] Q cQ (castL queue) wr))
      case atStart => exact ⟨fun _ => false, queue0, cntsM h, os, Q, cQ, m, rfl, rfl, HM2, by rw [dropF_none]; exact HM.out, HQ0, HF⟩
      case round =>
        clear HM2 HF HQ0 HM HOL
        obtain ⟨dead, queue, C, os, Q, cQ, m, HD, rfl, HM2, HMO, HQ, HF⟩ := hrel
        have hne := HF.out.ne
        have hne' := hne.symm
        cases queue with
        | nil =>
          have hm0 : m = 0 := HM2.out
          subst hm0
          have q0 := HF.out.b3.c 0 _ rfl
          have q1 := HF.out.b3.c 1 _ rfl
          have q2 := HF.out.b3.c 2 _ rfl
          have r0 := HF.out.b2.c 0 _ rfl
          have r1 := HF.out.b2.c 1 _ rfl
          have r2 := HF.out.b2.c 2 _ rfl
          have f0 := HF.out.b2.f 0
          have f1 := HF.out.b2.f 1
          have f2 := HF.out.b2.f 2
          go_wp2_with fail
          have hfin := HQ.out.fin HF.out.nl.2
          refine bodyPost_ret (v := .agg #[.slice A h.cells.length c, .slice A' h.roots.length c', .slice S h.cells.length k]) (by simp [results, Try.results28, go_sem, r0, r1, r2]) rfl ⟨_, rfl, HF.out.oc (p := freeC h) (by rw [HMO.out, hfin.1]; rfl) rfl hfin.2 ?_, ?_⟩
          · exact (by repeat (first | (with_reducible exact Only.refl _ _) | (with_reducible refine Only.drew ?_) | (refine Only.setCell ?_ (.inl (by simp)) _)))
          · have hbl := HF.out.bel
            have hls := HF.out.ls
            exact (by repeat (first | (with_reducible assumption) | (with_reducible refine Below.drew ?_) | (refine Below.setCell ?_ (by simp only; omega) _)))
        | cons q qs =>
          obtain ⟨gQ, oQ, rfl, dQ⟩ := OQ.head (x := (q : Int)) (xs := castL qs) HF.out.que
          have hqf := HQ.out.mem q (by simp)
          have hqn : q < h.cells.length := fre_lt hqf.1
          have hqo : q < os.length := by rw [HF.out.nl.1]; exact hqn
          obtain ⟨o, ho2⟩ : ∃ o, os[q]? = some o := ⟨_, List.getElem?_eq_getElem hqo⟩
          obtain ⟨gA, rfl, d0, d1, d2, hgA⟩ := HF.out.own.cells.at_ ho2
          have fA0 := HF.out.own.cells.frozen (q * 3)
          have fA1 := HF.out.own.cells.frozen (q * 3 + 1)
          have fA2 := HF.out.own.cells.frozen (q * 3 + 2)
          have q0 := HF.out.b3.c 0 _ rfl
          have hm1 : m = qs.length + 1 := HM2.out
          subst hm1
          have hql := HF.out.que.len
          simp only [castL_len, List.length_cons] at hql
          have HR : Hid (o.c.refs = refsAt h q) := by
            have e1 : (dropF h dead).cells[q]? = some o.c := by rw [← HMO.out, List.getElem?_map, ho2]; rfl
            have e2 := dropF_refs h dead q
            rw [refsAt_of e1, hqf.2.1] at e2
            unfold Hid
            simpa using e2
          have HO2 := Lib.hid ho2
          have i0 : (0 : Int) ≤ (q : Int) := by omega
          have i1 : (q : Int) < (h.cells.length : Int) := by omega
          have HQF := Lib.hid hqf
          have dQ' : wr.cell? ⟨gQ, oQ, none⟩ = some (.int .i64 (q : Int)) := dQ
          clear ho2 hqf dQ
          go_upto_region 10 with fail
          go_quiet (fail)
          go_upto_region 11 with fail
          refine Code.gen (fun W => FrS h.cells.length lo (w.heap.size + 1) w1.heap.size w (some ⟨gA, 0, none⟩) c A' c' os h.roots S k C none 0 [] (some ⟨gQ, oQ, none⟩) cQ (castL (q :: qs)) W) (HF.out.below blw_) ?_
          clear HF dQ' d0 d1 d2 fA0 fA1 fA2 q0
          rintro wa hF
          have HF := Lib.hid hF
          obtain ⟨gQ', oQ', eQ, dQ⟩ := OQ.head (x := (q : Int)) (xs := castL qs) hF.que
          injection eQ with eQ
          injection eQ with eQ1 eQ2
          subst eQ1
          subst eQ2
          obtain ⟨gA', eA, d0, d1, d2, -⟩ := hF.own.cells.at_ HO2.out
          injection eA with eA
          injection eA with eA1
          subst eA1
          have dQ' : wa.cell? ⟨gQ, oQ, none⟩ = some (.int .i64 (q : Int)) := dQ
          have fA0 := hF.own.cells.frozen (q * 3)
          have fA1 := hF.own.cells.frozen (q * 3 + 1)
          have fA2 := hF.own.cells.frozen (q * 3 + 2)
          have q0 := hF.b3.c 0 _ rfl
          clear hF dQ
          go_still_tail 8, (by kernel_rfl)
          go_upto_region 12 with fail
          refine Code.gen (fun W => FrS h.cells.length lo (w.heap.size + 1) w1.heap.size w (some ⟨gA, 0, none⟩) c A' c' (os.set q zeroO) h.roots S k C o.A o.cap o.c.refs (some ⟨gQ, oQ, none⟩) cQ (castL (q :: qs)) W) ((HF.out.free HO2.out).below blw_) ?_
          have HQ2 : Hid (FrQ h (updD dead q) qs (refsAt h q) (fun i => C.getD i 0)) := HQ.out.pop HV.out
          rw [← HR.out] at HQ2
          have HMO2 : Hid ((os.set q zeroO).map (·.c) = (dropF h (updD dead q)).cells) := by unfold Hid; rw [← dropF_set, ← HMO.out, List.map_set]; rfl
          have HD2 : Hid (mD h.cells.length (updD dead q) < gk) := by unfold Hid; rw [HD.out]; have := mD_upd hqn HQF.out.2.1; omega
          have hr3 : o.c.refs.length ≤ 3 := by rw [HR.out]; exact refsAt_le HV.out q
          clear HF d0 d1 d2 dQ' fA0 fA1 fA2 q0 HO2 HQ HMO HD HR HQF hqo HM2
          generalize os.set q zeroO = os2 at HMO2 ⊢
          rintro wb hF
          have HF := Lib.hid hF
          clear hF
          go_cut [4] (fun s4 wx => ∃ (Q' : Option Addr) (cQ' : Nat), s4 = .slice Q' qs.length cQ' ∧ Hid (FrS h.cells.length lo (w.heap.size + 1) w1.heap.size w (some ⟨gA, 0, none⟩) c A' c' os2 h.roots S k C o.A o.cap o.c.refs Q' cQ' (castL qs) wx))
          case first =>
            have hx1 : (1 : Int) ≤ (qs.length : Int) + 1 := by omega
            by_cases hone : cQ = 1
            · subst hone
              have h9 := OQ.tail1 (x := (q : Int)) (xs := castL qs) HF.out.que
              have hqs : qs = [] := List.eq_nil_of_length_eq_zero (by have := congrArg List.length h9.1; rw [castL_len] at this; simpa using this)
              subst hqs
              have H9 := Lib.hid h9.2
              clear h9
              go_wp2
              go_meet
              exact ⟨_, _, rfl, HF.out.rest H9.out rfl⟩
            · have h9 := OQ.tail (x := (q : Int)) (xs := castL qs) HF.out.que hone
              have H9 := Lib.hid h9
              have hc1 : (1 : Int) ≤ (cQ : Int) ∧ (qs.length : Int) + 1 ≤ (cQ : Int) := by omega
              clear h9
              go_wp2
              go_meet
              exact ⟨_, _, rfl, HF.out.rest H9.out rfl⟩
          case rest =>
            clear HF hql
            obtain ⟨Q, cQ, rfl, HF⟩ := hcut
            generalize o.A = RA at HF ⊢
            generalize o.cap = cR at HF ⊢
            generalize o.c.refs = rem at HF HQ2 hr3 ⊢
            go_wp2
            go_loopw [60, 4] (fun s60 s4 wr => ∃ (j : Nat) (C : List Int) (queue : List Nat) (Q : Option Addr) (cQ m : Nat), s60 = .int .i64 (j : Int) ∧ j ≤ rem.length ∧ s4 = .slice Q m cQ ∧ Hid (m = queue.length) ∧ Hid (FrQ h (updD dead q) queue (rem.drop j) (fun i => C.getD i 0)) ∧ Hid (FrS h.cells.length lo (w.heap.size + 1) w1.heap.size w (some ⟨gA, 0, none⟩) c A' c' os2 h.roots S k C RA cR rem Q cQ (castL queue) wr)) (fun s60 _ _ => rem.length - (intOf s60).toNat)
            case atStart => exact ⟨0, C, qs, Q, cQ, _, rfl, by omega, rfl, rfl, by rw [List.drop_zero]; exact HQ2, HF⟩
            case round =>
              clear HQ2 HF
              obtain ⟨j, C, queue, Q, cQ, m, rfl, hj, rfl, HM2, HQ, HF⟩ := hrel
              by_cases hlt : j < rem.length
              · obtain ⟨r, hr⟩ : ∃ r, rem[j]? = some r := ⟨_, List.getElem?_eq_getElem hlt⟩
                obtain ⟨gR, rfl, hgR⟩ := HF.out.row.some_ hlt
                have d1 : wr.cell? ⟨gR, j, none⟩ = some (.int .i64 r) := HF.out.row.cell hr
                rw [drop_cons hr] at HQ
                have i0 : (0 : Int) ≤ (j : Int) := by omega
                have i1 : (j : Int) < (rem.length : Int) := by omega
                have i3 : (j : Int) + 1 < 9223372036854775807 := by omega
                clear hr
                by_cases h0 : r < 0
                · have HN := Lib.hid (HQ.out.skip h0)
                  go_wp2
                  go_roundw
                  case rel => exact ⟨j + 1, C, queue, Q, cQ, m, by go_num, by omega, rfl, HM2, HN, HF⟩
                  case measure => simp [intOf]; omega
                · obtain ⟨x, rfl⟩ := Int.eq_ofNat_of_zero_le (show 0 ≤ r by omega)
                  have h9 := HQ.out.ref HF.out.nl.2
                  have hx : x < h.cells.length := h9.1
                  have hxc : x < C.length := by rw [HF.out.nl.2]; exact hx
                  have hbd := HQ.out.bd HV.out hx
                  have hql := HQ.out.len
                  obtain ⟨gS, rfl, hgS⟩ := HF.out.cts.some_ hxc
                  obtain ⟨y, hy⟩ : ∃ y, C[x]? = some y := ⟨_, List.getElem?_eq_getElem hxc⟩
                  have hyd : C.getD x 0 = y := by rw [List.getD_eq_getElem?_getD, hy]; rfl
                  simp only [hyd, List.length_cons, List.length_drop] at hbd
                  rw [hyd] at h9
                  have e1 : wr.cell? ⟨gS, x, none⟩ = some (.int .i64 y) := HF.out.cts.cell hy
                  have fS := HF.out.cts.frozen x
                  have q2 := HF.out.b3.c 2 _ rfl
                  have hs3 : w1.heap.size ≠ gS := fun e => HF.out.s3n.2.1 (by simp [blk, e])
                  have hs3' := hs3.symm
                  have hy1 : 1 ≤ y := h9.2.1
                  have hy2 : y ≤ 200 := by omega
                  have H9 := Lib.hid h9.2.2
                  have i4 : (x : Int) < (h.cells.length : Int) := by omega
                  clear h9 hy hyd hbd
                  by_cases hone : y = 1
                  · subst hone
                    have HN := Lib.hid (H9.out.1 rfl)
                    have HC := Lib.hid (HF.out.count x 0)
                    go_wp2_with (at_builtin; (refine wpList_appq rfl (.tmp 79) (.tmp 81) rfl (castL queue) (by rw [castL_len]; exact HM2.out) rfl rfl (HC.out.que.below blw_) (y := (x : Int)) (by simp [go_sem, fi]) (by rw [castL_len]; omega) ?_); intro S2 c2 w3 hQ3 hOn3 hg3; have HF3 := Lib.hid (HC.out.push blw_ hQ3 hOn3 hg3); clear hQ3 hOn3 hg3)
                    go_roundw
                    case rel => exact ⟨j + 1, C.set x 0, queue ++ [x], S2, c2, m + 1, by go_num, by omega, rfl, by unfold Hid; rw [List.length_append, ← HM2.out]; rfl, HN, by rw [castL_snoc]; exact HF3⟩
                    case measure => simp [intOf]; omega
                  · have HN := Lib.hid (H9.out.2 (by omega))
                    have HC := Lib.hid (HF.out.count x (y - 1))
                    have hb0 : (y - 1 == 0) = false := by rw [beq_eq_false_iff_ne]; omega
                    go_wp2
                    go_roundw
                    case rel => exact ⟨j + 1, C.set x (y - 1), queue, Q, cQ, m, by go_num, by omega, rfl, HM2, HN, HC⟩
                    case measure => simp [intOf]; omega
              · have hje : j = rem.length := by omega
                subst hje
                rw [List.drop_length] at HQ
                have HE := Lib.hid HF.out.drop
                go_wp2
                go_roundg (mD h.cells.length (updD dead q))
                case rel => exact ⟨updD dead q, queue, C, os2, Q, cQ, m, rfl, rfl, HM2, HMO2, HQ, HE⟩
                case measure => exact HD2.out
end Go.Proofs.Ytkikeanpbffpkaa

/- impl.StepCounted. -/
namespace Go.Proofs.Ytkikeanpbffpkaa
open Go.RowKit
set_option maxRecDepth 100000
set_option linter.unusedSimpArgs false
set_option linter.unusedVariables false
theorem OCt.lo_ {lo lo' : Nat} {w : World} {v : Value} {p : CountM} (h : OCt lo w v p) (hl : lo' ≤ lo) : OCt lo' w v p := by
  obtain ⟨A, c, A', c', os, A2, c2, e, h1, h2, h3, h4, h5, h6⟩ := h
  exact ⟨A, c, A', c', os, A2, c2, e, h1, h2, h3, h4, fun g hg => Nat.le_trans hl (h5 g hg), h6⟩
theorem OCt.set_lt {lo : Nat} {w : World} {v : Value} {p : CountM} (h : OCt lo w v p) {a : Addr} (ha : a.block < lo) (u : Value) : OCt lo (w.setCell a u) v p := by
  obtain ⟨A, c, A', c', os, A2, c2, e, h1, h2, h3, h4, h5, h6⟩ := h
  have key : ∀ g ∈ hblks A os A' ++ blk A2, (w.setCell a u).heap[g]? = w.heap[g]? := fun g hg => heap_setCell_ne _ _ _ (fun e => by have := h5 g hg; omega)
  exact ⟨A, c, A', c', os, A2, c2, e, h1, h2.keep fun g hg => key g (List.mem_append.2 (.inl hg)), h3.keep fun g hg => key g (List.mem_append.2 (.inr hg)), h4, h5, h6⟩
theorem OCt.zero {lo : Nat} {w : World} : OCt lo w (.agg #[.slice none 0 0, .slice none 0 0, .slice none 0 0]) zeroC :=
  ⟨none, 0, none, 0, [], none, 0, rfl, rfl, ⟨⟨World.ownsRow_nil w 0 38 3, fun o ho => by cases ho⟩, OF.nil, by simp [blk, blks], by simp, by simp [zeroC, zeroH]⟩, OF.nil, by simp [hblks, blk, blks], by simp [hblks, blk, blks], by simp [zeroC]⟩
theorem canF_poss {h : HeapM} {o : CmdM} (hc : canF h o = true) : possO h o = true := by unfold canF at hc; simp only [Bool.and_eq_true] at hc; exact hc.1
set_option maxHeartbeats 4000000 in
theorem implStepCounted_any (v : Value) (p : CountM) (o : CmdM) (w : World) (hv : RCt w v p) :
    Calls Try.prog 7 #[v, .agg #[.int .i64 o.op, .int .i64 o.a, .int .i64 o.b, .int .i64 o.c]] w fun e w' => ∃ v', e = .returned (.tuple #[v', .bool (stepCountM p o).2]) ∧ OCt w.heap.size w' v' (stepCountM p o).1 ∧ Below w.heap.size w w' := by
  obtain ⟨A_p, n_p, B_p, m_p, C_p, k_p, rfl⟩ := hv.parts
  go_enter Try.func7, Try.ntmps7
  go_upto_region 1 with fail
  refine Code.gen (Stb (fun W => RCt W (.agg #[.slice A_p p.store.cells.length n_p, .slice B_p p.store.roots.length m_p, .slice C_p p.counts.length k_p]) p ∧ Bx W w.heap.size [.slice A_p p.store.cells.length n_p, .slice B_p p.store.roots.length m_p, .slice C_p p.counts.length k_p] ∧ Bx W (w.heap.size + 1) [.int .i64 o.op, .int .i64 o.a, .int .i64 o.b, .int .i64 o.c] ∧ Bx W (w.heap.size + 2) [.slice none 0 0, .slice none 0 0, .slice none 0 0] ∧ w.heap.size + 3 ≤ W.heap.size ∧ Below w.heap.size w W)) (Stb.and (Stb.rct (hv.below blw_)) (Stb.and (Stb.bx ((Bx.new w [.slice A_p p.store.cells.length n_p, .slice B_p p.store.roots.length m_p, .slice C_p p.counts.length k_p] 28).below blw_)) (Stb.and (Stb.bx ((show Bx ((w.alloc (.cells #[.slice A_p p.store.cells.length n_p, .slice B_p p.store.roots.length m_p, .slice C_p p.counts.length k_p] 28)).alloc (.cells #[.int .i64 o.op, .int .i64 o.a, .int .i64 o.b, .int .i64 o.c] 30)) (w.heap.size + 1) [.int .i64 o.op, .int .i64 o.a, .int .i64 o.b, .int .i64 o.c] by simpa using Bx.new (w.alloc (.cells #[.slice A_p p.store.cells.length n_p, .slice B_p p.store.roots.length m_p, .slice C_p p.counts.length k_p] 28)) [.int .i64 o.op, .int .i64 o.a, .int .i64 o.b, .int .i64 o.c] 30).below blw_)) (Stb.and (Stb.bx ((show Bx (((w.alloc (.cells #[.slice A_p p.store.cells.length n_p, .slice B_p p.store.roots.length m_p, .slice C_p p.counts.length k_p] 28)).alloc (.cells #[.int .i64 o.op, .int .i64 o.a, .int .i64 o.b, .int .i64 o.c] 30)).alloc (.cells #[.slice none 0 0, .slice none 0 0, .slice none 0 0] 28)) (w.heap.size + 2) [.slice none 0 0, .slice none 0 0, .slice none 0 0] by simpa using Bx.new ((w.alloc (.cells #[.slice A_p p.store.cells.length n_p, .slice B_p p.store.roots.length m_p, .slice C_p p.counts.length k_p] 28)).alloc (.cells #[.int .i64 o.op, .int .i64 o.a, .int .i64 o.b, .int .i64 o.c] 30)) [.slice none 0 0, .slice none 0 0, .slice none 0 0] 28).below blw_)) (Stb.and (Stb.size (by simp)) (Stb.here blw_)))))) ?_
  rintro W HI
  clear hv
  rcases bool_ft (countOk p) with hcv | hcv
  · have HX : Hid (stepCountM p o = (zeroC, false)) := by unfold Hid stepCountM; rw [hcv]; rfl
    have c_p0 := HI.now.2.1.c 0 _ rfl
    have c_p1 := HI.now.2.1.c 1 _ rfl
    have c_p2 := HI.now.2.1.c 2 _ rfl
    have c_o0 := HI.now.2.2.1.c 0 _ rfl
    have c_o1 := HI.now.2.2.1.c 1 _ rfl
    have c_o2 := HI.now.2.2.1.c 2 _ rfl
    have c_o3 := HI.now.2.2.1.c 3 _ rfl
    have zz := HI.now.2.2.2.2.1
    go_wp2_with fail
    refine Calls.gen (Stb (fun W => RCt W (.agg #[.slice A_p p.store.cells.length n_p, .slice B_p p.store.roots.length m_p, .slice C_p p.counts.length k_p]) p ∧ Bx W w.heap.size [.slice A_p p.store.cells.length n_p, .slice B_p p.store.roots.length m_p, .slice C_p p.counts.length k_p] ∧ Bx W (w.heap.size + 1) [.int .i64 o.op, .int .i64 o.a, .int .i64 o.b, .int .i64 o.c] ∧ Bx W (w.heap.size + 2) [.slice none 0 0, .slice none 0 0, .slice none 0 0] ∧ w.heap.size + 3 ≤ W.heap.size ∧ Below w.heap.size w W)) (HI.step blw_) ?_
    clear c_p0 c_p1 c_p2 c_o0 c_o1 c_o2 c_o3 zz
    clear HI 
    rintro W HI
    (with_reducible refine (implCountedValid_any _ p _ HI.now.1).mono ?_); rw [hcv]; rintro e w2 ⟨rfl, hB⟩
    replace HI := HI.step hB
    clear hB
    have HB := HI.now.2.2.2.2.2
    have c_r0 := HI.now.2.2.2.1.c 0 _ rfl
    have c_r1 := HI.now.2.2.2.1.c 1 _ rfl
    have c_r2 := HI.now.2.2.2.1.c 2 _ rfl
    have f_r0 := HI.now.2.2.2.1.f 0
    have f_r1 := HI.now.2.2.2.1.f 1
    have f_r2 := HI.now.2.2.2.1.f 2
    clear HI
    go_wp2_with fail
    refine bodyPost_ret (v := .tuple #[.agg #[.slice none 0 0, .slice none 0 0, .slice none 0 0], .bool false]) (by simp [results, Try.results7, go_sem, c_r0, c_r1, c_r2]) rfl ⟨_, by rw [HX.out], by rw [HX.out]; exact OCt.zero, blw_⟩
  rcases bool_ft (cmdOk o) with hco | hco
  · have HX : Hid (stepCountM p o = (zeroC, false)) := by unfold Hid stepCountM; rw [hcv, hco]; rfl
    have c_p0 := HI.now.2.1.c 0 _ rfl
    have c_p1 := HI.now.2.1.c 1 _ rfl
    have c_p2 := HI.now.2.1.c 2 _ rfl
    have c_o0 := HI.now.2.2.1.c 0 _ rfl
    have c_o1 := HI.now.2.2.1.c 1 _ rfl
    have c_o2 := HI.now.2.2.1.c 2 _ rfl
    have c_o3 := HI.now.2.2.1.c 3 _ rfl
    have zz := HI.now.2.2.2.2.1
    go_wp2_with fail
    refine Calls.gen (Stb (fun W => RCt W (.agg #[.slice A_p p.store.cells.length n_p, .slice B_p p.store.roots.length m_p, .slice C_p p.counts.length k_p]) p ∧ Bx W w.heap.size [.slice A_p p.store.cells.length n_p, .slice B_p p.store.roots.length m_p, .slice C_p p.counts.length k_p] ∧ Bx W (w.heap.size + 1) [.int .i64 o.op, .int .i64 o.a, .int .i64 o.b, .int .i64 o.c] ∧ Bx W (w.heap.size + 2) [.slice none 0 0, .slice none 0 0, .slice none 0 0] ∧ w.heap.size + 3 ≤ W.heap.size ∧ Below w.heap.size w W)) (HI.step blw_) ?_
    clear c_p0 c_p1 c_p2 c_o0 c_o1 c_o2 c_o3 zz
    clear HI 
    rintro W HI
    (with_reducible refine (implCountedValid_any _ p _ HI.now.1).mono ?_); rw [hcv]; rintro e w2 ⟨rfl, hB⟩
    replace HI := HI.step hB
    clear hB
    have c_p0 := HI.now.2.1.c 0 _ rfl
    have c_p1 := HI.now.2.1.c 1 _ rfl
    have c_p2 := HI.now.2.1.c 2 _ rfl
    have c_o0 := HI.now.2.2.1.c 0 _ rfl
    have c_o1 := HI.now.2.2.1.c 1 _ rfl
    have c_o2 := HI.now.2.2.1.c 2 _ rfl
    have c_o3 := HI.now.2.2.1.c 3 _ rfl
    have zz := HI.now.2.2.2.2.1
    go_wp2_with fail
    refine Calls.gen (Stb (fun W => RCt W (.agg #[.slice A_p p.store.cells.length n_p, .slice B_p p.store.roots.length m_p, .slice C_p p.counts.length k_p]) p ∧ Bx W w.heap.size [.slice A_p p.store.cells.length n_p, .slice B_p p.store.roots.length m_p, .slice C_p p.counts.length k_p] ∧ Bx W (w.heap.size + 1) [.int .i64 o.op, .int .i64 o.a, .int .i64 o.b, .int .i64 o.c] ∧ Bx W (w.heap.size + 2) [.slice none 0 0, .slice none 0 0, .slice none 0 0] ∧ w.heap.size + 3 ≤ W.heap.size ∧ Below w.heap.size w W)) (HI.step blw_) ?_
    clear c_p0 c_p1 c_p2 c_o0 c_o1 c_o2 c_o3 zz
    clear HI 
    rintro W HI
    (with_reducible refine (implCommandValid_any o _).mono ?_); rw [hco]; rintro e w2 ⟨rfl, hB⟩
    replace HI := HI.step hB
    clear hB
    have HB := HI.now.2.2.2.2.2
    have c_r0 := HI.now.2.2.2.1.c 0 _ rfl
    have c_r1 := HI.now.2.2.2.1.c 1 _ rfl
    have c_r2 := HI.now.2.2.2.1.c 2 _ rfl
    have f_r0 := HI.now.2.2.2.1.f 0
    have f_r1 := HI.now.2.2.2.1.f 1
    have f_r2 := HI.now.2.2.2.1.f 2
    clear HI
    go_wp2_with fail
    refine bodyPost_ret (v := .tuple #[.agg #[.slice none 0 0, .slice none 0 0, .slice none 0 0], .bool false]) (by simp [results, Try.results7, go_sem, c_r0, c_r1, c_r2]) rfl ⟨_, by rw [HX.out], by rw [HX.out]; exact OCt.zero, blw_⟩
  have HV := Lib.hid (countOk_iff.1 hcv)
  rcases bool_ft (canF p.store o) with hcf | hcf
  · have HX : Hid (stepCountM p o = (p, false)) := by unfold Hid stepCountM; rw [hcv, hco, hcf]; rfl
    have c_p0 := HI.now.2.1.c 0 _ rfl
    have c_p1 := HI.now.2.1.c 1 _ rfl
    have c_p2 := HI.now.2.1.c 2 _ rfl
    have c_o0 := HI.now.2.2.1.c 0 _ rfl
    have c_o1 := HI.now.2.2.1.c 1 _ rfl
    have c_o2 := HI.now.2.2.1.c 2 _ rfl
    have c_o3 := HI.now.2.2.1.c 3 _ rfl
    have zz := HI.now.2.2.2.2.1
    go_wp2_with fail
    refine Calls.gen (Stb (fun W => RCt W (.agg #[.slice A_p p.store.cells.length n_p, .slice B_p p.store.roots.length m_p, .slice C_p p.counts.length k_p]) p ∧ Bx W w.heap.size [.slice A_p p.store.cells.length n_p, .slice B_p p.store.roots.length m_p, .slice C_p p.counts.length k_p] ∧ Bx W (w.heap.size + 1) [.int .i64 o.op, .int .i64 o.a, .int .i64 o.b, .int .i64 o.c] ∧ Bx W (w.heap.size + 2) [.slice none 0 0, .slice none 0 0, .slice none 0 0] ∧ w.heap.size + 3 ≤ W.heap.size ∧ Below w.heap.size w W)) (HI.step blw_) ?_
    clear c_p0 c_p1 c_p2 c_o0 c_o1 c_o2 c_o3 zz
    clear HI 
    rintro W HI
    (with_reducible refine (implCountedValid_any _ p _ HI.now.1).mono ?_); rw [hcv]; rintro e w2 ⟨rfl, hB⟩
    replace HI := HI.step hB
    clear hB
    have c_p0 := HI.now.2.1.c 0 _ rfl
    have c_p1 := HI.now.2.1.c 1 _ rfl
    have c_p2 := HI.now.2.1.c 2 _ rfl
    have c_o0 := HI.now.2.2.1.c 0 _ rfl
    have c_o1 := HI.now.2.2.1.c 1 _ rfl
    have c_o2 := HI.now.2.2.1.c 2 _ rfl
    have c_o3 := HI.now.2.2.1.c 3 _ rfl
    have zz := HI.now.2.2.2.2.1
    go_wp2_with fail
    refine Calls.gen (Stb (fun W => RCt W (.agg #[.slice A_p p.store.cells.length n_p, .slice B_p p.store.roots.length m_p, .slice C_p p.counts.length k_p]) p ∧ Bx W w.heap.size [.slice A_p p.store.cells.length n_p, .slice B_p p.store.roots.length m_p, .slice C_p p.counts.length k_p] ∧ Bx W (w.heap.size + 1) [.int .i64 o.op, .int .i64 o.a, .int .i64 o.b, .int .i64 o.c] ∧ Bx W (w.heap.size + 2) [.slice none 0 0, .slice none 0 0, .slice none 0 0] ∧ w.heap.size + 3 ≤ W.heap.size ∧ Below w.heap.size w W)) (HI.step blw_) ?_
    clear c_p0 c_p1 c_p2 c_o0 c_o1 c_o2 c_o3 zz
    clear HI 
    rintro W HI
    (with_reducible refine (implCommandValid_any o _).mono ?_); rw [hco]; rintro e w2 ⟨rfl, hB⟩
    replace HI := HI.step hB
    clear hB
    have c_p0 := HI.now.2.1.c 0 _ rfl
    have c_p1 := HI.now.2.1.c 1 _ rfl
    have c_p2 := HI.now.2.1.c 2 _ rfl
    have c_o0 := HI.now.2.2.1.c 0 _ rfl
    have c_o1 := HI.now.2.2.1.c 1 _ rfl
    have c_o2 := HI.now.2.2.1.c 2 _ rfl
    have c_o3 := HI.now.2.2.1.c 3 _ rfl
    have zz := HI.now.2.2.2.2.1
    go_wp2_with fail
    refine Calls.gen (Stb (fun W => RCt W (.agg #[.slice A_p p.store.cells.length n_p, .slice B_p p.store.roots.length m_p, .slice C_p p.counts.length k_p]) p ∧ Bx W w.heap.size [.slice A_p p.store.cells.length n_p, .slice B_p p.store.roots.length m_p, .slice C_p p.counts.length k_p] ∧ Bx W (w.heap.size + 1) [.int .i64 o.op, .int .i64 o.a, .int .i64 o.b, .int .i64 o.c] ∧ Bx W (w.heap.size + 2) [.slice none 0 0, .slice none 0 0, .slice none 0 0] ∧ w.heap.size + 3 ≤ W.heap.size ∧ Below w.heap.size w W)) (HI.step blw_) ?_
    clear c_p0 c_p1 c_p2 c_o0 c_o1 c_o2 c_o3 zz
    clear HI 
    rintro W HI
    (with_reducible refine (canStep_any _ p.store o _ (HI.now.1).st HV.out.1 hco).mono ?_); rw [hcf]; rintro e w2 ⟨rfl, hB⟩
    replace HI := HI.step hB
    clear hB
    have c_p0 := HI.now.2.1.c 0 _ rfl
    have c_p1 := HI.now.2.1.c 1 _ rfl
    have c_p2 := HI.now.2.1.c 2 _ rfl
    have c_o0 := HI.now.2.2.1.c 0 _ rfl
    have c_o1 := HI.now.2.2.1.c 1 _ rfl
    have c_o2 := HI.now.2.2.1.c 2 _ rfl
    have c_o3 := HI.now.2.2.1.c 3 _ rfl
    go_wp2_with fail
    refine Calls.gen (Stb (fun W => RCt W (.agg #[.slice A_p p.store.cells.length n_p, .slice B_p p.store.roots.length m_p, .slice C_p p.counts.length k_p]) p ∧ Bx W w.heap.size [.slice A_p p.store.cells.length n_p, .slice B_p p.store.roots.length m_p, .slice C_p p.counts.length k_p] ∧ Bx W (w.heap.size + 1) [.int .i64 o.op, .int .i64 o.a, .int .i64 o.b, .int .i64 o.c] ∧ Bx W (w.heap.size + 2) [.slice none 0 0, .slice none 0 0, .slice none 0 0] ∧ w.heap.size + 3 ≤ W.heap.size ∧ Below w.heap.size w W)) (HI.step blw_) ?_
    clear c_p0 c_p1 c_p2 c_o0 c_o1 c_o2 c_o3
    clear HI 
    rintro W HI
    have hsm := valid_small HV.out.1
    (with_reducible refine (copyCounted_any _ p _ HI.now.1 (by omega) (fun d hd => by have := hsm.2.2 d hd; omega) (by omega) (by rw [HV.out.2, cntsM_len]; omega)).mono ?_); rintro e w2 ⟨v2, rfl, hO, hB⟩
    have hO2 := hO.lo_ HI.now.2.2.2.2.1
    obtain ⟨E, a1, E', a2, E2, a3, e2_⟩ := hO.rc.parts
    subst e2_
    clear hO hsm
    replace HI := HI.step hB
    clear hB
    have HB := HI.now.2.2.2.2.2
    have zz := HI.now.2.2.2.2.1
    have c_r0 := HI.now.2.2.2.1.c 0 _ rfl
    have c_r1 := HI.now.2.2.2.1.c 1 _ rfl
    have c_r2 := HI.now.2.2.2.1.c 2 _ rfl
    have f_r0 := HI.now.2.2.2.1.f 0
    have f_r1 := HI.now.2.2.2.1.f 1
    have f_r2 := HI.now.2.2.2.1.f 2
    clear HI
    go_wp2_with fail
    refine bodyPost_ret (v := .tuple #[.agg #[.slice E p.store.cells.length a1, .slice E' p.store.roots.length a2, .slice E2 p.counts.length a3], .bool false]) (by simp [results, Try.results7, go_sem, c_r0, c_r1, c_r2]) rfl ⟨_, by rw [HX.out], by rw [HX.out]; exact (((hO2.set_lt (by simp) _).set_lt (by simp) _).set_lt (by simp) _).lo_ (by omega), blw_⟩
  have HX : Hid (stepCountM p o = (countDo p o, true)) := by unfold Hid stepCountM; rw [hcv, hco, hcf]; rfl
  have c_p0 := HI.now.2.1.c 0 _ rfl
  have c_p1 := HI.now.2.1.c 1 _ rfl
  have c_p2 := HI.now.2.1.c 2 _ rfl
  have c_o0 := HI.now.2.2.1.c 0 _ rfl
  have c_o1 := HI.now.2.2.1.c 1 _ rfl
  have c_o2 := HI.now.2.2.1.c 2 _ rfl
  have c_o3 := HI.now.2.2.1.c 3 _ rfl
  have zz := HI.now.2.2.2.2.1
  go_wp2_with fail
  refine Calls.gen (Stb (fun W => RCt W (.agg #[.slice A_p p.store.cells.length n_p, .slice B_p p.store.roots.length m_p, .slice C_p p.counts.length k_p]) p ∧ Bx W w.heap.size [.slice A_p p.store.cells.length n_p, .slice B_p p.store.roots.length m_p, .slice C_p p.counts.length k_p] ∧ Bx W (w.heap.size + 1) [.int .i64 o.op, .int .i64 o.a, .int .i64 o.b, .int .i64 o.c] ∧ Bx W (w.heap.size + 2) [.slice none 0 0, .slice none 0 0, .slice none 0 0] ∧ w.heap.size + 3 ≤ W.heap.size ∧ Below w.heap.size w W)) (HI.step blw_) ?_
  clear c_p0 c_p1 c_p2 c_o0 c_o1 c_o2 c_o3 zz
  clear HI 
  rintro W HI
  (with_reducible refine (implCountedValid_any _ p _ HI.now.1).mono ?_); rw [hcv]; rintro e w2 ⟨rfl, hB⟩
  replace HI := HI.step hB
  clear hB
  have c_p0 := HI.now.2.1.c 0 _ rfl
  have c_p1 := HI.now.2.1.c 1 _ rfl
  have c_p2 := HI.now.2.1.c 2 _ rfl
  have c_o0 := HI.now.2.2.1.c 0 _ rfl
  have c_o1 := HI.now.2.2.1.c 1 _ rfl
  have c_o2 := HI.now.2.2.1.c 2 _ rfl
  have c_o3 := HI.now.2.2.1.c 3 _ rfl
  have zz := HI.now.2.2.2.2.1
  go_wp2_with fail
  refine Calls.gen (Stb (fun W => RCt W (.agg #[.slice A_p p.store.cells.length n_p, .slice B_p p.store.roots.length m_p, .slice C_p p.counts.length k_p]) p ∧ Bx W w.heap.size [.slice A_p p.store.cells.length n_p, .slice B_p p.store.roots.length m_p, .slice C_p p.counts.length k_p] ∧ Bx W (w.heap.size + 1) [.int .i64 o.op, .int .i64 o.a, .int .i64 o.b, .int .i64 o.c] ∧ Bx W (w.heap.size + 2) [.slice none 0 0, .slice none 0 0, .slice none 0 0] ∧ w.heap.size + 3 ≤ W.heap.size ∧ Below w.heap.size w W)) (HI.step blw_) ?_
  clear c_p0 c_p1 c_p2 c_o0 c_o1 c_o2 c_o3 zz
  clear HI 
  rintro W HI
  (with_reducible refine (implCommandValid_any o _).mono ?_); rw [hco]; rintro e w2 ⟨rfl, hB⟩
  replace HI := HI.step hB
  clear hB
  have c_p0 := HI.now.2.1.c 0 _ rfl
  have c_p1 := HI.now.2.1.c 1 _ rfl
  have c_p2 := HI.now.2.1.c 2 _ rfl
  have c_o0 := HI.now.2.2.1.c 0 _ rfl
  have c_o1 := HI.now.2.2.1.c 1 _ rfl
  have c_o2 := HI.now.2.2.1.c 2 _ rfl
  have c_o3 := HI.now.2.2.1.c 3 _ rfl
  have zz := HI.now.2.2.2.2.1
  go_wp2_with fail
  refine Calls.gen (Stb (fun W => RCt W (.agg #[.slice A_p p.store.cells.length n_p, .slice B_p p.store.roots.length m_p, .slice C_p p.counts.length k_p]) p ∧ Bx W w.heap.size [.slice A_p p.store.cells.length n_p, .slice B_p p.store.roots.length m_p, .slice C_p p.counts.length k_p] ∧ Bx W (w.heap.size + 1) [.int .i64 o.op, .int .i64 o.a, .int .i64 o.b, .int .i64 o.c] ∧ Bx W (w.heap.size + 2) [.slice none 0 0, .slice none 0 0, .slice none 0 0] ∧ w.heap.size + 3 ≤ W.heap.size ∧ Below w.heap.size w W)) (HI.step blw_) ?_
  clear c_p0 c_p1 c_p2 c_o0 c_o1 c_o2 c_o3 zz
  clear HI 
  rintro W HI
  (with_reducible refine (canStep_any _ p.store o _ (HI.now.1).st HV.out.1 hco).mono ?_); rw [hcf]; rintro e w2 ⟨rfl, hB⟩
  replace HI := HI.step hB
  clear hB
  have HX3 : Hid (validM (execM p.store o (freeAt p.store.cells)) = true) := canF_exec HV.out.1 hco hcf
  have HPS : Hid (possO p.store o = true) := canF_poss hcf
  have HCO := Lib.hid hco
  clear hcv hcf hco
  go_upto_region 5 with fail
  refine Code.gen (Stb (fun W => RCt W (.agg #[.slice A_p p.store.cells.length n_p, .slice B_p p.store.roots.length m_p, .slice C_p p.counts.length k_p]) p ∧ Bx W w.heap.size [.slice A_p p.store.cells.length n_p, .slice B_p p.store.roots.length m_p, .slice C_p p.counts.length k_p] ∧ Bx W (w.heap.size + 1) [.int .i64 o.op, .int .i64 o.a, .int .i64 o.b, .int .i64 o.c] ∧ Bx W (w.heap.size + 2) [.slice none 0 0, .slice none 0 0, .slice none 0 0] ∧ w.heap.size + 3 ≤ W.heap.size ∧ Below w.heap.size w W)) (HI.step blw_) ?_
  clear HI 
  rintro W HI
  refine wp_region_R (by kernel_rfl) (fun R wd hR hwd => ?_)
  have hBd : Below W.heap.size W wd := by rw [hwd]; exact blw_
  replace HI := HI.step hBd
  clear hwd hBd
  refine rel_at (fr := ?fr_0) hR (fun f W => Stb (fun W => RCt W (.agg #[.slice A_p p.store.cells.length n_p, .slice B_p p.store.roots.length m_p, .slice C_p p.counts.length k_p]) p ∧ Bx W w.heap.size [.slice A_p p.store.cells.length n_p, .slice B_p p.store.roots.length m_p, .slice C_p p.counts.length k_p] ∧ Bx W (w.heap.size + 1) [.int .i64 o.op, .int .i64 o.a, .int .i64 o.b, .int .i64 o.c] ∧ Bx W (w.heap.size + 2) [.slice none 0 0, .slice none 0 0, .slice none 0 0] ∧ w.heap.size + 3 ≤ W.heap.size ∧ Below w.heap.size w W) W) [(fun v W => v = .pointer (some ⟨w.heap.size, 0, none⟩)), (fun v W => v = .agg #[.slice A_p p.store.cells.length n_p, .slice B_p p.store.roots.length m_p]), (fun v W => v = .agg #[.int .i64 o.op, .int .i64 o.a, .int .i64 o.b, .int .i64 o.c]), (fun v W => v = .pointer (some ⟨w.heap.size, 0, none⟩)), (fun v W => v = .agg #[.slice A_p p.store.cells.length n_p, .slice B_p p.store.roots.length m_p]), (fun v W => v = .int .i64 (freeAt p.store.cells)), (fun v W => ∃ u : Value, v = u ∧ OH (w.heap.size + 3) W u (execM p.store o (freeAt p.store.cells))), tt, tt, tt] (fun W W' => Below W.heap.size W W') [(0, []), (1, [0]), (2, []), (3, []), (4, [3]), (5, [4, 3]), (6, [1, 0, 2, 5, 4, 3]), (7, [0, 1, 2, 3, 4, 5, 6]), (8, [0, 1, 2, 3, 4, 5, 6]), (9, [0, 1, 2, 3, 4, 5, 6])] [(22, 0), (23, 1), (24, 2), (25, 3), (26, 4), (27, 5), (28, 6)] [0, 1, 2, 3, 4, 5, 6] #[true, true, true, true, true, true, true, false, false, false] 10 3 (by kernel_rfl) (by kernel_rfl) ?hfr_0 ?h0_0 ?mono_0 ?steps_0 ?_
  case hfr_0 => intro x; (simp [frOf, fill, Act.put, List.lookup]; with_reducible rfl)
  case h0_0 => exact HI
  case mono_0 => exact (Pm.cons (fun _ _ _ _ h => h) (Pm.cons (fun _ _ _ _ h => h) (Pm.cons (fun _ _ _ _ h => h) (Pm.cons (fun _ _ _ _ h => h) (Pm.cons (fun _ _ _ _ h => h) (Pm.cons (fun _ _ _ _ h => h) (Pm.cons (fun _ _ _ hG ⟨u, e, h⟩ => ⟨u, e, h.below hG⟩) (Pm.cons (fun _ _ _ _ h => h) (Pm.cons (fun _ _ _ _ h => h) (Pm.cons (fun _ _ _ _ h => h) Pm.nil))))))))))
  case steps_0 =>
    refine Steps.cons (RStep.of rfl fun x W f hI hD K9 hK => ?_) ?_
    · clear hD
      go_simp
      exact hK (.pointer (some ⟨w.heap.size, 0, none⟩)) _ _ (by kernel_rfl) (Below.refl _ _) (hI) rfl
    refine Steps.cons (RStep.of rfl fun x W f hI hD K9 hK => ?_) ?_
    · have e0 : x 0 = .pointer (some ⟨w.heap.size, 0, none⟩) := hD 0 (by decide)
      clear hD
      have c0 := hI.now.2.1.c 0 _ rfl
      have c1 := hI.now.2.1.c 1 _ rfl
      simp only [e0] at hK ⊢
      go_simp
      exact hK (.agg #[.slice A_p p.store.cells.length n_p, .slice B_p p.store.roots.length m_p]) _ _ (by kernel_rfl) (Below.refl _ _) (hI) rfl
    refine Steps.cons (RStep.of rfl fun x W f hI hD K9 hK => ?_) ?_
    · clear hD
      have c0 := hI.now.2.2.1.c 0 _ rfl
      have c1 := hI.now.2.2.1.c 1 _ rfl
      have c2 := hI.now.2.2.1.c 2 _ rfl
      have c3 := hI.now.2.2.1.c 3 _ rfl
      go_simp
      exact hK (.agg #[.int .i64 o.op, .int .i64 o.a, .int .i64 o.b, .int .i64 o.c]) _ _ (by kernel_rfl) (Below.refl _ _) (hI) rfl
    refine Steps.cons (RStep.of rfl fun x W f hI hD K9 hK => ?_) ?_
    · clear hD
      go_simp
      exact hK (.pointer (some ⟨w.heap.size, 0, none⟩)) _ _ (by kernel_rfl) (Below.refl _ _) (hI) rfl
    refine Steps.cons (RStep.of rfl fun x W f hI hD K9 hK => ?_) ?_
    · have e3 : x 3 = .pointer (some ⟨w.heap.size, 0, none⟩) := hD 3 (by decide)
      clear hD
      have c0 := hI.now.2.1.c 0 _ rfl
      have c1 := hI.now.2.1.c 1 _ rfl
      simp only [e3] at hK ⊢
      go_simp
      exact hK (.agg #[.slice A_p p.store.cells.length n_p, .slice B_p p.store.roots.length m_p]) _ _ (by kernel_rfl) (Below.refl _ _) (hI) rfl
    refine Steps.cons (RStep.of rfl fun x W f hI hD K9 hK => ?_) ?_
    · have e4 : x 4 = .agg #[.slice A_p p.store.cells.length n_p, .slice B_p p.store.roots.length m_p] := hD 4 (by decide)
      clear hD
      simp only [e4] at hK ⊢
      go_wp2_with fail
      (with_reducible refine (freePlace_any _ p.store _ (hI.now.1).st (by have := (valid_small HV.out.1).1; omega)).mono ?_)
      rintro e w6 ⟨rfl, hB⟩
      exact hK _ _ _ (by kernel_rfl) hB (hI.step hB) rfl
    refine Steps.cons (RStep.of rfl fun x W f hI hD K9 hK => ?_) ?_
    · have e1 : x 1 = .agg #[.slice A_p p.store.cells.length n_p, .slice B_p p.store.roots.length m_p] := hD 1 (by decide)
      have e2 : x 2 = .agg #[.int .i64 o.op, .int .i64 o.a, .int .i64 o.b, .int .i64 o.c] := hD 2 (by decide)
      have e5 : x 5 = .int .i64 (freeAt p.store.cells) := hD 5 (by decide)
      clear hD
      simp only [e1, e2, e5] at hK ⊢
      go_wp2_with fail
      (with_reducible refine (execute_any _ p.store o (freeAt p.store.cells) _ (hI.now.1).st HV.out.1 HCO.out HPS.out (freeAt_le _)).mono ?_)
      rintro e w6 ⟨v6, rfl, oH, hB⟩
      exact hK v6 _ _ (by kernel_rfl) hB (hI.step hB) ⟨v6, rfl, oH.lo_ hI.now.2.2.2.2.1⟩
    exact Steps.nil
  intro x W hI hV
  have e0 : x 0 = .pointer (some ⟨w.heap.size, 0, none⟩) := hV 0 (by decide)
  have e1 : x 1 = .agg #[.slice A_p p.store.cells.length n_p, .slice B_p p.store.roots.length m_p] := hV 1 (by decide)
  have e2 : x 2 = .agg #[.int .i64 o.op, .int .i64 o.a, .int .i64 o.b, .int .i64 o.c] := hV 2 (by decide)
  have e3 : x 3 = .pointer (some ⟨w.heap.size, 0, none⟩) := hV 3 (by decide)
  have e4 : x 4 = .agg #[.slice A_p p.store.cells.length n_p, .slice B_p p.store.roots.length m_p] := hV 4 (by decide)
  have e5 : x 5 = .int .i64 (freeAt p.store.cells) := hV 5 (by decide)
  have h6 : (fun v W => ∃ u : Value, v = u ∧ OH (w.heap.size + 3) W u (execM p.store o (freeAt p.store.cells))) (x 6) W := hV 6 (by decide)
  clear hV
  simp only [e0, e1, e2, e3, e4, e5]
  obtain ⟨u6, e6, h6⟩ := h6
  simp only [e6]
  rw [hR]
  refine wpAny_ready (rs := [7]) (by kernel_rfl) (by simp) ?_
  refine AllReady.cons rfl (fun K9 hK9 => ?_) AllReady.nil
  go_wp2_with fail
  (with_reducible refine (freeUncounted_any (w.heap.size + 3) _ _ _ h6 HX3.out hI.now.2.2.2.2.1).mono ?_); rintro e w6 ⟨v7, rfl, hO7, hB7⟩
  refine hK9 _ _ ?_
  clear hK9
  obtain ⟨E, a1, E', a2, E2, a3, e7_⟩ := hO7.rc.parts
  subst e7_
  have HB : Below w.heap.size w w6 := (hI.now.2.2.2.2.2).trans (hB7.mono (by omega))
  have zz := Nat.le_trans hI.now.2.2.2.2.1 hB7.size
  have c_r0 := (hB7.cell (p := ⟨w.heap.size + 2, 0, none⟩) (Nat.lt_succ_self _)).trans (hI.now.2.2.2.1.c 0 _ rfl)
  have c_r1 := (hB7.cell (p := ⟨w.heap.size + 2, 1, none⟩) (Nat.lt_succ_self _)).trans (hI.now.2.2.2.1.c 1 _ rfl)
  have c_r2 := (hB7.cell (p := ⟨w.heap.size + 2, 2, none⟩) (Nat.lt_succ_self _)).trans (hI.now.2.2.2.1.c 2 _ rfl)
  have f_r0 := (World.frozen?_of_block (a := ⟨w.heap.size + 2, 0, none⟩) (hB7.block (w.heap.size + 2) (Nat.lt_succ_self _))).trans (hI.now.2.2.2.1.f 0)
  have f_r1 := (World.frozen?_of_block (a := ⟨w.heap.size + 2, 1, none⟩) (hB7.block (w.heap.size + 2) (Nat.lt_succ_self _))).trans (hI.now.2.2.2.1.f 1)
  have f_r2 := (World.frozen?_of_block (a := ⟨w.heap.size + 2, 2, none⟩) (hB7.block (w.heap.size + 2) (Nat.lt_succ_self _))).trans (hI.now.2.2.2.1.f 2)
  refine wpAny_ready (rs := [8]) (by kernel_rfl) (by simp) ?_
  refine AllReady.cons rfl (fun K9 hK9 => ?_) AllReady.nil
  go_simp
  refine hK9 _ _ ?_
  clear hK9
  refine wpAny_ready (rs := [9]) (by kernel_rfl) (by simp) ?_
  refine AllReady.cons rfl (fun K9 hK9 => ?_) AllReady.nil
  go_simp
  refine hK9 _ _ ?_
  clear hK9
  refine wpAny_done (by kernel_rfl) ?_ _
  clear hR
  clear hI
  go_wp2_with fail
  refine bodyPost_ret (v := .tuple #[.agg #[.slice E (countDo p o).store.cells.length a1, .slice E' (countDo p o).store.roots.length a2, .slice E2 (countDo p o).counts.length a3], .bool true]) (by simp [results, Try.results7, go_sem, c_r0, c_r1, c_r2, countDo]) rfl ⟨_, by rw [HX.out], by rw [HX.out]; exact (((hO7.set_lt (by simp) _).set_lt (by simp) _).set_lt (by simp) _).lo_ (by omega), blw_⟩
end Go.Proofs.Ytkikeanpbffpkaa

/- Running with counts: plain facts, and memory of the call's own put together. -/
namespace Go.Proofs.Ytkikeanpbffpkaa
open Go.RowKit
set_option linter.unusedVariables false
set_option linter.unusedSimpArgs false
noncomputable def runCountN (l : List CmdM) (k : Nat) : CountM := (l.take k).foldl (fun p o => (stepCountM p o).1) emptyC
theorem runCountN_succ {l : List CmdM} {k : Nat} {x : CmdM} (h : l[k]? = some x) : runCountN l (k + 1) = (stepCountM (runCountN l k) x).1 := by
  unfold runCountN
  rw [List.take_add_one, h]
  simp [List.foldl_append]
theorem runCountN_all {l : List CmdM} (h : cmdsOk l = true) : runCountM l = runCountN l l.length := by
  unfold runCountN runCountM
  rw [if_pos h, List.take_length]
theorem runCountM_bad {l : List CmdM} (h : cmdsOk l = false) : runCountM l = zeroC := by unfold runCountM; rw [h]; rfl
theorem Bx.set3 {W : World} {b : Nat} {u0 u1 u2 : Value} (h : Bx W b [u0, u1, u2]) (v0 v1 v2 : Value) : Bx (((W.setCell ⟨b, 0, none⟩ v0).setCell ⟨b, 1, none⟩ v1).setCell ⟨b, 2, none⟩ v2) b [v0, v1, v2] := by
  have s0 := h.c 0 _ rfl
  have s1 := h.c 1 _ rfl
  have s2 := h.c 2 _ rfl
  exact ⟨fun j v hj => by
    match j, hj with
    | 0, hj => simp at hj; subst hj; simp [go_sem, s0, s1, s2]
    | 1, hj => simp at hj; subst hj; simp [go_sem, s0, s1, s2]
    | 2, hj => simp at hj; subst hj; simp [go_sem, s0, s1, s2], fun o => by simp [go_sem, h.f], by simpa using h.lt⟩
theorem OCt.mk_ {lo : Nat} {w : World} {A A' S : Option Addr} {c c' k : Nat} {os : List OCell} {p : CountM} (hm : os.map (·.c) = p.store.cells) (ho : OHs w A c A' c' os p.store.roots) (hl : ∀ g ∈ hblks A os A', lo ≤ g)
    (hS : OF 3 fi w S k p.counts) (hA : ∀ g ∈ blk S, lo ≤ g ∧ g ∉ hblks A os A') : OCt lo w (.agg #[.slice A p.store.cells.length c, .slice A' p.store.roots.length c', .slice S p.counts.length k]) p := by
  refine ⟨A, c, A', c', os, S, k, rfl, hm, ho, hS, ?_, ?_, ?_⟩
  · rw [List.nodup_append]
    exact ⟨ho.nodup, blk_nodup _, fun a ha b hb e => by subst e; exact (hA a hb).2 ha⟩
  · intro g hg
    rcases List.mem_append.1 hg with hg | hg
    · exact hl g hg
    · exact (hA g hg).1
  · rcases hS.2 with ⟨-, h0⟩ | ⟨g, cap, cur, -, -, -, h1, h2, -⟩
    · omega
    · simp only [maxLen] at h2; omega
/-- A box of a counted heap, and that value. -/
structure CB (lo b : Nat) (W : World) (q : CountM) (D : Option Addr) (e : Nat) (D' : Option Addr) (e' : Nat) (D2 : Option Addr) (e2 : Nat) : Prop where
  bx : Bx W b [.slice D q.store.cells.length e, .slice D' q.store.roots.length e', .slice D2 q.counts.length e2]
  oc : OCt lo W (.agg #[.slice D q.store.cells.length e, .slice D' q.store.roots.length e', .slice D2 q.counts.length e2]) q
theorem CB.below {lo b : Nat} {W W' : World} {q : CountM} {D D' D2 : Option Addr} {e e' e2 : Nat} (h : CB lo b W q D e D' e' D2 e2) (hB : Below W.heap.size W W') : CB lo b W' q D e D' e' D2 e2 := ⟨h.bx.below hB, h.oc.below hB⟩
/-- A new value is stored into the box. -/
theorem CB.store {lo lo5 b : Nat} {w5 : World} {u0 u1 u2 : Value} {q : CountM} {D D' D2 : Option Addr} {e e' e2 : Nat} (hb : Bx w5 b [u0, u1, u2]) (h : OCt lo5 w5 (.agg #[.slice D q.store.cells.length e, .slice D' q.store.roots.length e', .slice D2 q.counts.length e2]) q) (hl : b < lo5) (hl2 : lo ≤ lo5) :
    CB lo b (((w5.setCell ⟨b, 0, none⟩ (.slice D q.store.cells.length e)).setCell ⟨b, 1, none⟩ (.slice D' q.store.roots.length e')).setCell ⟨b, 2, none⟩ (.slice D2 q.counts.length e2)) q D e D' e' D2 e2 :=
  ⟨hb.set3 _ _ _, (((h.set_lt (a := ⟨b, 0, none⟩) hl _).set_lt (a := ⟨b, 1, none⟩) hl _).set_lt (a := ⟨b, 2, none⟩) hl _).lo_ hl2⟩
end Go.Proofs.Ytkikeanpbffpkaa

/- impl.RunCounted. -/
namespace Go.Proofs.Ytkikeanpbffpkaa
open Go.RowKit
set_option maxRecDepth 100000
set_option linter.unusedSimpArgs false
set_option linter.unusedVariables false
set_option maxHeartbeats 8000000 in
theorem implRunCounted_any (A : Option Addr) (l : List CmdM) (c : Nat) (w : World) (hv0 : RO w A l) (hl : l.length ≤ 9223372036854775807) :
    Calls Try.prog 15 #[.slice A l.length c] w fun e w' => ∃ v', e = .returned v' ∧ OCt w.heap.size w' v' (runCountM l) ∧ Below w.heap.size w w' := by
  have hv := hv0
  rcases bool_ft (cmdsOk l) with hok | hok
  · have HE := Lib.hid (runCountM_bad hok)
    go_enter Try.func15, Try.ntmps15; go_wp2_with fail; refine Calls.gen (fun W => Bx W w.heap.size [.slice none 0 0, .slice none 0 0, .slice none 0 0] ∧ Below w.heap.size w W ∧ RO W A l) ⟨Bx.new w [.slice none 0 0, .slice none 0 0, .slice none 0 0] 28, blw_, hv.below blw_⟩ ?_; clear hv; rintro W0 ⟨X2, HB, hv⟩; (with_reducible refine (implCommandsValid_any A l c _ hv hl).mono ?_); rw [hok]; rintro e w1 ⟨rfl, hB⟩; have X2 := X2.below hB; have HB := HB.trans (hB.mono HB.size); have hv := hv.below hB; clear hB
    have r0 := X2.c 0 _ rfl
    have r1 := X2.c 1 _ rfl
    have r2 := X2.c 2 _ rfl
    have f0 := X2.f 0
    have f1 := X2.f 1
    have f2 := X2.f 2
    go_wp2_with fail
    refine bodyPost_ret (v := .agg #[.slice none 0 0, .slice none 0 0, .slice none 0 0]) (by simp [results, Try.results15, go_sem, r0, r1, r2]) rfl ⟨_, rfl, by rw [HE.out]; exact OCt.zero, blw_⟩
  have HE := Lib.hid (runCountN_all hok)
  have hl40 : l.length ≤ 40 := by unfold cmdsOk at hok; simp only [Bool.and_eq_true, decide_eq_true_eq] at hok; exact hok.1
  go_enter Try.func15, Try.ntmps15; go_wp2_with fail; refine Calls.gen (fun W => Bx W w.heap.size [.slice none 0 0, .slice none 0 0, .slice none 0 0] ∧ Below w.heap.size w W ∧ RO W A l) ⟨Bx.new w [.slice none 0 0, .slice none 0 0, .slice none 0 0] 28, blw_, hv.below blw_⟩ ?_; clear hv; rintro W0 ⟨X2, HB, hv⟩; (with_reducible refine (implCommandsValid_any A l c _ hv hl).mono ?_); rw [hok]; rintro e w1 ⟨rfl, hB⟩; have X2 := X2.below hB; have HB := HB.trans (hB.mono HB.size); have hv := hv.below hB; clear hB
  clear hok
  have hx1 := X2.lt
  have hok2 : validM emptyM = true ∧ ([] : List Int) = cntsM emptyM := countOk_iff.1 (show countOk emptyC = true by decide)
  have HOK2 := Lib.hid hok2
  clear hok2
  go_wp2_with fail
  (with_reducible refine (implEmptyHeap_any _).mono ?_)
  rintro e w2 ⟨v2, rfl, ⟨B, d, B', d', os, rfl, hm, hO, hlo⟩, hB2⟩
  have X2 := X2.below hB2
  have HB := HB.trans (hB2.mono HB.size)
  have hlo2 : ∀ g ∈ hblks B os B', w.heap.size + 1 ≤ g := fun g hg => by have := hlo g hg; have := X2.lt; have := hB2.size; omega
  have hx2 := X2.lt
  clear hlo hB2 hv
  go_wp2_with fail
  (with_reducible refine (counted_any B B' d d' emptyM _ (((hO.rhs hm).rh d d').below blw_) HOK2.out.1).mono ?_)
  rintro e w3 ⟨S, k, rfl, hS, hgS, hB3⟩
  have hlt := hO.lt
  have HC : Hid (CB (w.heap.size + 1) w3.heap.size (w3.alloc (.cells #[.slice B emptyM.cells.length d, .slice B' emptyM.roots.length d', .slice S emptyM.cells.length k] 28)) emptyC B d B' d' S k) :=
    ⟨Bx.new w3 [.slice B emptyM.cells.length d, .slice B' emptyM.roots.length d', .slice S emptyM.cells.length k] _, (OCt.mk_ (p := emptyC) hm (hO.below hB3) hlo2 (show OF 3 fi w3 S k [] by rw [HOK2.out.2]; exact hS) (fun g hg => ⟨by have := hgS g hg; omega, fun hc => by have := hgS g hg; have := hlt g hc; omega⟩)).below blw_⟩
  have X2 := X2.below hB3
  have HB := HB.trans (hB3.mono HB.size)
  have hx3 := X2.lt
  clear hm hO hlo2 hlt hS hgS hB3 HOK2
  go_upto_region 4 with fail
  refine Code.gen (fun W => CB (w.heap.size + 1) w3.heap.size W emptyC B d B' d' S k ∧ Bx W w.heap.size [.slice none 0 0, .slice none 0 0, .slice none 0 0] ∧ Below w.heap.size w W) ⟨HC.out.below blw_, X2.below blw_, blw_⟩ ?_
  clear HC X2 HB
  have hx4 : w.heap.size + 1 ≤ w3.heap.size := hx3
  generalize w3.heap.size = b3 at hx4 ⊢
  clear hx3 hx2
  rintro W ⟨HC, X2, HB⟩
  go_wp2
  go_loopw [14] (fun i wr => ∃ (k : Nat) (q : CountM) (D : Option Addr) (e : Nat) (D' : Option Addr) (e' : Nat) (D2 : Option Addr) (e2 : Nat), k ≤ l.length ∧ i = .int .i64 k ∧ Hid (q = runCountN l k) ∧ CB (w.heap.size + 1) b3 wr q D e D' e' D2 e2 ∧ Bx wr w.heap.size [.slice none 0 0, .slice none 0 0, .slice none 0 0] ∧ Below w.heap.size w wr) (fun i _ => l.length - (intOf i).toNat)
  case atStart => exact ⟨0, emptyC, B, d, B', d', S, k, by omega, rfl, rfl, HC, X2, HB⟩
  case round =>
    clear HC X2 HB
    obtain ⟨k, q, D, e, D', e', D2, e2, hk, rfl, HR, HC, X2, HB⟩ := hrel
    have q0 := HC.bx.c 0 _ rfl
    have q1 := HC.bx.c 1 _ rfl
    have q2 := HC.bx.c 2 _ rfl
    have hqz := HC.bx.lt
    have hoc := HC.oc.rc
    have hbx := HC.bx
    by_cases hlt : k < l.length
    · obtain ⟨b, o, x, rfl, gx, c1, c2, c3, c4, hb⟩ := (hv0.below HB).at_ hlt
      have HN := Lib.hid (runCountN_succ gx)
      have hlt' : (k : Int) < (l.length : Int) := by omega
      have sB := HB.size
      clear gx HC
      go_wp2_with fail
      (with_reducible refine (implStepCounted_any _ q x _ (hoc.below blw_)).mono ?_)
      rintro e5 w5 ⟨v5, rfl, hO5, hB5⟩
      obtain ⟨E, a1, E', a2, E2, a3, e5_⟩ := hO5.rc.parts
      subst e5_
      have Y5 : Below wr.heap.size wr w5 := blw_
      have B5 := hbx.below Y5
      have x0 := B5.c 0 _ rfl
      have x1 := B5.c 1 _ rfl
      have x2 := B5.c 2 _ rfl
      have xf0 := B5.f 0
      have xf1 := B5.f 1
      have xf2 := B5.f 2
      (try simp only [World.size_alloc, World.size_setCell, World.size_drew, World.heap_drewN] at hO5)
      have HC5 := Lib.hid (CB.store (lo := w.heap.size + 1) B5 hO5 (by omega) (by omega))
      have X5 := X2.below Y5
      have hw5 : Below w.heap.size w w5 := HB.trans (Y5.mono sB)
      have HB6 : Hid (Below w.heap.size w (((w5.setCell ⟨b3, 0, none⟩ (.slice E (stepCountM q x).1.store.cells.length a1)).setCell ⟨b3, 1, none⟩ (.slice E' (stepCountM q x).1.store.roots.length a2)).setCell ⟨b3, 2, none⟩ (.slice E2 (stepCountM q x).1.counts.length a3))) := ((hw5.setCell (p := ⟨b3, 0, none⟩) (show w.heap.size ≤ b3 by omega) _).setCell (p := ⟨b3, 1, none⟩) (show w.heap.size ≤ b3 by omega) _).setCell (p := ⟨b3, 2, none⟩) (show w.heap.size ≤ b3 by omega) _
      have hn3 : w.heap.size ≠ b3 := by omega
      have HX6 : Hid (Bx (((w5.setCell ⟨b3, 0, none⟩ (.slice E (stepCountM q x).1.store.cells.length a1)).setCell ⟨b3, 1, none⟩ (.slice E' (stepCountM q x).1.store.roots.length a2)).setCell ⟨b3, 2, none⟩ (.slice E2 (stepCountM q x).1.counts.length a3)) w.heap.size [.slice none 0 0, .slice none 0 0, .slice none 0 0]) := ((X5.other hn3 _ _).other hn3 _ _).other hn3 _ _
      have HN5 : Hid ((stepCountM q x).1 = runCountN l (k + 1)) := by unfold Hid; rw [HN.out, ← HR.out]
      clear hO5 hB5 Y5 B5 X5 hw5 hoc hbx X2 HB HR HN
      go_wp2
      go_roundw
      case rel => exact ⟨k + 1, (stepCountM q x).1, E, a1, E', a2, E2, a3, by omega, by go_num, HN5, HC5.out, HX6.out, HB6.out⟩
      case measure => simp [intOf]; omega
    · have hke : k = l.length := by omega
      have hge : ¬ (k : Int) < (l.length : Int) := by omega
      have HM : Hid (runCountM l = q) := by unfold Hid; rw [HE.out, HR.out, hke]
      have r0 := X2.c 0 _ rfl
      have r1 := X2.c 1 _ rfl
      have r2 := X2.c 2 _ rfl
      have f0 := X2.f 0
      have f1 := X2.f 1
      have f2 := X2.f 2
      have HO := Lib.hid HC.oc
      clear hke HR hoc hbx HC
      go_wp2_with fail
      refine bodyPost_ret (v := .agg #[.slice D q.store.cells.length e, .slice D' q.store.roots.length e', .slice D2 q.counts.length e2]) (by simp [results, Try.results15, go_sem, r0, r1, r2]) rfl ⟨_, rfl, ?_, blw_⟩
      rw [HM.out]
      exact (((HO.out.set_lt (by simp) _).set_lt (by simp) _).set_lt (by simp) _).lo_ (by omega)
end Go.Proofs.Ytkikeanpbffpkaa
