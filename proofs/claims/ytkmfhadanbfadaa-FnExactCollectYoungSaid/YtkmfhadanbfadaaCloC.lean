/- closure, reachable and Reachable of the program. -/
import Derived.Test.YtkmfhadanbfadaaChecked
import Derived.Deep.LoopGhost
import Derived.Deep.RegionHeld3
import Derived.Test.YtkmfhadanbfadaaClo
import Derived.Test.YtkmfhadanbfadaaCloL
namespace Go.Proofs.Ytkmfhadanbfadaa
open Go.RowKit
set_option maxRecDepth 100000
set_option linter.unusedSimpArgs false
set_option linter.unusedVariables false
theorem OF.new1 {α : Type} {T : TypeId} {f : α → Value} {w : World} {q : Nat} (h : w.heap[q]? = some (.cells #[] T (0, 0))) : OF T f w (some ⟨q, 0, none⟩) 0 ([] : List α) :=
  ⟨by simp, .inr ⟨q, 0, #[], rfl, Nat.zero_le _, h, by simp, by simp, by simp, by simp⟩⟩
theorem hasB_64 {s : Nat} (hs : s < 18446744073709551616) {r : Int} (h : hasB s r = true) : r.toNat < 64 := by
  unfold hasB at h
  simp at h
  rcases Nat.lt_or_ge r.toNat 64 with h1 | h1
  · exact h1
  · have h2 : s < 2 ^ r.toNat := Nat.lt_of_lt_of_le hs (by show 2 ^ 64 ≤ _; exact Nat.pow_le_pow_right (by omega) h1)
    rw [Nat.testBit_lt_two_pow h2] at h
    cases h.2
/-- The start of closure. -/
theorem clo_start {h : HeapM} {s : Nat} {fr : List Int} (hs : s < 18446744073709551616) {m : Nat} {wk : List Int} (e : (m, wk) = visNL s (0, []) fr) : CloI (refsAt h) (hasB s) fr m.testBit wk ∧ unmet 64 m.testBit + wk.length ≤ 64 := by
  have hv := visNL_vis s fr (0, [])
  rw [← e] at hv
  have e0 : (0 : Nat).testBit = fun _ => false := by funext k; simp
  simp only at hv
  rw [e0] at hv
  refine ⟨?_, ?_⟩
  · have := CloI.init (rf := refsAt h) (ok := hasB s) (fr := fr)
    rw [← hv] at this
    exact this
  · have h1 := visL_mu (ok := hasB s) (n := 64) fr (fun _ => false, []) (fun r _ h => hasB_64 hs h)
    rw [← hv] at h1
    have h2 := unmet_le 64 (fun _ => false)
    simp only [List.length_nil] at h1
    omega
/-- A round: the last number is taken out. -/
theorem clo_round {h : HeapM} {s : Nat} {fr : List Int} (hs : s < 18446744073709551616) {m m' : Nat} {us wk' : List Int} {r : Int} (hC : CloI (refsAt h) (hasB s) fr m.testBit (us ++ [r])) (e : (m', wk') = visNL s (m, us) (refsAt h r.toNat)) :
    CloI (refsAt h) (hasB s) fr m'.testBit wk' ∧ unmet 64 m'.testBit + wk'.length < unmet 64 m.testBit + (us ++ [r]).length := by
  have hv := visNL_vis s (refsAt h r.toNat) (m, us)
  rw [← e] at hv
  simp only at hv
  refine ⟨?_, ?_⟩
  · have hst := hC.step (wk' := us) (r := r) (fun x hx => by rcases List.mem_append.1 hx with h1 | h1; exact .inr h1; exact .inl (List.mem_singleton.1 h1)) (fun x hx => List.mem_append_left _ hx) (by simp)
    rw [← hv] at hst
    exact hst
  · have h1 := visL_mu (ok := hasB s) (n := 64) (refsAt h r.toNat) (m.testBit, us) (fun r _ h => hasB_64 hs h)
    rw [← hv] at h1
    simp only [List.length_append, List.length_singleton] at h1 ⊢
    omega
theorem OF.init {α : Type} {T : TypeId} {f : α → Value} {w : World} {A : Option Addr} {c : Nat} {xs : List α} {x : α} (h : OF T f w A c (xs ++ [x])) : OF T f w A c xs := by
  rcases ownsRow_block h with ⟨_, h0, _⟩ | ⟨g, cur, rfl, hg, hnc, hc, hs, ht⟩
  · simp at h0
  · refine ⟨by simp, .inr ⟨g, c, cur, rfl, Nat.zero_le _, hg, ?_, hc, hs, ?_⟩⟩
    · have h2 : (xs ++ [x]).length = xs.length + 1 := by simp
      omega
    · have h1 : (cur.toList.take ((xs ++ [x]).length * 1)).take (xs.length * 1) = ((xs ++ [x]).map f).take (xs.length * 1) := by rw [ht]
      rw [List.take_take, Nat.min_eq_left (by simp)] at h1
      rw [h1]; simp
theorem visNL_lt {s : Nat} (rs : List Int) : ∀ {st : Nat × List Int}, st.1 < 18446744073709551616 → (∀ r ∈ rs, r < 64) → (visNL s st rs).1 < 18446744073709551616 := by
  induction rs with
  | nil => intro st h _; exact h
  | cons r rs ih => intro st h hr; exact ih (visN_lt h (hr r (by simp))) fun x hx => hr x (by simp [hx])
theorem OF.cap {α : Type} {T : TypeId} {f : α → Value} {w : World} {A : Option Addr} {c : Nat} {xs : List α} (h : OF T f w A c xs) : xs.length ≤ c := by
  rcases ownsRow_block h with ⟨_, h0, h1⟩ | ⟨g, cur, rfl, hg, hnc, hc, hs, ht⟩
  · omega
  · exact hnc
theorem ClSt.pop {lo : Nat} {w : World} {bw bm bk s m : Nat} {S : Option Addr} {cS : Nat} {us : List Int} {r : Int} (h : ClSt lo w bw bm bk s m S cS (us ++ [r])) : ClSt lo (w.setCell ⟨bk, 0, none⟩ (.slice S us.length cS)) bw bm bk s m S cS us :=
  h.setK (Only.refl _ _) h.own.init rfl fun g hg => .inl hg
set_option maxHeartbeats 4000000 in
theorem closure_any (v : Value) (h : HeapM) (Ar : Option Addr) (fr : List Int) (cr s : Nat) (w : World) (hv : RH w v h) (hr : RF fi w Ar fr) (hs : s < 18446744073709551616) (hsc : ∀ r, hasB s r = true → r < h.cells.length)
    (hlt : ∀ c ∈ h.cells, ∀ r ∈ c.refs, r < 64) (hrl2 : ∀ c ∈ h.cells, c.refs.length ≤ 1048576) (hrl : fr.length ≤ 1048576) (hrt : ∀ r ∈ fr, r < 64) :
    Calls Try.prog 142 #[v, .slice Ar fr.length cr, .int .u64 (s : Int)] w fun e w' => ∃ m : Nat, e = .returned (.int .u64 (m : Int)) ∧ m < 18446744073709551616 ∧ (∀ k, m.testBit k = true ↔ Rch (refsAt h) (hasB s) fr k) ∧ Below w.heap.size w w' := by
  obtain ⟨A, c, A', c', rfl, hc, -, hl1, hl2⟩ := hv
  have HC := Lib.hid hc
  have HR := Lib.hid hr
  have HSC := Lib.hid hsc
  have HLT := Lib.hid hlt
  have HRL := Lib.hid hrl2
  have HRT := Lib.hid hrt
  clear hc hr hsc hlt hrl2 hrt
  have hS0 : ClSt (w.heap.size + 1) ((((((w.alloc (.cells #[.slice A h.cells.length c, .slice A' h.roots.length c'] 32)).alloc (.cells #[.int .u64 (s : Int)] 146)).alloc (.cells #[.int .u64 0] 146)).alloc (.cells #[] 3)).alloc (.cells #[.slice (some ⟨w.heap.size + 1 + 1 + 1, 0, none⟩) 0 0] 23))) (w.heap.size + 1) (w.heap.size + 1 + 1) (w.heap.size + 1 + 1 + 1 + 1) s 0 (some ⟨w.heap.size + 1 + 1 + 1, 0, none⟩) 0 [] :=
    ⟨by simp [go_sem], by simp [go_sem], by simp [go_sem], by simp [go_sem], by simp [go_sem], OF.new1 (by rw [Below.heap_alloc _ _ _ (by first | omega | (simp; done) | (simp; omega))]; exact heap_alloc_at _ _ _ (by simp)), by omega, by omega, by omega, by simp [blk], by simp [blk], by simp [blk], by omega, by omega, by omega, fun b hb => by have := mem_blk_some hb; omega⟩
  have hX0 : Below w.heap.size w ((((((w.alloc (.cells #[.slice A h.cells.length c, .slice A' h.roots.length c'] 32)).alloc (.cells #[.int .u64 (s : Int)] 146)).alloc (.cells #[.int .u64 0] 146)).alloc (.cells #[] 3)).alloc (.cells #[.slice (some ⟨w.heap.size + 1 + 1 + 1, 0, none⟩) 0 0] 23))) := (by repeat (first | ((with_reducible refine Below.setc ?_ ?_ _); focus (first | omega | (simp; done) | (simp; omega))) | ((with_reducible refine Below.allocc ?_ ?_ _); focus (first | omega | (simp; done) | (simp; omega))) | (with_reducible refine Below.drew ?_) | (with_reducible refine Below.drewn ?_) | (with_reducible assumption) | (with_reducible exact Below.refl _ _) | ((with_reducible refine Below.stepp (by with_reducible assumption) ?_ ?_); focus (first | omega | (simp; done) | (simp; omega)))))
  have kb0 : ((((((w.alloc (.cells #[.slice A h.cells.length c, .slice A' h.roots.length c'] 32)).alloc (.cells #[.int .u64 (s : Int)] 146)).alloc (.cells #[.int .u64 0] 146)).alloc (.cells #[] 3)).alloc (.cells #[.slice (some ⟨w.heap.size + 1 + 1 + 1, 0, none⟩) 0 0] 23))).cell? ⟨w.heap.size, 0, none⟩ = some (.slice A h.cells.length c) := by simp [go_sem]
  have hz0 : ((((((w.alloc (.cells #[.slice A h.cells.length c, .slice A' h.roots.length c'] 32)).alloc (.cells #[.int .u64 (s : Int)] 146)).alloc (.cells #[.int .u64 0] 146)).alloc (.cells #[] 3)).alloc (.cells #[.slice (some ⟨w.heap.size + 1 + 1 + 1, 0, none⟩) 0 0] 23))).heap.size = w.heap.size + 5 := by simp
  go_enter Try.func142, Try.ntmps142
  go_wp2_with fail
  generalize ((((((w.alloc (.cells #[.slice A h.cells.length c, .slice A' h.roots.length c'] 32)).alloc (.cells #[.int .u64 (s : Int)] 146)).alloc (.cells #[.int .u64 0] 146)).alloc (.cells #[] 3)).alloc (.cells #[.slice (some ⟨w.heap.size + 1 + 1 + 1, 0, none⟩) 0 0] 23))) = W0 at *
  (with_reducible refine (visit_any (w.heap.size + 1) Ar fr cr (w.heap.size + 1) (w.heap.size + 1 + 1) (w.heap.size + 1 + 1 + 1 + 1) s 0 (some ⟨w.heap.size + 1 + 1 + 1, 0, none⟩) 0 [] W0 hS0 (by omega) (fun W hW => HR.out.below (hX0.trans (hW.mono (Nat.le_succ _)))) hrl HRT.out (by simp) hs (by omega)).mono ?_)
  rintro e w1 ⟨rfl, ⟨S1, c1, hS1⟩, hB1⟩
  have hX1 : Below w.heap.size w w1 := hX0.trans (hB1.mono (Nat.le_succ _))
  have kb1 := (hB1.cell (p := ⟨w.heap.size, 0, none⟩) (Nat.lt_succ_self _)).trans kb0
  obtain ⟨m1, wk1, hmw⟩ : ∃ m1 wk1, (m1, wk1) = visNL s (0, []) fr := ⟨_, _, rfl⟩
  have hst := clo_start (h := h) hs hmw
  rw [← hmw] at hS1
  have hm64 : m1 < 18446744073709551616 := by have h7 := visNL_lt (s := s) fr (st := (0, [])) (by simp) HRT.out; rw [← hmw] at h7; exact h7
  have HS1 := Lib.hid hS1
  have HCL := Lib.hid hst.1
  have hle := hst.2
  clear hS0 hX0 kb0 hz0 hB1 hmw hst hS1
  go_wp2
  go_loopg [] (unmet 64 m1.testBit + wk1.length) (fun k wr => ∃ (m : Nat) (S : Option Addr) (cS : Nat) (wk : List Int), Hid (CloI (refsAt h) (hasB s) fr m.testBit wk) ∧ Hid (k = unmet 64 m.testBit + wk.length) ∧ k ≤ 64 ∧ m < 18446744073709551616 ∧ Hid (ClSt (w.heap.size + 1) wr (w.heap.size + 1) (w.heap.size + 1 + 1) (w.heap.size + 1 + 1 + 1 + 1) s m S cS wk) ∧ wr.cell? ⟨w.heap.size, 0, none⟩ = some (.slice A h.cells.length c) ∧ Below w.heap.size w wr)
  case atStart => exact ⟨m1, S1, c1, wk1, HCL, rfl, hle, hm64, HS1, kb1, hX1⟩
  case round =>
    clear HCL hle hm64 HS1 kb1 hX1
    obtain ⟨m, S, cS, wk, HCL, HK, hk64, hm, HS, kb, hBr⟩ := hrel
    have q1 := HS.out.km
    have q2 := HS.out.kk
    have f2 := HS.out.fk
    rcases List.eq_nil_or_concat wk with rfl | ⟨us, r, rfl⟩
    · have hd := HCL.out.done
      have HD := Lib.hid hd
      clear hd
      go_wp2
      go_ret
      exact ⟨m, rfl, hm, HD.out, hBr⟩
    · rw [List.concat_eq_append] at *
      rw [List.length_append, List.length_singleton] at q2
      have hmet := (HCL.out.met r (by simp)).1
      have hr0 : 0 ≤ r := by unfold hasB at hmet; simp at hmet; exact hmet.1
      have hrc := HSC.out r hmet
      obtain ⟨k, rfl⟩ := Int.eq_ofNat_of_zero_le hr0
      have hkn : k < h.cells.length := by omega
      obtain ⟨q, rfl, hq⟩ := HS.out.own.some_ (j := us.length) (by simp)
      have mq : wr.cell? ⟨q, us.length, none⟩ = some (.int .i64 (k : Int)) := HS.out.own.cell (by simp)
      obtain ⟨b, o, cc, Ac, cr2, rfl, gc, -, -, d2, hrr, hrl2, hb⟩ := HC.out.at_ hkn
      have d2' := cell_below d2 hBr
      have HRR := Lib.hid hrr
      have HCR := Lib.hid (refsAt_of gc)
      have hrl3 := HRL.out cc (List.mem_of_getElem? gc)
      have HLT3 := Lib.hid (HLT.out cc (List.mem_of_getElem? gc))
      have hul : us.length ≤ 64 := by have := HK.out; rw [List.length_append, List.length_singleton] at this; omega
      have HP := Lib.hid HS.out.pop
      have hbs := hBr.size
      have hbk := HS.out.ltk
      have hne1 : b ≠ w.heap.size + 1 + 1 + 1 + 1 := by omega
      have hne2 : w.heap.size + 1 + 1 + 1 + 1 ≠ b := by omega
      have hcap : us.length ≤ cS := by have := HS.out.own.cap; rw [List.length_append, List.length_singleton] at this; omega
      have hBp : Below w.heap.size w (wr.setCell ⟨w.heap.size + 1 + 1 + 1 + 1, 0, none⟩ (.slice (some ⟨q, 0, none⟩) us.length cS)) := hBr.setCell (by simp; omega) _
      have kbp : (wr.setCell ⟨w.heap.size + 1 + 1 + 1 + 1, 0, none⟩ (.slice (some ⟨q, 0, none⟩) us.length cS)).cell? ⟨w.heap.size, 0, none⟩ = some (.slice (some ⟨b, o, none⟩) h.cells.length c) := by simp [go_sem, kb]
      have hzp : w.heap.size + 1 ≤ (wr.setCell ⟨w.heap.size + 1 + 1 + 1 + 1, 0, none⟩ (.slice (some ⟨q, 0, none⟩) us.length cS)).heap.size := by simp; omega
      have HBP := Lib.hid hBp
      have HKB := Lib.hid kbp
      clear hmet gc hrr hr0 d2 hrc hBp kbp
      go_wp2_with fail
      (with_reducible refine (visit_any (w.heap.size + 1) Ac cc.refs cr2 (w.heap.size + 1) (w.heap.size + 1 + 1) (w.heap.size + 1 + 1 + 1 + 1) s m _ _ us _ HP.out hzp (fun W hW => HRR.out.below (HBP.out.trans (hW.mono (Nat.le_succ _)))) hrl3 HLT3.out (by omega) hs hm).mono ?_)
      rintro e w2 ⟨rfl, ⟨S2, c2, hS2⟩, hB2⟩
      have hX2 : Below w.heap.size w w2 := HBP.out.trans (hB2.mono (Nat.le_succ _))
      have kb2 := (hB2.cell (p := ⟨w.heap.size, 0, none⟩) (Nat.lt_succ_self _)).trans HKB.out
      obtain ⟨m2, wk2, hmw⟩ : ∃ m2 wk2, (m2, wk2) = visNL s (m, us) cc.refs := ⟨_, _, rfl⟩
      have hst := clo_round (h := h) (m' := m2) (wk' := wk2) hs HCL.out (by rw [Int.toNat_natCast, HCR.out]; exact hmw)
      rw [← hmw] at hS2
      have hm2 : m2 < 18446744073709551616 := by have h7 := visNL_lt (s := s) cc.refs (st := (m, us)) hm HLT3.out; rw [← hmw] at h7; exact h7
      have HS2 := Lib.hid hS2
      have HC2 := Lib.hid hst.1
      have hlt2 : unmet 64 m2.testBit + wk2.length < gk := by rw [HK.out]; exact hst.2
      clear hS2 hst hmw hB2 kb q1 f2 q2 mq d2' hBr
      go_wp2
      go_roundg (unmet 64 m2.testBit + wk2.length)
      case rel => exact ⟨m2, S2, c2, wk2, HC2, rfl, by omega, hm2, HS2, kb2, hX2⟩
      case measure => exact hlt2
/-- What closure computes. -/
noncomputable def cloN (h : HeapM) (s : Nat) (fr : List Int) : Nat := bitsOf (rchL 64 (refsAt h) (hasB s) fr)
theorem cloN_test {h : HeapM} {s : Nat} (hs : s < 18446744073709551616) (fr : List Int) (k : Nat) : (cloN h s fr).testBit k = true ↔ Rch (refsAt h) (hasB s) fr k := by
  unfold cloN
  rw [bitsOf_test]
  by_cases hk : k < 64
  · exact rchL_at hk
  · refine ⟨fun h1 => ?_, fun h1 => ?_⟩
    · rw [getD_len (by rw [rchL_len]; omega)] at h1; cases h1
    · cases h1 with
      | start _ ho => have := hasB_64 hs ho; omega
      | next _ _ ho => have := hasB_64 hs ho; omega
theorem cloN_of {h : HeapM} {s : Nat} (hs : s < 18446744073709551616) {fr : List Int} {m : Nat} (hm : ∀ k, m.testBit k = true ↔ Rch (refsAt h) (hasB s) fr k) : m = cloN h s fr := by
  apply Nat.eq_of_testBit_eq
  intro k
  rw [Bool.eq_iff_iff, hm k, cloN_test hs]
theorem closureN_any (v : Value) (h : HeapM) (Ar : Option Addr) (fr : List Int) (cr s : Nat) (w : World) (hv : RH w v h) (hr : RF fi w Ar fr) (hs : s < 18446744073709551616) (hsc : ∀ r, hasB s r = true → r < h.cells.length)
    (hva : validM h = true) (hrl : fr.length ≤ 1048576) (hrt : ∀ r ∈ fr, r < 64) :
    Calls Try.prog 142 #[v, .slice Ar fr.length cr, .int .u64 (s : Int)] w fun e w' => e = .returned (.int .u64 (cloN h s fr : Nat)) ∧ Below w.heap.size w w' := by
  obtain ⟨v1, -, v3⟩ := valid_small hva
  refine (closure_any v h Ar fr cr s w hv hr hs hsc (fun c hc r hr => by have := (validM_lt hva).1 c hc r hr; omega) (fun c hc => by have := v3 c hc; omega) hrl hrt).mono ?_
  rintro e w' ⟨m, rfl, -, hm, hB⟩
  exact ⟨by rw [cloN_of hs hm], hB⟩
end Go.Proofs.Ytkmfhadanbfadaa
