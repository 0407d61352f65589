/- The reference's drawing: programs. -/
import Derived.Test.YtngmkflmjjkjaaaChecked
import Derived.Deep.QuietTactic
import Derived.BigQuiet
import Derived.IntWalk
import Derived.Maps.AppendAt
import Derived.Deep.RegionWith
import Derived.Test.YtngmkflmjjkjaaaDraw3
import Derived.Test.YtngmkflmjjkjaaaGrCopy
import Derived.Test.YtngmkflmjjkjaaaGrTo
import Derived.Test.YtngmkflmjjkjaaaGrData
namespace Go.Proofs.Ytngmkflmjjkjaaa
open Go.RowKit
set_option maxRecDepth 100000
set_option linter.unusedSimpArgs false
set_option linter.unusedVariables false
theorem info_cmd9 : (Try.prog.info? 36).map (fun i => (i.zero, i.size, i.bytes)) = some (some (.agg #[.int .i64 0, .int .i64 0, .int .i64 0, .int .i64 0]), 4, 32) := by kernel_rfl
section
variable {w : World}
theorem app_cmd (ty : TypeId) {S : Option Addr} {c : Nat} {os : List CmdM} (hown : OO w S c os) (o : CmdM) (b c2 : Nat)
    (k0 : w.cell? ⟨b, 0, none⟩ = some (.int .i64 o.op)) (k1 : w.cell? ⟨b, 1, none⟩ = some (.int .i64 o.a)) (k2 : w.cell? ⟨b, 2, none⟩ = some (.int .i64 o.b)) (k3 : w.cell? ⟨b, 3, none⟩ = some (.int .i64 o.c)) (h : os.length ≤ 1099511627776) :
    ∃ S' c' w', (Builtin.append_ #[23, 23] ty #[.slice S os.length c, .slice (some ⟨b, 0, none⟩) 1 c2]).run Try.prog w = .ok (.slice S' (os ++ [o]).length c') w' ∧ OO w' S' c' (os ++ [o]) ∧ Only (blk S) w w' ∧
      (∀ g ∈ blk S', g ∈ blk S ∨ w.heap.size ≤ g) := by
  obtain ⟨i0, hi, hz0, hz1, hz2⟩ := info_parts info_cmd9
  have hcells : ∀ j u, (cmdVals o)[j]? = some u → w.cell? ((⟨b, 0, none⟩ : Addr).add j) = some u := by
    intro j u hu
    have hj := (List.getElem?_eq_some_iff.1 hu).1
    simp [cmdVals] at hj
    rcases (by omega : j = 0 ∨ j = 1 ∨ j = 2 ∨ j = 3) with rfl | rfl | rfl | rfl
    all_goals
      simp [cmdVals] at hu
      subst hu
      simp [Addr.add, *]
  have h1' : ∀ u ∈ cmdVals o, u.oneCell' = true := by
    intro u hu
    simp [cmdVals] at hu
    rcases hu with rfl | rfl | rfl | rfl <;> rfl
  obtain ⟨v', w', hrun, h2, h3, _, h5⟩ := run_append_own_at (P := Try.prog) w 0 23 ty 36 i0 _ 4 32 Try.underlying23 hi hz0 hz1 hz2 rfl (by omega) _ os.length _ hown ⟨b, 0, none⟩ 1 c2 (cmdVals o) (by simp [cmdVals]) hcells h1' (by simp only [maxLen]; omega) (by omega) (Nat.zero_le _)
  have hv : ∃ S' c', v' = .slice S' (os.length + 1) c' := by
    rcases h2.2 with ⟨h, h0⟩ | ⟨g, cap, cur, h, _⟩
    · omega
    · exact ⟨_, cap, h⟩
  obtain ⟨S', c', rfl⟩ := hv
  have hO := only_of_grown h3
  refine ⟨S', c', w', by rw [List.length_append]; exact hrun, ?_, hO, fun g hg => ?_⟩
  · unfold OO; rw [List.length_append, List.flatMap_append]; simpa using h2
  · rw [ownBlock_blk, ownBlock_blk] at h5
    have hg' : S'.map (·.block) = some g := by
      cases S' with
      | none => simp [blk] at hg
      | some a => simp [blk] at hg; simp [hg]
    rcases h5 with h5 | h5
    · left; rw [hg'] at h5; rw [blk_of_map h5.symm]; simp
    · right; rw [hg'] at h5; injection h5 with h5; omega
variable {ops : Array Oper} {o : Oper} {a : Act}
theorem wpList_appcmd {rest : List Oper} {Q : Exit → Act → World → Prop} (hgd : o.guard = none) (s x : Operand) (ho : o.op = .call { callee := .builtin .append, args := #[s, x], argTypes := #[23, 23] })
    {S : Option Addr} {c b c2 : Nat} {os : List CmdM} (hs : a.eval s = .slice S os.length c) (hx : a.eval x = .slice (some ⟨b, 0, none⟩) 1 c2)
    (hown : OO w S c os) (oc : CmdM)
    (k0 : w.cell? ⟨b, 0, none⟩ = some (.int .i64 oc.op)) (k1 : w.cell? ⟨b, 1, none⟩ = some (.int .i64 oc.a)) (k2 : w.cell? ⟨b, 2, none⟩ = some (.int .i64 oc.b)) (k3 : w.cell? ⟨b, 3, none⟩ = some (.int .i64 oc.c)) (h : os.length ≤ 1099511627776)
    (hK : ∀ S' c' w', OO w' S' c' (os ++ [oc]) → Only (blk S) w w' → (∀ g ∈ blk S', g ∈ blk S ∨ w.heap.size ≤ g) → wpList Try.prog ops Q rest (a.put o.dst (.slice S' (os ++ [oc]).length c')) w') :
    wpList Try.prog ops Q (o :: rest) a w := by
  obtain ⟨S', c', w', hrun, h1, h2, h3⟩ := app_cmd o.type hown oc b c2 k0 k1 k2 k3 h
  exact wpList_ran hgd s x _ ho hs hx hrun (hK _ _ _ h1 h2 h3)
theorem step_appcmd {K : Act → World → Prop} {Q : Exit → Act → World → Prop} {E : Prop} (hgd : o.guard = none) (s x : Operand) (ho : o.op = .call { callee := .builtin .append, args := #[s, x], argTypes := #[23, 23] })
    {S : Option Addr} {c b c2 : Nat} {os : List CmdM} (hs : a.eval s = .slice S os.length c) (hx : a.eval x = .slice (some ⟨b, 0, none⟩) 1 c2)
    (hown : OO w S c os) (oc : CmdM)
    (k0 : w.cell? ⟨b, 0, none⟩ = some (.int .i64 oc.op)) (k1 : w.cell? ⟨b, 1, none⟩ = some (.int .i64 oc.a)) (k2 : w.cell? ⟨b, 2, none⟩ = some (.int .i64 oc.b)) (k3 : w.cell? ⟨b, 3, none⟩ = some (.int .i64 oc.c)) (h : os.length ≤ 1099511627776)
    (hK : ∀ S' c' w', OO w' S' c' (os ++ [oc]) → Only (blk S) w w' → (∀ g ∈ blk S', g ∈ blk S ∨ w.heap.size ≤ g) → K (a.put o.dst (.slice S' (os ++ [oc]).length c')) w') :
    if Region.wanted o (yielded ops a.tmps) = true then Oper.wp Try.prog o a w K Q else E := by
  obtain ⟨S', c', w', hrun, h1, h2, h3⟩ := app_cmd o.type hown oc b c2 k0 k1 k2 k3 h
  exact step_ran hgd s x _ ho hs hx hrun (hK _ _ _ h1 h2 h3)
theorem flat4_take (os : List CmdM) : ∀ m, m ≤ os.length → (os.flatMap cmdVals).take (m * 4) = (os.take m).flatMap cmdVals := by
  induction os with
  | nil => intro m h; simp at h; subst h; rfl
  | cons a os ih =>
    intro m h
    cases m with
    | zero => simp
    | succ m =>
      have h' := ih m (by simpa using h)
      have e : (a :: os).flatMap cmdVals = .int .i64 a.op :: .int .i64 a.a :: .int .i64 a.b :: .int .i64 a.c :: os.flatMap cmdVals := by simp [cmdVals]
      have e2 : (a :: os.take m).flatMap cmdVals = .int .i64 a.op :: .int .i64 a.a :: .int .i64 a.b :: .int .i64 a.c :: (os.take m).flatMap cmdVals := by simp [cmdVals]
      rw [List.take_succ_cons, e, e2, ← h', show (m + 1) * 4 = m * 4 + 1 + 1 + 1 + 1 by omega]
      rfl
/-- The first part of a row of instructions of the call's own. -/
theorem OO.take_ {A : Option Addr} {c : Nat} {os : List CmdM} (h : OO w A c os) {m : Nat} (hm : m ≤ os.length) : OO w A c (os.take m) := by
  have hlen : (os.take m).length = m := by simp; omega
  refine ⟨flat4_len _, ?_⟩
  rw [hlen]
  rcases h.2 with ⟨h1, h2⟩ | ⟨g, cap, cur, h1, h2, h3, h4, h5, h6, h7⟩
  · injection h1 with h1 h1b h1c
    subst h1 h1c
    have h2' : m = 0 := by omega
    subst h2'
    exact .inl ⟨rfl, rfl⟩
  · injection h1 with h1 h1b h1c
    subst h1 h1c
    refine .inr ⟨g, _, cur, rfl, h2, h3, by omega, h5, h6, ?_⟩
    rw [← flat4_take os m hm, ← h7, List.take_take, Nat.min_eq_left (by omega)]
theorem OO.new0 {q : Nat} (h : w.heap[q]? = some (.cells #[] 36 (0, 0))) : OO w (some ⟨q, 0, none⟩) 0 [] :=
  ⟨by simp, .inr ⟨q, 0, #[], rfl, Nat.zero_le _, h, Nat.le_refl _, Nat.zero_le _, by simp, by simp⟩⟩
end
theorem Only.thenb {S : List Nat} {a b c : World} {B : Nat} (h : Only S a b) (k : Below B b c) (hB : a.heap.size ≤ B) : Only S a c :=
  ⟨k.os.trans h.os, k.tape.trans h.tape, k.output.trans h.output, Nat.le_trans h.size k.size, fun i hi hs => (k.block i (by omega)).trans (h.block i hi hs)⟩
theorem mk_cmds41 (W : World) :
    (Instr.makeSlice 23 (.int .i64 41) (.int .i64 41)).run Try.prog W = .ok (.slice (some ⟨W.heap.size, 0, none⟩) 41 41) (W.alloc (.cells (rowO (List.replicate 41 zo)) 36)) := by
  obtain ⟨i0, hi, hz0, hz1, hz2⟩ := info_parts info_cmd9
  have h := run_make (P := Try.prog) W 23 36 i0 _ Try.underlying23 hi hz0 .i64 .i64 41 41 (by omega) (by omega) (by rw [hz2]; omega) (by omega)
  have e : (41 : Int).toNat = 41 := rfl
  rw [e] at h
  rw [h, hz1, ← rowO_made 41]
  rfl
theorem OO.of41 {w : World} {q : Nat} (h : w.heap[q]? = some (.cells (rowO (List.replicate 41 zo)) 36 (0, 0))) : OO w (some ⟨q, 0, none⟩) 41 (List.replicate 41 zo) := by
  have e : (List.replicate 41 zo).length = 41 := by simp
  have hf := flat4_len (List.replicate 41 zo)
  refine ⟨hf, .inr ⟨q, 41, rowO (List.replicate 41 zo), by rw [e], Nat.zero_le _, h, by omega, by simp only [maxLen]; omega, by simp only [rowO, List.size_toArray, hf, e], by rw [rowO, ← hf, List.take_length]⟩⟩
theorem OO.cap_ {w : World} {A : Option Addr} {c : Nat} {os : List CmdM} (h : OO w A c os) : os.length ≤ c ∧ c ≤ 9223372036854775807 := by
  rcases ownsRow_block h with ⟨_, h1, h2⟩ | ⟨g, cur, _, _, h1, h2, _⟩
  · omega
  · simp only [maxLen] at h2; omega
theorem wp_region_at {P : Program} {id : Nat} {ops : Array Oper} {Q : Exit → Act → World → Prop} {a : Act} {w : World} (hm : P.follows .mixedOrders = true)
    (h : ∀ W : World, W = w.drew → wpAny P .any ops Q ops.size (Array.replicate ops.size false) a W) : (Code.region id ops true).wp P Q a w :=
  wp_region_any hm (h _ rfl)
theorem cmdsOk_snoc {L : List CmdM} {o : CmdM} (h : ∀ x ∈ L, cmdOk x = true) (ho : cmdOk o = true) : ∀ x ∈ L ++ [o], cmdOk x = true := fun x hx => by
  rcases List.mem_append.1 hx with h1 | h1
  · exact h x h1
  · obtain rfl : x = o := by simpa using h1
    exact ho
set_option maxHeartbeats 4000000 in
theorem l20Program_any (lo g K : Nat) (n : Int) (w : World) (h : Rd lo w g (K + 1000)) (hn1 : 0 ≤ n) (hn2 : n ≤ 1048576) :
    Calls Try.prog 54 #[.pointer (some ⟨g, 0, none⟩), .int .i64 n] w fun e w' => ∃ L S c, e = .returned (.slice S (L : List CmdM).length c) ∧ OO w' S c L ∧ (∀ b ∈ blk S, w.heap.size ≤ b) ∧ L.length ≤ 41 ∧ (n = 0 → cmdsOk L = true) ∧ Only [g] w w' ∧ Rd lo w' g K := by
  have H := Lib.hid h
  clear h
  have hlt := H.out.lt
  go_enter Try.func54, Try.ntmps54
  go_wp2_with fail
  (with_reducible refine (pick_any lo g (K + 999) 41 _ (H.out.below (by repeat (first | ((with_reducible refine Below.setc ?_ ?_ _); focus (first | omega | (simp; done) | (simp; omega))) | ((with_reducible refine Below.allocc ?_ ?_ _); focus (first | omega | (simp; done) | (simp; omega))) | (with_reducible refine Below.drew ?_) | (with_reducible refine Below.drewn ?_) | (with_reducible assumption) | (with_reducible exact Below.refl _ _) | ((with_reducible refine Below.stepp (by with_reducible assumption) ?_ ?_); focus (first | omega | (simp; done) | (simp; omega)))))) (by omega) (by omega)).mono ?_); rintro e w1 ⟨x, rfl, hx, -, hO1, hR1⟩
  have hxI := hx (by omega)
  have HR1 := Lib.hid hR1
  have HOn1 : Hid (Only [g] w w1) := (Only.alloc (Only.refl _ _) _).trans hO1
  have hz1 := hO1.size
  (try simp only [World.size_alloc, World.size_setCell, World.size_drew, World.heap_drewN] at hz1)
  have hK0 : OO w1 (some ⟨w.heap.size, 0, none⟩) 0 [] := OO.new0 ((hO1.block w.heap.size (by simp) (by simp; omega)).trans (heap_alloc_at _ _ _ (by simp)))
  have HK0 := Lib.hid hK0
  clear hx hR1 hO1 hK0
  go_wp2_with fail
  go_loopw [5, 6] (fun s5 s6 wr => ∃ (j : Nat) (L : List CmdM) (S : Option Addr) (cS : Nat), L.length + j = x ∧ s6 = .int .i64 j ∧ s5 = .slice S L.length cS ∧ Hid (∀ o ∈ L, cmdOk o = true) ∧ Hid (OO wr S cS L) ∧ Hid (∀ b ∈ blk S, w.heap.size ≤ b) ∧ Hid (Rd lo wr g (K + 199 + 20 * j)) ∧ Hid (Only [g] w wr) ∧ w1.heap.size ≤ wr.heap.size) (fun _ s6 _ => (intOf s6).toNat)
  case atStart => exact ⟨x, [], _, _, by simp, rfl, rfl, by simp [Hid], HK0, fun b hb => (by have := mem_blk_some hb; omega), HR1.out.le (by omega), HOn1, Nat.le_refl _⟩
  case round =>
    obtain ⟨j, L, S, cS, hj, rfl, rfl, HL, HS, HSB, HR, HOn, hz⟩ := hrel
    have hgw : g + 1 ≤ wr.heap.size := by omega
    by_cases hj0 : j = 0
    · subst hj0
      have hjx : L.length ≤ 40 := by omega
      go_wp2_with fail
      (with_reducible refine (odd_any lo g (K + 198) n _ (HR.out.le (by omega)) hn1 hn2).mono ?_); rintro e w2 ⟨b, rfl, hb, hO2, hR2⟩
      have Hb := Lib.hid hb
      have HR2 := Lib.hid hR2
      have hz2 := hO2.size
      have HS2 := Lib.hid (OO.only HS.out hO2 (fun b hb => by have := HSB.out b hb; simp; omega))
      have HOn2 : Hid (Only [g] w w2) := HOn.out.trans hO2
      clear hb hR2 hO2
      cases b with
      | false =>
        go_wp2_with fail
        go_ret
        exact ⟨L, S, cS, rfl, HS2.out, HSB.out, by omega, fun _ => by simp only [cmdsOk, Bool.and_eq_true, decide_eq_true_eq, List.all_eq_true]; exact ⟨by omega, HL.out⟩, HOn2.out, HR2.out.le (by omega)⟩
      | true =>
        go_wp2_with fail
        (with_reducible refine (pick_any lo g (K + 197) 2 _ (HR2.out.le (by omega)) (by omega) (by omega)).mono ?_); rintro e w3 ⟨k, rfl, hk, -, hO3, hR3⟩
        have hkI := hk (by omega)
        have HR3 := Lib.hid hR3
        have hz3 := hO3.size
        have HS3 := Lib.hid (OO.only HS2.out hO3 (fun b hb => by have := HSB.out b hb; simp; omega))
        have HOn3 : Hid (Only [g] w w3) := HOn2.out.trans hO3
        clear hk hR3 hO3
        rcases (by omega : k = 0 ∨ k = 1) with rfl | rfl
        · go_wp2_with fail
          have Hn1 : Hid (n = 0 → False) := fun h9 => by simpa using Hb.out h9
          have hm9 : min L.length 9 ≤ L.length := Nat.min_le_left _ _
          obtain ⟨T, hT9, HT3⟩ : ∃ T : List CmdM, Hid (T.length = min L.length 9) ∧ Hid (OO w3 S cS T) := ⟨L.take (min L.length 9), show (L.take (min L.length 9)).length = _ by simp, HS3.out.take_ hm9⟩
          have hT10 : T.length ≤ 9 := by have := hT9.out; omega
          have hTl : T.length ≤ 1099511627776 := by omega
          have hcap := HS3.out.cap_
          refine wp_region_at (by kernel_rfl) (fun wd hwd => ?_)
          have HRd : Hid (Rd lo wd g (K + 197)) := by rw [hwd]; exact HR3.out.below (by repeat (first | ((with_reducible refine Below.setc ?_ ?_ _); focus (first | omega | (simp; done) | (simp; omega))) | ((with_reducible refine Below.allocc ?_ ?_ _); focus (first | omega | (simp; done) | (simp; omega))) | (with_reducible refine Below.drew ?_) | (with_reducible refine Below.drewn ?_) | (with_reducible assumption) | (with_reducible exact Below.refl _ _) | ((with_reducible refine Below.stepp (by with_reducible assumption) ?_ ?_); focus (first | omega | (simp; done) | (simp; omega)))))
          have HTd : Hid (OO wd S cS T) := by rw [hwd]; exact HT3.out.below (by repeat (first | ((with_reducible refine Below.setc ?_ ?_ _); focus (first | omega | (simp; done) | (simp; omega))) | ((with_reducible refine Below.allocc ?_ ?_ _); focus (first | omega | (simp; done) | (simp; omega))) | (with_reducible refine Below.drew ?_) | (with_reducible refine Below.drewn ?_) | (with_reducible assumption) | (with_reducible exact Below.refl _ _) | ((with_reducible refine Below.stepp (by with_reducible assumption) ?_ ?_); focus (first | omega | (simp; done) | (simp; omega)))))
          have HOd : Hid (Only [g] w wd) := by rw [hwd]; exact HOn3.out.thenb (B := w3.heap.size) (by repeat (first | ((with_reducible refine Below.setc ?_ ?_ _); focus (first | omega | (simp; done) | (simp; omega))) | ((with_reducible refine Below.allocc ?_ ?_ _); focus (first | omega | (simp; done) | (simp; omega))) | (with_reducible refine Below.drew ?_) | (with_reducible refine Below.drewn ?_) | (with_reducible assumption) | (with_reducible exact Below.refl _ _) | ((with_reducible refine Below.stepp (by with_reducible assumption) ?_ ?_); focus (first | omega | (simp; done) | (simp; omega))))) (by omega)
          have hzd : w3.heap.size = wd.heap.size := by rw [hwd]; rfl
          clear HR3 HT3 HOn3 HS3 hwd
          (refine wpAny_take (i := 0) (v := ?v9_0) rfl (by kernel_rfl) (by kernel_rfl) (by kernel_rfl) (fun _ _ _ h => h) (Or.inl ⟨by rfl, ?h9_0⟩) ?r9_0; (case h9_0 => (intro w9; go_simp; try with_reducible rfl)))
          (refine wpAny_take (i := 1) (v := ?v9_1) rfl (by kernel_rfl) (by kernel_rfl) (by kernel_rfl) (fun _ _ _ h => h) (Or.inl ⟨by rfl, ?h9_1⟩) ?r9_1; (case h9_1 => (intro w9; go_simp; try with_reducible rfl)))
          (refine wpAny_take (i := 5) (v := ?v9_5) rfl (by kernel_rfl) (by kernel_rfl) (by kernel_rfl) (fun _ _ _ h => h) (Or.inl ⟨by rfl, ?h9_5⟩) ?r9_5; (case h9_5 => (intro w9; go_simp; try with_reducible rfl)))
          (refine wpAny_take (i := 2) (v := ?v9_2) rfl (by kernel_rfl) (by kernel_rfl) (by kernel_rfl) (fun _ _ _ h => h) (Or.inl ⟨by rfl, ?h9_2⟩) ?r9_2; (case h9_2 => (intro w9; go_simp; try with_reducible rfl)))
          (refine wpAny_take (i := 3) (v := .int .i64 (T.length : Int)) rfl (by kernel_rfl) (by kernel_rfl) (by kernel_rfl) (fun _ _ _ h => h) (Or.inl ⟨by rfl, ?h9_3⟩) ?r9_3; (case h9_3 => (intro w9; go_simp; (have h9 := hT9.out; split <;> omega))))
          (refine wpAny_take (i := 4) (v := .slice S T.length cS) rfl (by kernel_rfl) (by kernel_rfl) (by kernel_rfl) (fun _ _ _ h => h) (Or.inl ⟨by rfl, ?h9_4⟩) ?r9_4; (case h9_4 => (intro w9; go_simp; (try (intro h9; have h8 := hT9.out; omega)))))
          refine wpAny_ready (rs := [6]) (by kernel_rfl) (by simp) ?_
          refine AllReady.cons rfl (fun K9 hK9 => ?_) AllReady.nil
          go_wp2_with (go_at_call 75; (with_reducible refine (l20Command_any lo g (K + 170) 1 _ (HRd.out.le (by omega)) (by omega) (by omega)).mono ?_); rintro e w4 ⟨o, rfl, -, hO4, hR4⟩; have HR4 := Lib.hid hR4; have HOn4 := Lib.hid (HOd.out.trans hO4); have HT4 := Lib.hid (OO.only HTd.out hO4 (fun b hb => by have := HSB.out b hb; simp; omega)); have hz4 := hO4.size; clear hR4 hO4; unfold cmdV)
          (try refine hK9 _ _ ?_)
          (try clear hK9)
          refine wpAny_ready (rs := [7]) (by kernel_rfl) (by simp) ?_
          refine AllReady.cons rfl (fun K9 hK9 => ?_) AllReady.nil
          go_simp
          (try refine hK9 _ _ ?_)
          (try clear hK9)
          refine wpAny_ready (rs := [8]) (by kernel_rfl) (by simp) ?_
          refine AllReady.cons rfl (fun K9 hK9 => ?_) AllReady.nil
          refine step_appcmd rfl (.tmp 29) (.tmp 32) rfl rfl rfl (HT4.out.below (by repeat (first | ((with_reducible refine Below.setc ?_ ?_ _); focus (first | omega | (simp; done) | (simp; omega))) | ((with_reducible refine Below.allocc ?_ ?_ _); focus (first | omega | (simp; done) | (simp; omega))) | (with_reducible refine Below.drew ?_) | (with_reducible refine Below.drewn ?_) | (with_reducible assumption) | (with_reducible exact Below.refl _ _) | ((with_reducible refine Below.stepp (by with_reducible assumption) ?_ ?_); focus (first | omega | (simp; done) | (simp; omega)))))) o (by simp [go_sem]) (by simp [go_sem]) (by simp [go_sem]) (by simp [go_sem]) hTl ?_
          intro S5 c5 w5 hO5 hOn5 hg5
          have hz5 := hOn5.size
          (try simp only [World.size_alloc, World.size_setCell, World.size_drew, World.heap_drewN] at hz5)
          have HB5 : Hid (Below w.heap.size w4 w5) := Below.trans (by repeat (first | ((with_reducible refine Below.setc ?_ ?_ _); focus (first | omega | (simp; done) | (simp; omega))) | ((with_reducible refine Below.allocc ?_ ?_ _); focus (first | omega | (simp; done) | (simp; omega))) | (with_reducible refine Below.drew ?_) | (with_reducible refine Below.drewn ?_) | (with_reducible assumption) | (with_reducible exact Below.refl _ _) | ((with_reducible refine Below.stepp (by with_reducible assumption) ?_ ?_); focus (first | omega | (simp; done) | (simp; omega))))) (hOn5.below (by simp; omega) (fun b9 hb9 => HSB.out b9 hb9))
          have HO5 := Lib.hid hO5
          have HSB5 : Hid (∀ b9 ∈ blk S5, w.heap.size ≤ b9) := (fun b9 hb9 => by rcases hg5 b9 hb9 with h9 | h9; exact HSB.out b9 h9; simp at h9; omega)
          have hl5 : (T ++ [o]).length ≤ 41 := by simp; omega
          clear hOn5 hg5 hO5
          refine hK9 _ _ ?_
          clear hK9
          refine wpAny_ready (rs := [9]) (by kernel_rfl) (by simp) ?_
          refine AllReady.cons rfl (fun K9 hK9 => ?_) AllReady.nil
          go_simp
          refine hK9 _ _ ?_
          clear hK9
          refine wpAny_done (by kernel_rfl) ?_ _
          go_wp2_with fail
          (try go_meet)
          (try go_ret)
          exact ⟨T ++ [o], S5, c5, by simp, HO5.out, HSB5.out, hl5, fun h9 => (Hn1.out h9).elim, HOn4.out.thenb HB5.out (Nat.le_refl _), (HR4.out.keep (HB5.out.mono (by omega))).le (by omega)⟩
        · have Hn1 : Hid (n = 0 → False) := fun h9 => by simpa using Hb.out h9
          obtain ⟨zs, HZ, hmk⟩ : ∃ zs : List CmdM, Hid (∀ (W : World) (q : Nat), W.heap[q]? = some (.cells (rowO zs) 36 (0, 0)) → zs.length = 41 ∧ OO W (some ⟨q, 0, none⟩) 41 zs) ∧ (∀ W : World, (Instr.makeSlice 23 (.int .i64 41) (.int .i64 41)).run Try.prog W = .ok (.slice (some ⟨W.heap.size, 0, none⟩) 41 41) (W.alloc (.cells (rowO zs) 36))) :=
            ⟨List.replicate 41 zo, fun W q h9 => ⟨by simp, OO.of41 h9⟩, mk_cmds41⟩
          go_wp2_with fail
          go_ret
          obtain ⟨z41, hz41⟩ := HZ.out (w3.alloc (.cells (rowO zs) 36)) w3.heap.size (heap_alloc_at _ _ _ (by simp))
          exact ⟨zs, _, 41, by rw [z41]; rfl, hz41, fun b hb => (by have := mem_blk_some hb; omega), by omega, fun h9 => (Hn1.out h9).elim, HOn3.out.thenb (B := w3.heap.size) (by repeat (first | ((with_reducible refine Below.setc ?_ ?_ _); focus (first | omega | (simp; done) | (simp; omega))) | ((with_reducible refine Below.allocc ?_ ?_ _); focus (first | omega | (simp; done) | (simp; omega))) | (with_reducible refine Below.drew ?_) | (with_reducible refine Below.drewn ?_) | (with_reducible assumption) | (with_reducible exact Below.refl _ _) | ((with_reducible refine Below.stepp (by with_reducible assumption) ?_ ?_); focus (first | omega | (simp; done) | (simp; omega))))) (by omega), (HR3.out.below (by repeat (first | ((with_reducible refine Below.setc ?_ ?_ _); focus (first | omega | (simp; done) | (simp; omega))) | ((with_reducible refine Below.allocc ?_ ?_ _); focus (first | omega | (simp; done) | (simp; omega))) | (with_reducible refine Below.drew ?_) | (with_reducible refine Below.drewn ?_) | (with_reducible assumption) | (with_reducible exact Below.refl _ _) | ((with_reducible refine Below.stepp (by with_reducible assumption) ?_ ?_); focus (first | omega | (simp; done) | (simp; omega)))))).le (by omega)⟩
    · obtain ⟨j, rfl⟩ : ∃ i, j = i + 1 := ⟨j - 1, by omega⟩
      go_wp2_with fail
      (with_reducible refine (l20Command_any lo g (K + 199 + 20 * j) 0 _ (HR.out.le (by omega)) (by omega) (by omega)).mono ?_); rintro e w2 ⟨o, rfl, ho, hO2, hR2⟩
      have HO := Lib.hid (ho rfl)
      have HR2 := Lib.hid hR2
      have hz2 := hO2.size
      have HS2 := Lib.hid (OO.only HS.out hO2 (fun b hb => by have := HSB.out b hb; simp; omega))
      have HOn2 : Hid (Only [g] w w2) := HOn.out.trans hO2
      have hll : L.length ≤ 1099511627776 := by omega
      clear ho hR2 hO2
      unfold cmdV
      go_wp2_with (at_builtin; (refine wpList_appcmd rfl (.tmp 14) (.tmp 17) rfl rfl rfl (HS2.out.below (by repeat (first | ((with_reducible refine Below.setc ?_ ?_ _); focus (first | omega | (simp; done) | (simp; omega))) | ((with_reducible refine Below.allocc ?_ ?_ _); focus (first | omega | (simp; done) | (simp; omega))) | (with_reducible refine Below.drew ?_) | (with_reducible refine Below.drewn ?_) | (with_reducible assumption) | (with_reducible exact Below.refl _ _) | ((with_reducible refine Below.stepp (by with_reducible assumption) ?_ ?_); focus (first | omega | (simp; done) | (simp; omega)))))) o (by simp [go_sem]) (by simp [go_sem]) (by simp [go_sem]) (by simp [go_sem]) hll ?_); intro S3 cS3 w3 hO3 hOn3 hg3; have hz3 := hOn3.size; (try simp only [World.size_alloc, World.size_setCell, World.size_drew, World.heap_drewN] at hz3 hg3); have HB3 : Hid (Below w.heap.size w2 w3) := Below.trans (by repeat (first | ((with_reducible refine Below.setc ?_ ?_ _); focus (first | omega | (simp; done) | (simp; omega))) | ((with_reducible refine Below.allocc ?_ ?_ _); focus (first | omega | (simp; done) | (simp; omega))) | (with_reducible refine Below.drew ?_) | (with_reducible refine Below.drewn ?_) | (with_reducible assumption) | (with_reducible exact Below.refl _ _) | ((with_reducible refine Below.stepp (by with_reducible assumption) ?_ ?_); focus (first | omega | (simp; done) | (simp; omega))))) (hOn3.below (by simp; omega) (fun b9 hb9 => HSB.out b9 hb9)); have HSB3 : Hid (∀ b9 ∈ blk S3, w.heap.size ≤ b9) := (fun b9 hb9 => by rcases hg3 b9 hb9 with h9 | h9; exact HSB.out b9 h9; omega); have HK3 := Lib.hid hO3; clear hO3 hOn3 hg3)
      go_roundw
      case rel => exact ⟨j, L ++ [o], S3, cS3, by simp; omega, by go_num, by simp, cmdsOk_snoc HL.out HO.out, HK3, HSB3, HR2.out.keep (HB3.out.mono (by omega)), Only.thenb HOn2.out HB3.out (Nat.le_refl _), by omega⟩
      case measure => simp [intOf]
end Go.Proofs.Ytngmkflmjjkjaaa
