/- FnSameView: the law's call returns true. -/
import Derived.Test.YtngmkflmjjkjaaaChecked
import Derived.Deep.QuietTactic
import Derived.BigQuiet
import Derived.Deep.RegionWith
import Derived.Test.YtngmkflmjjkjaaaDrawC
import Derived.Test.YtngmkflmjjkjaaaDrawD
import Derived.Test.YtngmkflmjjkjaaaGrSame
import Derived.Test.YtngmkflmjjkjaaaCtx
import Derived.Test.YtngmkflmjjkjaaaStepH
import Derived.Test.YtngmkflmjjkjaaaGrCmd
import Derived.Test.YtngmkflmjjkjaaaViewS
import Derived.Test.YtngmkflmjjkjaaaGrIso
namespace Go.Proofs.Ytngmkflmjjkjaaa
open Go.RowKit
set_option maxRecDepth 100000
set_option linter.unusedSimpArgs false
set_option linter.unusedVariables false
set_option maxHeartbeats 8000000 in
theorem walkSameView (C : Option Addr) (bs : List Int) (c : Nat) (C2 : Option Addr) (bs2 : List Int) (c2 : Nat) (w : World) (hr : RF fu w C bs) (hb : ∀ x ∈ bs, 0 ≤ x ∧ x < 256) (hc : bs.length ≤ c) (hcc : c ≤ 9223372036854775807)
    (hr2 : RF fu w C2 bs2) (hb2 : ∀ x ∈ bs2, 0 ≤ x ∧ x < 256) (hc2 : bs2.length ≤ c2) (hcc2 : c2 ≤ 9223372036854775807) :
    Calls Try.prog 8 #[.slice C bs.length c, .slice C2 bs2.length c2] w fun e w' => e = .returned (.bool true) ∧ Below w.heap.size w w' := by
  by_cases hbig : 1048576 < bs.length
  · have hbi : ((1048576 : Int) < (bs.length : Int)) := by omega
    go_enter Try.func8, Try.ntmps8
    go_wp2
    go_ret
    exact ⟨rfl, blw_⟩
  have hbi : ¬ ((1048576 : Int) < (bs.length : Int)) := by omega
  by_cases hbig2 : 1048576 < bs2.length
  · have hbi2 : ((1048576 : Int) < (bs2.length : Int)) := by omega
    go_enter Try.func8, Try.ntmps8
    go_wp2
    go_ret
    exact ⟨rfl, blw_⟩
  have hbi2 : ¬ ((1048576 : Int) < (bs2.length : Int)) := by omega
  go_enter Try.func8, Try.ntmps8
  go_wp2_with fail
  (with_reducible refine (drawSameView_any C bs c _ hr hb hc hcc).mono ?_); rintro e w1 ⟨va, vb, a, b, rfl, hVa, hVb, hB⟩
  obtain ⟨A, n, A', n', rfl⟩ := hVa.parts
  obtain ⟨B, m, B', m', rfl⟩ := hVb.parts
  have zB := hB.size
  clear hb hr hbig hbig2 hbi hbi2
  go_wp2_with fail
  refine Calls.gen (fun W => Below w.heap.size w W ∧ RH W (.agg #[.slice A a.cells.length n, .slice A' a.roots.length n']) a ∧ Bx W w1.heap.size [.slice A a.cells.length n, .slice A' a.roots.length n'] ∧ RH W (.agg #[.slice B b.cells.length m, .slice B' b.roots.length m']) b ∧ Bx W (w1.heap.size + 1) [.slice B b.cells.length m, .slice B' b.roots.length m']) ⟨blw_, hVa.below blw_, (Bx.new w1 [.slice A a.cells.length n, .slice A' a.roots.length n'] 28).below blw_, hVb.below blw_, by simpa using Bx.new (w1.alloc (.cells #[.slice A a.cells.length n, .slice A' a.roots.length n'] 28)) [.slice B b.cells.length m, .slice B' b.roots.length m'] 28⟩ ?_
  obtain ⟨bb, hbb⟩ : ∃ x, Hid (x = w1.heap.size + 1) := ⟨_, rfl⟩
  rw [← hbb.out]
  generalize w1.heap.size = ba
  clear hB hVa hVb zB hbb
  rintro W ⟨HB, HA, HBa, HV, HBb⟩
  obtain ⟨ok, hok⟩ : ∃ ok, Hid (ok = sameViewM a b) := ⟨_, rfl⟩
  have hok2 : Hid (sameViewM b a = ok) := by rw [hok.out]; exact sameView_comm b a
  (with_reducible refine (sameView_any _ _ a b _ HA HV).mono ?_); rw [← hok.out]; rintro e w2 ⟨rfl, hB⟩
  have HB := HB.trans (hB.mono HB.size)
  have HA := HA.below hB
  have HBa := HBa.below hB
  have HV := HV.below hB
  have HBb := HBb.below hB
  clear hB
  have p0 := HBa.c 0 _ rfl
  have p1 := HBa.c 1 _ rfl
  have q0 := HBb.c 0 _ rfl
  have q1 := HBb.c 1 _ rfl
  go_wp2_with fail
  (with_reducible refine (specSameView_any _ _ a b _ HA HV).mono ?_); rw [← hok.out]; rintro e w2 ⟨rfl, hB⟩
  clear p0 p1 q0 q1
  have HB := HB.trans (hB.mono HB.size)
  have HA := HA.below hB
  have HBa := HBa.below hB
  have HV := HV.below hB
  have HBb := HBb.below hB
  clear hB
  have p0 := HBa.c 0 _ rfl
  have p1 := HBa.c 1 _ rfl
  have q0 := HBb.c 0 _ rfl
  have q1 := HBb.c 1 _ rfl
  have hxx : (ok != ok) = false := by simp
  go_wp2_with fail
  (with_reducible refine (sameView_any _ _ b a _ HV HA).mono ?_); rw [hok2.out]; rintro e w2 ⟨rfl, hB⟩
  clear p0 p1 q0 q1
  have HB := HB.trans (hB.mono HB.size)
  have HA := HA.below hB
  have HBa := HBa.below hB
  have HV := HV.below hB
  have HBb := HBb.below hB
  clear hB
  have p0 := HBa.c 0 _ rfl
  have p1 := HBa.c 1 _ rfl
  have q0 := HBb.c 0 _ rfl
  have q1 := HBb.c 1 _ rfl
  go_wp2_with fail
  (with_reducible refine (specHeapValid_any _ a _ HA).mono ?_); rintro e w2 ⟨rfl, hB⟩
  clear p0 p1 q0 q1
  have HB := HB.trans (hB.mono HB.size)
  have HA := HA.below hB
  have HBa := HBa.below hB
  have HV := HV.below hB
  have HBb := HBb.below hB
  clear hB
  have p0 := HBa.c 0 _ rfl
  have p1 := HBa.c 1 _ rfl
  have q0 := HBb.c 0 _ rfl
  have q1 := HBb.c 1 _ rfl
  have hfalse : validM a = false ∨ validM b = false → Hid (ok = false) := fun h9 => by
    unfold Hid
    rw [hok.out]
    unfold sameViewM
    rcases h9 with h9 | h9 <;> rw [h9] <;> simp
  rcases bool_ft (validM a) with hva | hva
  · have h9 := (hfalse (.inl hva)).out
    subst h9
    rw [hva]
    go_wp2_with fail
    (with_reducible refine (alive_any _).mono ?_); rintro e w3 ⟨rfl, hB⟩
    have zb := hB.size
    have zB := HB.size
    go_wp2_with fail
    go_ret
    exact ⟨rfl, blw_⟩
  have HVA := Lib.hid hva
  rw [hva]
  clear hva
  go_wp2_with fail
  (with_reducible refine (specHeapValid_any _ b _ HV).mono ?_); rintro e w2 ⟨rfl, hB⟩
  clear p0 p1 q0 q1
  have HB := HB.trans (hB.mono HB.size)
  have HA := HA.below hB
  have HBa := HBa.below hB
  have HV := HV.below hB
  have HBb := HBb.below hB
  clear hB
  have p0 := HBa.c 0 _ rfl
  have p1 := HBa.c 1 _ rfl
  have q0 := HBb.c 0 _ rfl
  have q1 := HBb.c 1 _ rfl
  rcases bool_ft (validM b) with hvb | hvb
  · have h9 := (hfalse (.inr hvb)).out
    subst h9
    rw [hvb]
    go_wp2_with fail
    (with_reducible refine (alive_any _).mono ?_); rintro e w3 ⟨rfl, hB⟩
    have zb := hB.size
    have zB := HB.size
    go_wp2_with fail
    go_ret
    exact ⟨rfl, blw_⟩
  rw [hvb]
  clear hvb hfalse
  have hrm := hr2.below HB
  go_wp2_with fail
  (with_reducible refine (drawCommandValid_any C2 bs2 c2 _ hrm hb2 hc2 hcc2).mono ?_); rintro e w2 ⟨o, rfl, hB⟩
  clear p0 p1 q0 q1
  have zb := hB.size
  have HB := HB.trans (hB.mono HB.size)
  have HA := HA.below hB
  have HBa := HBa.below hB
  have HV := HV.below hB
  have HBb := HBb.below hB
  clear hB
  have zB := HB.size
  clear hrm
  simp only [cmdV]
  go_upto_region 10 with fail
  refine Code.gen (fun W => (Below w.heap.size w W ∧ RH W (.agg #[.slice A a.cells.length n, .slice A' a.roots.length n']) a ∧ Bx W ba [.slice A a.cells.length n, .slice A' a.roots.length n'] ∧ RH W (.agg #[.slice B b.cells.length m, .slice B' b.roots.length m']) b ∧ Bx W bb [.slice B b.cells.length m, .slice B' b.roots.length m']) ∧ Bx W w2.heap.size [.int .i64 o.op, .int .i64 o.a, .int .i64 o.b, .int .i64 o.c]) ⟨⟨blw_, HA.below blw_, HBa.below blw_, HV.below blw_, HBb.below blw_⟩, Bx.new _ _ _⟩ ?_
  generalize w2.heap.size = bc
  clear HB HA HBa HV HBb zB zb
  rintro W ⟨⟨HB, HA, HBa, HV, HBb⟩, HC⟩
  have hself : Hid (sameViewM a a = true) := sameView_refl HVA.out
  have p0 := HBa.c 0 _ rfl
  have p1 := HBa.c 1 _ rfl
  have q0 := HBb.c 0 _ rfl
  have q1 := HBb.c 1 _ rfl
  have d0 := HC.c 0 _ rfl
  have d1 := HC.c 1 _ rfl
  have d2 := HC.c 2 _ rfl
  have d3 := HC.c 3 _ rfl
  cases ok with
  | false =>
    go_wp2_with fail
    (with_reducible refine (sameView_any _ _ a a _ HA HA).mono ?_); rw [hself.out]; rintro e w3 ⟨rfl, hB⟩
    have zb := hB.size
    have zB := HB.size
    go_wp2_with fail
    go_ret
    exact ⟨rfl, blw_⟩
  | true =>
  go_wp2_with fail
  (with_reducible refine (specCommandValid_any o _).mono ?_); rintro e w2 ⟨rfl, hB⟩
  have HC := HC.below hB
  clear d0 d1 d2 d3
  clear p0 p1 q0 q1
  have HB := HB.trans (hB.mono HB.size)
  have HA := HA.below hB
  have HBa := HBa.below hB
  have HV := HV.below hB
  have HBb := HBb.below hB
  clear hB
  have p0 := HBa.c 0 _ rfl
  have p1 := HBa.c 1 _ rfl
  have q0 := HBb.c 0 _ rfl
  have q1 := HBb.c 1 _ rfl
  have d0 := HC.c 0 _ rfl
  have d1 := HC.c 1 _ rfl
  have d2 := HC.c 2 _ rfl
  have d3 := HC.c 3 _ rfl
  have hstop : cmdOk o = false ∨ (cmdOk o = true ∧ a.cells.length = 40) ∨ (cmdOk o = true ∧ a.cells.length ≠ 40 ∧ b.cells.length = 40) ∨ (cmdOk o = true ∧ a.cells.length ≠ 40 ∧ b.cells.length ≠ 40) := by
    rcases bool_ft (cmdOk o) with h9 | h9
    · exact .inl h9
    · by_cases h8 : a.cells.length = 40
      · exact .inr (.inl ⟨h9, h8⟩)
      · by_cases h7 : b.cells.length = 40
        · exact .inr (.inr (.inl ⟨h9, h8, h7⟩))
        · exact .inr (.inr (.inr ⟨h9, h8, h7⟩))
  rcases hstop with h9 | ⟨h9, h8⟩ | ⟨h9, h8, h7⟩ | ⟨h9, h8, h7⟩
  · rw [h9]
    go_wp2_with fail
    (with_reducible refine (sameView_any _ _ a a _ HA HA).mono ?_); rw [hself.out]; rintro e w3 ⟨rfl, hB⟩
    have zb := hB.size
    have zB := HB.size
    go_wp2_with fail
    go_ret
    exact ⟨rfl, blw_⟩
  · have h8b : ((a.cells.length : Int) == 40) = true := by simp; omega
    rw [h9]
    rw [h8] at p0
    clear h9
    have HAx := Lib.hid HA
    clear HA
    go_wp2_with fail
    have HA := HAx.out
    rw [← h8]
    (with_reducible refine (sameView_any _ _ a a _ HA HA).mono ?_); rw [hself.out]; rintro e w3 ⟨rfl, hB⟩
    have zb := hB.size
    have zB := HB.size
    go_wp2_with fail
    go_ret
    exact ⟨rfl, blw_⟩
  · have h8b : ((a.cells.length : Int) == 40) = false := by simp; omega
    have h7b : ((b.cells.length : Int) == 40) = true := by simp; omega
    have H7 := Lib.hid h7
    rw [h9]
    rw [h7] at q0
    clear h9 h7
    go_wp2_with fail
    (with_reducible refine (sameView_any _ _ a a _ HA HA).mono ?_); rw [hself.out]; rintro e w3 ⟨rfl, hB⟩
    have zb := hB.size
    have zB := HB.size
    go_wp2_with fail
    go_ret
    exact ⟨rfl, blw_⟩
  have HLw : Hid (sameViewM (stepM a o).1 (stepM b o).1 = true) := law_SameView hok.out.symm h9 h8 h7
  have h8b : ((a.cells.length : Int) == 40) = false := by simp; omega
  have h7b : ((b.cells.length : Int) == 40) = false := by simp; omega
  rw [h9]
  clear h9 h8 h7
  obtain ⟨X, hX⟩ : ∃ X, Hid (X = stepM a o) := ⟨_, rfl⟩
  obtain ⟨Y, hY⟩ : ∃ Y, Hid (Y = stepM b o) := ⟨_, rfl⟩
  rw [← hX.out, ← hY.out] at HLw
  go_wp2_with fail
  (with_reducible refine (implStepHeap_any _ a o _ HA).mono ?_); rw [← hX.out]; rintro e w2 ⟨v2, rfl, oH, hB⟩
  have hV2 := oH.rh
  obtain ⟨A2, n2, A2', n2', rfl⟩ := hV2.parts
  have HC := HC.below hB
  have HB := HB.trans (hB.mono HB.size)
  have zB := HB.size
  have HV := HV.below hB
  have HBb := HBb.below hB
  clear hB oH d0 d1 d2 d3 p0 p1 q0 q1 HA HBa h8b h7b
  go_upto_region 13 with fail
  refine Code.gen (fun W => Below w.heap.size w W ∧ RH W (.agg #[.slice B b.cells.length m, .slice B' b.roots.length m']) b ∧ Bx W bb [.slice B b.cells.length m, .slice B' b.roots.length m'] ∧ Bx W bc [.int .i64 o.op, .int .i64 o.a, .int .i64 o.b, .int .i64 o.c] ∧ RH W (.agg #[.slice A2 X.1.cells.length n2, .slice A2' X.1.roots.length n2']) X.1 ∧ Bx W w2.heap.size [.slice A2 X.1.cells.length n2, .slice A2' X.1.roots.length n2']) ⟨blw_, HV.below blw_, HBb.below blw_, HC.below blw_, hV2.below blw_, Bx.new _ _ _⟩ ?_
  generalize w2.heap.size = bx
  clear HB HV HBb HC hV2 zB
  rintro W ⟨HB, HV, HBb, HC, HX, HBX⟩
  have q0 := HBb.c 0 _ rfl
  have q1 := HBb.c 1 _ rfl
  have d0 := HC.c 0 _ rfl
  have d1 := HC.c 1 _ rfl
  have d2 := HC.c 2 _ rfl
  have d3 := HC.c 3 _ rfl
  go_wp2_with fail
  (with_reducible refine (implStepHeap_any _ b o _ HV).mono ?_); rw [← hY.out]; rintro e w2 ⟨v2, rfl, oH, hB⟩
  have hV2 := oH.rh
  obtain ⟨A3, n3, A3', n3', rfl⟩ := hV2.parts
  have HB := HB.trans (hB.mono HB.size)
  have zB := HB.size
  have HX := HX.below hB
  have HBX := HBX.below hB
  clear hB oH d0 d1 d2 d3 q0 q1 HV HBb HC
  have c0 := HBX.c 0 _ rfl
  have c1 := HBX.c 1 _ rfl
  have hbxl := HBX.lt
  go_wp2_with fail
  (with_reducible refine (sameView_any _ _ X.1 Y.1 _ (HX.below blw_) (hV2.below blw_)).mono ?_); rw [HLw.out]; rintro e w3 ⟨rfl, hB⟩
  have zb := hB.size
  go_wp2_with fail
  go_ret
  exact ⟨rfl, blw_⟩
end Go.Proofs.Ytngmkflmjjkjaaa
