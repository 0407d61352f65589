/- Sets of cells as words of 64 bits: what has, add, list, setOf and usedSet compute. Conditions: numbers of cells below 64. -/
import Derived.Test.YtkikeanpbffpkaaChecked
import Derived.Test.YtkikeanpbffpkaaGrTo
namespace Go.Proofs.Ytkikeanpbffpkaa
open Go.RowKit
set_option maxRecDepth 100000
set_option linter.unusedSimpArgs false
set_option linter.unusedVariables false

/-- The word whose bits are a list of flags. -/
def bitsOf : List Bool → Nat
  | [] => 0
  | b :: l => b.toNat + 2 * bitsOf l
theorem bitsOf_lt (l : List Bool) : bitsOf l < 2 ^ l.length := by
  induction l with
  | nil => simp [bitsOf]
  | cons b l ih =>
    rw [bitsOf, List.length_cons, Nat.pow_succ]
    have : b.toNat ≤ 1 := by cases b <;> simp
    omega
theorem bitsOf_lt64 {l : List Bool} (h : l.length ≤ 64) : bitsOf l < 18446744073709551616 :=
  Nat.lt_of_lt_of_le (bitsOf_lt l) (Nat.pow_le_pow_right (by omega) h)
theorem bitsOf_test (l : List Bool) : ∀ i, (bitsOf l).testBit i = l.getD i false := by
  induction l with
  | nil => intro i; simp [bitsOf]
  | cons b l ih =>
    intro i
    cases i with
    | zero => cases b <;> simp [bitsOf, Nat.testBit_zero] <;> omega
    | succ i =>
      rw [Nat.testBit_succ, bitsOf, show (b.toNat + 2 * bitsOf l) / 2 = bitsOf l by cases b <;> simp <;> omega, ih]
      rfl
/-- a without b. -/
def andN (a b : Nat) : Nat := a &&& (18446744073709551615 - b)
theorem andN_test {a b : Nat} (ha : a < 18446744073709551616) (hb : b < 18446744073709551616) (i : Nat) : (andN a b).testBit i = (a.testBit i && !b.testBit i) := by
  unfold andN
  rw [Nat.testBit_and, show 18446744073709551615 - b = 2 ^ 64 - (b + 1) by omega, Nat.testBit_two_pow_sub_succ (by omega)]
  by_cases h : i < 64
  · simp [h]
  · have : a.testBit i = false := Nat.testBit_lt_two_pow (Nat.lt_of_lt_of_le (show a < 2 ^ 64 from ha) (Nat.pow_le_pow_right (by omega) (show 64 ≤ i by omega)))
    simp [this]
theorem andN_lt {a b : Nat} (ha : a < 18446744073709551616) : andN a b < 18446744073709551616 := Nat.lt_of_le_of_lt Nat.and_le_left ha
theorem or_lt64 {a b : Nat} (ha : a < 18446744073709551616) (hb : b < 18446744073709551616) : a ||| b < 18446744073709551616 := Nat.or_lt_two_pow (n := 64) ha hb
theorem pow_lt64 {k : Nat} (h : k < 64) : 2 ^ k < 18446744073709551616 := (Nat.pow_lt_pow_right (by omega) h : 2 ^ k < 2 ^ 64)
theorem or_pow_test (a k i : Nat) : (a ||| 2 ^ k).testBit i = (a.testBit i || decide (k = i)) := by
  rw [Nat.testBit_or, Nat.testBit_two_pow]

/-- Is number c in the set s? (A name that the walk does not open.) -/
def hasB (s : Nat) (c : Int) : Bool := decide (0 ≤ c) && s.testBit c.toNat
theorem hasB_nat (s k : Nat) : hasB s (k : Int) = s.testBit k := by simp [hasB]
theorem hasB_neg {s : Nat} {c : Int} (h : c < 0) : hasB s c = false := by simp [hasB]; omega
theorem hasB_at {s : Nat} {c : Int} (h : 0 ≤ c) : hasB s c = s.testBit c.toNat := by simp [hasB, h]
theorem has_bit (s k : Nat) (hs : s < 18446744073709551616) : (bits .and .u64 ((s : Int) / 2 ^ k) 1 == 1) = s.testBit k := by
  have h1 : ((s : Int) / 2 ^ k) = ((s / 2 ^ k : Nat) : Int) := by simp
  have h2 : s / 2 ^ k < 18446744073709551616 := Nat.lt_of_le_of_lt (Nat.div_le_self _ _) hs
  rw [h1, show (1 : Int) = ((1 : Nat) : Int) from rfl, u64_and_nat _ 1 h2 (by omega), Nat.and_one_is_mod]
  rw [Nat.testBit_eq_decide_div_mod_eq]
  rw [Bool.eq_iff_iff]
  simp
  omega
set_option maxHeartbeats 400000 in
theorem has_any (s : Nat) (c : Int) (w : World) (h1 : c < 64) (hs : s < 18446744073709551616) :
    Calls Try.prog 54 #[.int .u64 (s : Int), .int .i64 c] w fun e w' => e = .returned (.bool (hasB s c)) ∧ w = w' := by
  rcases Classical.em (0 ≤ c) with h0 | h0
  · go_enter Try.func54, Try.ntmps54
    go_wp2
    go_ret
    exact ⟨ret_bool (by rw [has_bit s _ hs, hasB_at h0]), rfl⟩
  · go_enter Try.func54, Try.ntmps54
    go_wp2
    go_ret
    exact ⟨ret_bool (hasB_neg (by omega)).symm, rfl⟩
set_option maxHeartbeats 400000 in
theorem add_any (b : Nat) (s : Nat) (c : Int) (w : World) (h0 : 0 ≤ c) (h1 : c < 64) (hs : s < 18446744073709551616) (hc : w.cell? ⟨b, 0, none⟩ = some (.int .u64 (s : Int))) (hf : w.frozen? ⟨b, 0, none⟩ = false) :
    Calls Try.prog 77 #[.pointer (some ⟨b, 0, none⟩), .int .i64 c] w fun e w' => e = .returned (.tuple #[]) ∧ w' = (w.setCell ⟨b, 0, none⟩ (.int .u64 ((s ||| 2 ^ c.toNat : Nat) : Int))).drew := by
  go_enter Try.func77, Try.ntmps77
  go_wp2
  go_still_tail 7, (by kernel_rfl)
  change wpList _ _ _ _ _ w.drew
  go_wp2
  go_end0
  have e1 : ((2 : Int) ^ c.toNat) = ((2 ^ c.toNat : Nat) : Int) := by simp
  have e2 : 2 ^ c.toNat < 18446744073709551616 := pow_lt64 (by omega)
  have e3 : IntKind.u64.wrap ((2 ^ c.toNat : Nat) : Int) = ((2 ^ c.toNat : Nat) : Int) := by rw [IntKind.wrap_u64]; generalize 2 ^ c.toNat = z at e2; omega
  exact ⟨rfl, by rw [e1, e3, u64_or_nat _ _ hs e2]⟩
theorem bitsOf_snoc (l : List Bool) (b : Bool) : bitsOf (l ++ [b]) = bitsOf l ||| (if b then 2 ^ l.length else 0) := by
  apply Nat.eq_of_testBit_eq
  intro i
  rw [Nat.testBit_or, bitsOf_test, bitsOf_test]
  rcases Nat.lt_trichotomy i l.length with h | h | h
  · have h1 : (l ++ [b]).getD i false = l.getD i false := by simp [List.getD, List.getElem?_append_left h]
    rw [h1]
    cases b
    · simp
    · simp [Nat.testBit_two_pow]; omega
  · subst h
    cases b <;> simp [List.getD, Nat.testBit_two_pow]
  · have h1 : (l ++ [b])[i]? = none := by rw [List.getElem?_eq_none]; simp; omega
    have h2 : l[i]? = none := by rw [List.getElem?_eq_none]; omega
    cases b
    · simp [List.getD, h1, h2]
    · simp [List.getD, h1, h2, Nat.testBit_two_pow]; omega
def usedBits (cs : List CellM) : Nat := bitsOf (cs.map (·.used))
set_option maxHeartbeats 400000 in
theorem usedSet_any (v : Value) (h : HeapM) (w : World) (hv : RH w v h) (hn : h.cells.length ≤ 64) :
    Calls Try.prog 52 #[v] w fun e w' => e = .returned (.int .u64 ((usedBits h.cells : Nat) : Int)) ∧ Below w.heap.size w w' := by
  obtain ⟨A, c, A', c', rfl, hc, -, hl1, -⟩ := hv
  go_enter Try.func52, Try.ntmps52
  go_wp2
  go_loopw [9] (fun i wr => ∃ (k s : Nat), k ≤ h.cells.length ∧ i = .int .i64 k ∧ Hid (s = bitsOf ((h.cells.map (·.used)).take k)) ∧ w.heap.size + 1 < wr.heap.size ∧ wr.cell? ⟨w.heap.size + 1, 0, none⟩ = some (.int .u64 (s : Int)) ∧ wr.frozen? ⟨w.heap.size + 1, 0, none⟩ = false ∧ Below w.heap.size w wr) (fun i _ => h.cells.length - (intOf i).toNat)
  case atStart => exact ⟨0, 0, by omega, rfl, rfl, by simp, by simp [go_sem], by simp [go_sem], blw_⟩
  case round =>
    obtain ⟨k, s, hk, rfl, HS, hz, k0, k1, hB⟩ := hrel
    have hs : s < 18446744073709551616 := by rw [HS.out]; exact bitsOf_lt64 (by rw [List.length_take]; omega)
    by_cases hlt : k < h.cells.length
    · obtain ⟨b, o, x, Ar, cr, rfl, gx, c1, c2, c3, -, -, hb⟩ := (hc.below hB).at_ hlt
      have gx' : (h.cells.map (·.used))[k]? = some x.used := by rw [List.getElem?_map, gx]; rfl
      have GX := Lib.hid gx'
      clear gx gx' hc
      cases hu : x.used
      · rw [hu] at c1
        have HU := Lib.hid hu
        go_wp2
        go_roundw
        case rel => exact ⟨k + 1, s, by omega, by go_num, by unfold Hid; rw [take_snoc_of GX.out, bitsOf_snoc, HS.out, HU.out]; simp, by simp; omega, by simp [go_sem, k0, hz], by simp [go_sem, k1, hz], blw_⟩
        case measure => simp [intOf]; omega
      · rw [hu] at c1
        have HU := Lib.hid hu
        go_wp2_with (go_at_call 77; refine (add_any _ s _ _ (by omega) (by omega) hs (by simp [go_sem, k0, hz]) (by simp [go_sem, k1, hz])).mono ?_; rintro e w' ⟨rfl, rfl⟩)
        go_roundw
        case rel => exact ⟨k + 1, s ||| 2 ^ k, by omega, by go_num, by unfold Hid; rw [take_snoc_of GX.out, bitsOf_snoc, HS.out, HU.out, List.length_take, List.length_map, Nat.min_eq_left (by omega)]; rfl, by simp; omega, by simp [go_sem, k0, hz], by simp [go_sem, k1, hz], blw_⟩
        case measure => simp [intOf]; omega
    · have hke : k = h.cells.length := by omega
      have HK := Lib.hid hke
      clear hke
      go_wp2
      go_ret
      exact ⟨ret_int (by rw [HS.out, HK.out, List.take_of_length_le (by simp)]; rfl), blw_⟩
end Go.Proofs.Ytkikeanpbffpkaa
