/- Sets of cells as words of 64 bits: what has, add, list, setOf and usedSet compute. Conditions: numbers of cells below 64. -/
import Derived.Test.YtkmfhadanbfadaaChecked
import Derived.Test.YtkmfhadanbfadaaGrTo
namespace Go.Proofs.Ytkmfhadanbfadaa
open Go.RowKit
set_option maxRecDepth 100000
set_option linter.unusedSimpArgs false
set_option linter.unusedVariables false

theorem or_lt64 {a b : Nat} (ha : a < 18446744073709551616) (hb : b < 18446744073709551616) : a ||| b < 18446744073709551616 := Nat.or_lt_two_pow (n := 64) ha hb
theorem pow_lt64 {k : Nat} (h : k < 64) : 2 ^ k < 18446744073709551616 := (Nat.pow_lt_pow_right (by omega) h : 2 ^ k < 2 ^ 64)
theorem or_pow_test (a k i : Nat) : (a ||| 2 ^ k).testBit i = (a.testBit i || decide (k = i)) := by
  rw [Nat.testBit_or, Nat.testBit_two_pow]

/-- Is number c in the set s? (A name that the walk does not open.) -/
def hasB (s : Nat) (c : Int) : Bool := decide (0 ≤ c) && s.testBit c.toNat
theorem hasB_neg {s : Nat} {c : Int} (h : c < 0) : hasB s c = false := by simp [hasB]; omega
theorem hasB_at {s : Nat} {c : Int} (h : 0 ≤ c) : hasB s c = s.testBit c.toNat := by simp [hasB, h]
theorem has_bit (s k : Nat) (hs : s < 18446744073709551616) : (bits .and .u64 ((s : Int) / 2 ^ k) 1 == 1) = s.testBit k := by
  have h1 : ((s : Int) / 2 ^ k) = ((s / 2 ^ k : Nat) : Int) := by simp
  have h2 : s / 2 ^ k < 18446744073709551616 := Nat.lt_of_le_of_lt (Nat.div_le_self _ _) hs
  rw [h1, show (1 : Int) = ((1 : Nat) : Int) from rfl, u64_and_nat _ 1 h2 (by omega), Nat.and_one_is_mod]
  rw [Nat.testBit_eq_decide_div_mod_eq]
  rw [Bool.eq_iff_iff]
  simp
  omega
set_option maxHeartbeats 400000 in
theorem has_any (s : Nat) (c : Int) (w : World) (h1 : c < 64) (hs : s < 18446744073709551616) :
    Calls Try.prog 163 #[.int .u64 (s : Int), .int .i64 c] w fun e w' => e = .returned (.bool (hasB s c)) ∧ w = w' := by
  rcases Classical.em (0 ≤ c) with h0 | h0
  · go_enter Try.func163, Try.ntmps163
    go_wp2
    go_ret
    exact ⟨ret_bool (by rw [has_bit s _ hs, hasB_at h0]), rfl⟩
  · go_enter Try.func163, Try.ntmps163
    go_wp2
    go_ret
    exact ⟨ret_bool (hasB_neg (by omega)).symm, rfl⟩
set_option maxHeartbeats 400000 in
theorem add_any (b : Nat) (s : Nat) (c : Int) (w : World) (h0 : 0 ≤ c) (h1 : c < 64) (hs : s < 18446744073709551616) (hc : w.cell? ⟨b, 0, none⟩ = some (.int .u64 (s : Int))) (hf : w.frozen? ⟨b, 0, none⟩ = false) :
    Calls Try.prog 155 #[.pointer (some ⟨b, 0, none⟩), .int .i64 c] w fun e w' => e = .returned (.tuple #[]) ∧ w' = (w.setCell ⟨b, 0, none⟩ (.int .u64 ((s ||| 2 ^ c.toNat : Nat) : Int))).drew := by
  go_enter Try.func155, Try.ntmps155
  go_wp2
  go_still_tail 7, (by kernel_rfl)
  change wpList _ _ _ _ _ w.drew
  go_wp2
  go_end0
  have e1 : ((2 : Int) ^ c.toNat) = ((2 ^ c.toNat : Nat) : Int) := by simp
  have e2 : 2 ^ c.toNat < 18446744073709551616 := pow_lt64 (by omega)
  have e3 : IntKind.u64.wrap ((2 ^ c.toNat : Nat) : Int) = ((2 ^ c.toNat : Nat) : Int) := by rw [IntKind.wrap_u64]; generalize 2 ^ c.toNat = z at e2; omega
  exact ⟨rfl, by rw [e1, e3, u64_or_nat _ _ hs e2]⟩
end Go.Proofs.Ytkmfhadanbfadaa
