/- The reference's order in which cells are met, and new numbers. -/
import Derived.Test.YtkmfhadanbfadaaChecked
import Derived.Deep.DeepCutAuto
import Derived.IntWalk
import Derived.Test.YtkmfhadanbfadaaGrClo
import Derived.Test.YtkmfhadanbfadaaGrData
import Derived.Test.YtkmfhadanbfadaaSmall
namespace Go.Proofs.Ytkmfhadanbfadaa
open Go.RowKit
set_option maxRecDepth 100000
set_option linter.unusedSimpArgs false
set_option linter.unusedVariables false
set_option maxHeartbeats 4000000 in
theorem l9Name_any (A : Option Addr) (order : List Int) (c : Nat) (r : Int) (w : World) (hr : RF fi w A order) (hl : order.length ≤ 9223372036854775807) :
    Calls Try.prog 182 #[.slice A order.length c, .int .i64 r] w fun e w' => e = .returned (.int .i64 (nameM order r)) ∧ w = w' := by
  have HR := Lib.hid hr
  clear hr
  go_enter Try.func182, Try.ntmps182
  go_wp2
  go_loopw [5] (fun i wr => ∃ k : Nat, k ≤ order.length ∧ i = .int .i64 k ∧ Hid (noneB (isR r) order k) ∧ wr = w) (fun i _ => order.length - (intOf i).toNat)
  case atStart => exact ⟨0, by omega, rfl, fun i hi => absurd hi (Nat.not_lt_zero _), rfl⟩
  case round =>
    obtain ⟨k, hk, rfl, HA, rfl⟩ := hrel
    by_cases hlt : k < order.length
    · obtain ⟨b, o, x, rfl, gx, m, hb⟩ := HR.out.at_ hlt
      have m2 : wr.cell? ⟨b, o + k, none⟩ = some (.int .i64 x) := m
      have HG := Lib.hid gx
      clear m gx
      rcases Classical.em (x = r) with h1 | h1
      · subst h1
        have HN := Lib.hid (nameM_some HA.out HG.out)
        go_wp2
        go_ret
        exact ⟨by rw [HN.out]; rfl, rfl⟩
      · have HN : Hid (noneB (isR r) order (k + 1)) := fun i hi y hy => by
          rcases Nat.lt_succ_iff_lt_or_eq.1 hi with h2 | h2
          · exact HA.out i h2 y hy
          · subst h2; rw [HG.out] at hy; injection hy with hy; subst hy; unfold isR; simpa using h1
        go_wp2
        go_roundw
        case rel => exact ⟨k + 1, by omega, by go_num, HN, by first | rfl | trivial⟩
        case measure => simp [intOf]; omega
    · have hke : k = order.length := by omega
      have HN : Hid (nameM order r = -1) := nameM_none (by have := HA.out; rw [hke] at this; exact this)
      clear hke
      go_wp2
      go_ret
      exact ⟨by rw [HN.out]; rfl, rfl⟩
end Go.Proofs.Ytkmfhadanbfadaa
