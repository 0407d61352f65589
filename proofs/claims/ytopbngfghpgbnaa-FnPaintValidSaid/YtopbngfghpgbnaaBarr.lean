/- What an instruction's barrier is, and what it reaches. -/
import Derived.Test.YtopbngfghpgbnaaChecked
import Derived.Deep.DeepCutAuto
import Derived.Deep.RegionHeld3
import Derived.Test.YtopbngfghpgbnaaPaintE
import Derived.Test.YtopbngfghpgbnaaGrey
namespace Go.Proofs.Ytopbngfghpgbnaa
open Go.RowKit
set_option maxRecDepth 100000
set_option linter.unusedSimpArgs false
set_option linter.unusedVariables false
theorem RF.singG {α : Type} {f : α → Value} {w : World} {g : Nat} {x : α} (h : w.cell? ⟨g, 0, none⟩ = some (f x)) : RF f w (some ⟨g, 0, none⟩) [x] := fun i hi => by
  obtain rfl : i = 0 := by simp at hi; omega
  exact ⟨g, 0, x, rfl, rfl, h⟩
theorem greyOne_any (g : Nat) (A2 : Option Addr) (q c2 cr : Nat) (xs : List Int) (r : Int) (w : World) (h2 : w.cell? ⟨g, 2, none⟩ = some (.slice A2 xs.length c2))
    (hx : OF 3 fi w A2 c2 xs) (hg2 : g ∉ blk A2) (hr : ∀ W, Only (blk A2) w W → W.cell? ⟨q, 0, none⟩ = some (.int .i64 r)) (hlt : r < xs.length) (hxl : xs.length ≤ 9223372036854775807) :
    Calls Try.prog 77 #[.pointer (some ⟨g, 0, none⟩), .slice (some ⟨q, 0, none⟩) 1 cr] w fun e w' => e = .returned (.tuple #[]) ∧ OF 3 fi w' A2 c2 (grey1 xs r) ∧ Only (blk A2) w w' :=
  grey_any g A2 (some ⟨q, 0, none⟩) c2 cr xs [r] w h2 hx hg2 (fun W hW => RF.singG (hr W hW)) (by simp) (fun x hx => by rw [List.mem_singleton.1 hx]; exact hlt) hxl
set_option maxHeartbeats 4000000 in
theorem barrierOf_root (op : Int) (w : World) (h : op = 1 ∨ op = 2 ∨ op = 4) :
    Calls Try.prog 76 #[.int .i64 op] w fun e w' => e = .returned (.iface 134 (.agg #[])) ∧ w = w' := by
  rcases h with rfl | rfl | rfl
  all_goals
    go_enter Try.func76, Try.ntmps76
    go_wp2_with fail
    go_ret
    exact ⟨rfl, rfl⟩
set_option maxHeartbeats 4000000 in
theorem barrierOf_ref (op : Int) (w : World) (h : op = 3) :
    Calls Try.prog 76 #[.int .i64 op] w fun e w' => e = .returned (.iface 135 (.agg #[])) ∧ w = w' := by
  subst h
  go_enter Try.func76, Try.ntmps76
  go_wp2_with fail
  go_ret
  exact ⟨rfl, rfl⟩
set_option maxHeartbeats 4000000 in
theorem barrierOf_none (op : Int) (w : World) (h : ¬ (op = 1 ∨ op = 2 ∨ op = 4)) (h3 : op ≠ 3) :
    Calls Try.prog 76 #[.int .i64 op] w fun e w' => e = .returned .nilIface ∧ w = w' := by
  have h1 : ¬ op = 1 := fun e => h (.inl e)
  have h2 : ¬ op = 2 := fun e => h (.inr (.inl e))
  have h4 : ¬ op = 4 := fun e => h (.inr (.inr e))
  clear h
  go_enter Try.func76, Try.ntmps76
  go_wp2_with fail
  go_ret
  exact ⟨rfl, rfl⟩
set_option maxHeartbeats 4000000 in
theorem rootReached_any (v1 v2 : Value) (h1 h2 : HeapM) (op a b c : Int) (w : World) (hv1 : RH w v1 h1) (hv2 : RH w v2 h2) (h0 : 0 ≤ a) (hl : a.toNat < h2.roots.length) :
    Calls Try.prog 158 #[.agg #[], v1, v2, .agg #[.int .i64 op, .int .i64 a, .int .i64 b, .int .i64 c]] w fun e w' => e = .returned (.int .i64 (rootAt h2 a)) ∧ Below w.heap.size w w' := by
  obtain ⟨A, c1, A', c1', rfl, -, -, -, -⟩ := hv1
  obtain ⟨B, d, B', d', rfl, -, hr, -, -⟩ := hv2
  obtain ⟨k, o, x, rfl, g, m, hk⟩ := hr.at_ hl
  rw [rootAt_get hl] at g
  injection g with g
  subst g
  have n : w.cell? ⟨k, o + a.toNat, none⟩ = some (.int .i64 (rootAt h2 a)) := m
  have hlI : a < (h2.roots.length : Int) := by omega
  have hk1 : k < w.heap.size + 1 := by omega
  have hk2 : k < w.heap.size + 1 + 1 := by omega
  have hk3 : k < w.heap.size + 1 + 1 + 1 := by omega
  have hn0 : k ≠ w.heap.size := by omega
  have hn1 : k ≠ w.heap.size + 1 := by omega
  have hn2 : k ≠ w.heap.size + 1 + 1 := by omega
  have hn3 : k ≠ w.heap.size + 1 + 1 + 1 := by omega
  clear m
  go_enter Try.func158, Try.ntmps158
  go_wp2_with fail
  go_ret
  exact ⟨rfl, blw_⟩
set_option maxHeartbeats 4000000 in
theorem refReached_any (v1 v2 : Value) (h1 h2 : HeapM) (op a b c : Int) (w : World) (hv1 : RH w v1 h1) (hv2 : RH w v2 h2) (h0 : 0 ≤ b) (hl : b.toNat < h1.roots.length) :
    Calls Try.prog 159 #[.agg #[], v1, v2, .agg #[.int .i64 op, .int .i64 a, .int .i64 b, .int .i64 c]] w fun e w' => e = .returned (.int .i64 (rootAt h1 b)) ∧ Below w.heap.size w w' := by
  obtain ⟨A, c1, A', c1', rfl, -, hr, -, -⟩ := hv1
  obtain ⟨B, d, B', d', rfl, -, -, -, -⟩ := hv2
  obtain ⟨k, o, x, rfl, g, m, hk⟩ := hr.at_ hl
  rw [rootAt_get hl] at g
  injection g with g
  subst g
  have n : w.cell? ⟨k, o + b.toNat, none⟩ = some (.int .i64 (rootAt h1 b)) := m
  have hlI : b < (h1.roots.length : Int) := by omega
  have hk1 : k < w.heap.size + 1 := by omega
  have hk2 : k < w.heap.size + 1 + 1 := by omega
  have hk3 : k < w.heap.size + 1 + 1 + 1 := by omega
  have hn0 : k ≠ w.heap.size := by omega
  have hn1 : k ≠ w.heap.size + 1 := by omega
  have hn2 : k ≠ w.heap.size + 1 + 1 := by omega
  have hn3 : k ≠ w.heap.size + 1 + 1 + 1 := by omega
  clear m
  go_enter Try.func159, Try.ntmps159
  go_wp2_with fail
  go_ret
  exact ⟨rfl, blw_⟩
end Go.Proofs.Ytopbngfghpgbnaa
