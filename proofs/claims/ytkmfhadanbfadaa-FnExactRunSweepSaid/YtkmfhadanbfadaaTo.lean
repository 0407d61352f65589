/- The copies to.. of the laws: what they return is new memory that reads as the argument does. Conditions: lengths at most 2^20. -/
import Derived.Test.YtkmfhadanbfadaaChecked
import Derived.OwnWalk
import Derived.Test.YtkmfhadanbfadaaGrOwn
namespace Go.Proofs.Ytkmfhadanbfadaa
open Go.RowKit
set_option maxRecDepth 100000
set_option linter.unusedSimpArgs false

theorem info_int : (Try.prog.info? 3).map (fun i => (i.zero, i.size, i.bytes)) = some (some (.int .i64 0), 1, 8) := by kernel_rfl
theorem info_cell : (Try.prog.info? 114).map (fun i => (i.zero, i.size, i.bytes)) = some (some (.agg #[.bool false, .int .i64 0, .slice none 0 0]), 3, 40) := by kernel_rfl
theorem info_bool : (Try.prog.info? 4).map (fun i => (i.zero, i.size, i.bytes)) = some (some (.bool false), 1, 1) := by kernel_rfl
theorem mk_bools (n : Nat) (hn : n ≤ 1048577) (W : World) :
    (Instr.makeSlice 26 (.int .i64 (n : Int)) (.int .i64 (n : Int))).run Try.prog W = .ok (.slice (some ⟨W.heap.size, 0, none⟩) n n) (W.alloc (.cells (rowF fb (List.replicate n false)) 4)) := by
  obtain ⟨i0, hi, hz0, hz1, hz2⟩ := info_parts info_bool
  have h := run_make (P := Try.prog) W 26 4 i0 _ Try.underlying26 hi hz0 .i64 .i64 n n (by omega) (by omega) (by rw [hz2]; omega) (by omega)
  simp only [Int.toNat_natCast] at h
  rw [h, hz1, Nat.mul_one, ← rowF_made fb false n rfl]
  rfl
theorem set_take {α : Type} {xs ys : List α} {k : Nat} {x : α} (z : α) (hx : xs[k]? = some x) (hy : ys = xs.take k ++ List.replicate (xs.length - k) z) : ys.set k x = xs.take (k + 1) ++ List.replicate (xs.length - (k + 1)) z := by
  obtain ⟨hk, rfl⟩ := List.getElem?_eq_some_iff.1 hx
  subst hy
  rw [List.set_append_right _ _ (by simp; omega), List.length_take, Nat.min_eq_left (by omega), Nat.sub_self, take_snoc_of hx, List.append_assoc]
  congr 1
  rw [show xs.length - k = (xs.length - (k + 1)) + 1 by omega, List.replicate_succ]
  rfl

theorem nodup_app {a b c : List Nat} (h : a.Nodup) (hb : b.Nodup) (hd : ∀ x ∈ a, ∀ y ∈ b, x < y) (hc : c = a ++ b) : c.Nodup := by
  subst hc
  exact List.nodup_append.2 ⟨h, hb, fun x hx y hy => by have := hd x hx y hy; omega⟩
theorem OH.mk_ {lo : Nat} {w : World} {h : HeapM} {g g' : Nat} {os : List OCell} {c c' : Nat} (hm : os.map (·.c) = h.cells) (ho : OC w (some ⟨g, 0, none⟩) c os) (hr : OF 3 fi w (some ⟨g', 0, none⟩) c' h.roots)
    (hnd : (blk (some ⟨g, 0, none⟩) ++ blks os).Nodup) (hlt : ∀ b ∈ blk (some ⟨g, 0, none⟩) ++ blks os, b < g') (hlo : ∀ b ∈ blk (some ⟨g, 0, none⟩) ++ blks os, lo ≤ b) (hg : lo ≤ g') (h1 : h.cells.length ≤ 9223372036854775807) (h2 : h.roots.length ≤ 9223372036854775807) :
    OH lo w (.agg #[.slice (some ⟨g, 0, none⟩) h.cells.length c, .slice (some ⟨g', 0, none⟩) h.roots.length c']) h := by
  refine ⟨_, c, _, c', os, rfl, hm, ⟨ho, hr, ?_, ?_, h2⟩, ?_⟩
  · exact nodup_app hnd (by simp [blk]) (fun x hx y hy => by rw [mem_blk_some hy]; exact hlt x hx) rfl
  · rw [← hm, List.length_map] at h1; exact h1
  · intro b hb
    rcases List.mem_append.1 hb with hb | hb
    · exact hlo b hb
    · rw [mem_blk_some hb]; exact hg
end Go.Proofs.Ytkmfhadanbfadaa
