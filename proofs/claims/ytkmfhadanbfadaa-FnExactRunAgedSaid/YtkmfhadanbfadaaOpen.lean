/- The arguments of the laws opened: a list, a heap, a painted heap .. that comes in reads as such. No condition. -/
import Derived.Test.YtkmfhadanbfadaaRows
import Derived.ProofKit
import Derived.Deep.Slices
import Derived.Deep.Grids
import Derived.ChangeOld
import Derived.Test.YtkmfhadanbfadaaGrOwn
namespace Go.Proofs.Ytkmfhadanbfadaa
open Go.ChangeShapes Go.WideShapes Go.ChangeAt Go.RowKit Go.Deep
set_option maxRecDepth 100000
set_option linter.unusedSimpArgs false
set_option linter.unusedVariables false

section
variable {H : Type} {enc : TypeId × Value → H} {w : World} {base : Nat}
theorem addr_at {a : Addr} (h : a.spot = none) (i : Nat) : a.add i = ⟨a.block, a.off + i, none⟩ := by
  unfold Addr.add
  split
  · subst_vars; cases a; simp_all
  · cases a; simp_all
theorem choose_list {α : Type} {p : Nat → α → Prop} (n : Nat) (h : ∀ i, i < n → ∃ a, p i a) : ∃ l : List α, l.length = n ∧ ∀ i a, l[i]? = some a → p i a := by
  induction n with
  | zero => exact ⟨[], rfl, fun i a h => by simp at h⟩
  | succ n ih =>
    obtain ⟨l, hl, hp⟩ := ih fun i hi => h i (by omega)
    obtain ⟨a, ha⟩ := h n (by omega)
    refine ⟨l ++ [a], by simp [hl], fun i b hb => ?_⟩
    rcases Nat.lt_or_ge i n with hi | hi
    · exact hp i b (by rw [List.getElem?_append_left (by omega)] at hb; exact hb)
    · rw [List.getElem?_append_right (by omega)] at hb
      have : i = n := by
        have := (List.getElem?_eq_some_iff.1 hb).1
        simp at this; omega
      subst this
      simp [hl] at hb
      subst hb; exact ha
theorem trod_at {n : Nat} {t : TypeId} {fs : Array Field} {cs : List Value} {x : DataW H × List MemPlace} (ht : Try.prog.underlying t = some (.struct fs)) (h : DataW.trod enc Try.prog w 0 (fun _ => true) true n t cs = some x) :
    cs.length = Try.prog.cellsOf t ∧ ∃ m, ∀ (i : Nat) (f : Field) (o : Nat) (ft : TypeId) (k : Nat), fs[i]? = some f → f.offset = o → f.type = ft → Try.prog.cellsOf ft = k →
      ∃ y, DataW.trod enc Try.prog w 0 (fun _ => true) true m ft ((cs.drop o).take k) = some y := by
  obtain ⟨ys, m, _, _, hl, hyl, hf⟩ := DataW.trod_struct ht h
  refine ⟨hl, m, fun i f o ft k hi ho ht hk => ?_⟩
  subst ho; subst ht; subst hk
  have hlt : i < ys.length := by rw [hyl]; exact (Array.getElem?_eq_some_iff.1 hi).1
  exact ⟨_, (hf i f hi).trans (List.getElem?_eq_getElem hlt)⟩
end
end Go.Proofs.Ytkmfhadanbfadaa
