/- Texts of one family, one behind the other: Open. -/
import Derived.Test.YtbnokkdhanlhpaaRows
import Derived.ProofKit
import Derived.Deep.Slices
import Derived.Deep.Grids
import Derived.ChangeOld
import Derived.Test.YtbnokkdhanlhpaaGrOwn
/- The arguments of the laws opened: a list, a heap, a painted heap .. that comes in reads as such. No condition. -/
namespace Go.Proofs.Ytbnokkdhanlhpaa
open Go.ChangeShapes Go.WideShapes Go.ChangeAt Go.RowKit Go.Deep
set_option maxRecDepth 100000
set_option linter.unusedSimpArgs false
set_option linter.unusedVariables false

section
variable {H : Type} {enc : TypeId × Value → H} {w : World} {base : Nat}
theorem addr_at {a : Addr} (h : a.spot = none) (i : Nat) : a.add i = ⟨a.block, a.off + i, none⟩ := by
  unfold Addr.add
  split
  · subst_vars; cases a; simp_all
  · cases a; simp_all
theorem open_ints_ {n : Nat} {cs : List Value} {x : DataW H × List MemPlace} (h : DataW.trod enc Try.prog w 0 (fun _ => true) true n 24 cs = some x) :
    ∃ A xs c, cs = [.slice A xs.length c] ∧ RF fi w A xs ∧ xs.length ≤ 9223372036854775807 := by
  rcases open_ints Try.underlying24 Try.underlying3 (by kernel_rfl) h with ⟨h1, _⟩ | ⟨a, len, cap, zs, h1, _, hl, hm, hz, _, hcell, _⟩
  · exact ⟨none, [], 0, h1, fun i hi => absurd hi (by simp), by simp⟩
  · simp only [if_true] at hz
    have hlen : (zs.take len).length = len := by rw [List.length_take, hz]; omega
    refine ⟨some a, zs.take len, cap, by rw [hlen]; exact h1, fun i hi => ?_, by rw [hlen]; unfold maxLen at hm; omega⟩
    rw [hlen] at hi
    have h0 : a.spot = none := by
      have := hcell 0 (by omega)
      have h2 := World.cell?_spot this
      simpa [Addr.add] using h2
    have hc := hcell i (by omega)
    rw [addr_at h0] at hc
    refine ⟨a.block, a.off, zs.getD i 0, by cases a; simp_all, ?_, hc⟩
    rw [List.getElem?_take, if_pos hi, List.getElem?_eq_getElem (by omega)]
    simp [List.getD, List.getElem?_eq_getElem (show i < zs.length by omega)]
theorem open_bools_ {n : Nat} {cs : List Value} {x : DataW H × List MemPlace} (h : DataW.trod enc Try.prog w 0 (fun _ => true) true n 99 cs = some x) :
    ∃ A xs c, cs = [.slice A xs.length c] ∧ RF fb w A xs ∧ xs.length ≤ 9223372036854775807 := by
  rcases open_bools Try.underlying99 Try.underlying4 (by kernel_rfl) h with ⟨h1, _⟩ | ⟨a, len, cap, B, h1, _, hl, hm, _, hcell⟩
  · exact ⟨none, [], 0, h1, fun i hi => absurd hi (by simp), by simp⟩
  · have hlen : ((List.range len).map B).length = len := by simp
    refine ⟨some a, (List.range len).map B, cap, by rw [hlen]; exact h1, fun i hi => ?_, by rw [hlen]; unfold maxLen at hm; omega⟩
    rw [hlen] at hi
    have h0 : a.spot = none := by
      have := hcell 0 (by omega)
      have h2 := World.cell?_spot this
      simpa [Addr.add] using h2
    have hc := hcell i (by omega)
    rw [addr_at h0] at hc
    exact ⟨a.block, a.off, B i, by cases a; simp_all, by simp [hi], hc⟩
theorem choose_list {α : Type} {p : Nat → α → Prop} (n : Nat) (h : ∀ i, i < n → ∃ a, p i a) : ∃ l : List α, l.length = n ∧ ∀ i a, l[i]? = some a → p i a := by
  induction n with
  | zero => exact ⟨[], rfl, fun i a h => by simp at h⟩
  | succ n ih =>
    obtain ⟨l, hl, hp⟩ := ih fun i hi => h i (by omega)
    obtain ⟨a, ha⟩ := h n (by omega)
    refine ⟨l ++ [a], by simp [hl], fun i b hb => ?_⟩
    rcases Nat.lt_or_ge i n with hi | hi
    · exact hp i b (by rw [List.getElem?_append_left (by omega)] at hb; exact hb)
    · rw [List.getElem?_append_right (by omega)] at hb
      have : i = n := by
        have := (List.getElem?_eq_some_iff.1 hb).1
        simp at this; omega
      subst this
      simp [hl] at hb
      subst hb; exact ha
theorem trod_at {n : Nat} {t : TypeId} {fs : Array Field} {cs : List Value} {x : DataW H × List MemPlace} (ht : Try.prog.underlying t = some (.struct fs)) (h : DataW.trod enc Try.prog w 0 (fun _ => true) true n t cs = some x) :
    cs.length = Try.prog.cellsOf t ∧ ∃ m, ∀ (i : Nat) (f : Field) (o : Nat) (ft : TypeId) (k : Nat), fs[i]? = some f → f.offset = o → f.type = ft → Try.prog.cellsOf ft = k →
      ∃ y, DataW.trod enc Try.prog w 0 (fun _ => true) true m ft ((cs.drop o).take k) = some y := by
  obtain ⟨ys, m, _, _, hl, hyl, hf⟩ := DataW.trod_struct ht h
  refine ⟨hl, m, fun i f o ft k hi ho ht hk => ?_⟩
  subst ho; subst ht; subst hk
  have hlt : i < ys.length := by rw [hyl]; exact (Array.getElem?_eq_some_iff.1 hi).1
  exact ⟨_, (hf i f hi).trans (List.getElem?_eq_getElem hlt)⟩
theorem open_cell_ {n : Nat} {cs : List Value} {x : DataW H × List MemPlace} (h : DataW.trod enc Try.prog w 0 (fun _ => true) true n 139 cs = some x) :
    ∃ (c : CellM) (Ar : Option Addr) (cr : Nat), cs = [.bool c.used, .int .i64 c.data, .slice Ar c.refs.length cr] ∧ RF fi w Ar c.refs ∧ c.refs.length ≤ 9223372036854775807 := by
  obtain ⟨hl, m, hf⟩ := trod_at Try.underlying139 h
  have hl3 : cs.length = 3 := hl.trans (by kernel_rfl)
  match cs, hl3 with
  | [c0, c1, c2], _ =>
    obtain ⟨y0, h0⟩ := hf 0 _ 0 4 1 rfl rfl rfl (by kernel_rfl)
    obtain ⟨y1, h1⟩ := hf 1 _ 1 3 1 rfl rfl rfl (by kernel_rfl)
    obtain ⟨y2, h2⟩ := hf 2 _ 2 24 1 rfl rfl rfl (by kernel_rfl)
    obtain ⟨u, e0, _⟩ := DataW.trod_bool Try.underlying4 h0
    obtain ⟨d, e1, _⟩ := DataW.trod_int Try.underlying3 h1
    obtain ⟨A, xs, c, e2, hr, hn⟩ := open_ints_ h2
    simp at e0 e1 e2
    exact ⟨⟨u, d, xs⟩, A, c, by simp [e0, e1, e2], hr, hn⟩
theorem open_cells_ {n : Nat} {cs : List Value} {x : DataW H × List MemPlace} (h : DataW.trod enc Try.prog w 0 (fun _ => true) true n 54 cs = some x) :
    ∃ A ys c, cs = [.slice A (ys : List CellM).length c] ∧ RC w A ys ∧ ys.length ≤ 9223372036854775807 := by
  rcases open_slice Try.underlying54 h with ⟨h1, _⟩ | ⟨a, len, cap, m, n, D, Pl, h1, _, hl, hm, hmm, _, hi⟩
  · exact ⟨none, [], 0, h1, fun i hi => absurd hi (by simp), by simp⟩
  · simp only [if_true] at hmm
    have key : ∀ i, i < len → ∃ c : CellM, ∃ Ar cr, a.spot = none ∧ w.cell? ⟨a.block, a.off + i * 3, none⟩ = some (.bool c.used) ∧ w.cell? ⟨a.block, a.off + i * 3 + 1, none⟩ = some (.int .i64 c.data) ∧
        w.cell? ⟨a.block, a.off + i * 3 + 2, none⟩ = some (.slice Ar c.refs.length cr) ∧ RF fi w Ar c.refs ∧ c.refs.length ≤ 9223372036854775807 := by
      have h0 : 0 < len → a.spot = none := fun hp => by
        obtain ⟨cs', hc, ht⟩ := hi 0 (by omega)
        rw [show Try.prog.cellsOf 139 = 3 by kernel_rfl] at hc
        obtain ⟨_, hcl, hat⟩ := World.cells?_some hc
        have h3 := hat 0 (by omega)
        rw [List.getElem?_eq_getElem (by omega)] at h3
        have h4 := World.cell?_spot h3
        simpa [Addr.add] using h4
      intro i hil
      have h0 := h0 (by omega)
      obtain ⟨cs', hc, ht⟩ := hi i (by omega)
      rw [show Try.prog.cellsOf 139 = 3 by kernel_rfl] at hc
      obtain ⟨_, hcl, hat⟩ := World.cells?_some hc
      obtain ⟨c, Ar, cr, rfl, hr, hn⟩ := open_cell_ ht
      have g0 := hat 0 (by omega)
      have g1 := hat 1 (by omega)
      have g2 := hat 2 (by omega)
      rw [addr_at h0, addr_at rfl] at g0 g1 g2
      exact ⟨c, Ar, cr, h0, g0, g1, g2, hr, hn⟩
    obtain ⟨ys, hyl, hy⟩ := choose_list len key
    subst hyl
    refine ⟨some a, ys, cap, h1, fun i hil => ?_, by unfold maxLen at hm; omega⟩
    obtain ⟨Ar, cr, h0, g0, g1, g2, hr, hn⟩ := hy i _ (List.getElem?_eq_getElem hil)
    exact ⟨a.block, a.off, ys[i], Ar, cr, by cases a; simp_all, List.getElem?_eq_getElem hil, g0, g1, g2, hr, hn⟩
theorem open_heap_ {n : Nat} {cs : List Value} {x : DataW H × List MemPlace} (h : DataW.trod enc Try.prog w 0 (fun _ => true) true n 56 cs = some x) :
    ∃ (hm : HeapM) (A : Option Addr) (c : Nat) (A' : Option Addr) (c' : Nat), cs = [.slice A hm.cells.length c, .slice A' hm.roots.length c'] ∧ RHs w A A' hm := by
  obtain ⟨hl, m, hf⟩ := trod_at Try.underlying56 h
  have hl2 : cs.length = 2 := hl.trans (by kernel_rfl)
  match cs, hl2 with
  | [c0, c1], _ =>
    obtain ⟨y0, h0⟩ := hf 0 _ 0 54 1 rfl rfl rfl (by kernel_rfl)
    obtain ⟨y1, h1⟩ := hf 1 _ 1 24 1 rfl rfl rfl (by kernel_rfl)
    obtain ⟨A, ys, c, e0, hr, hn⟩ := open_cells_ h0
    obtain ⟨A', xs, c', e1, hr', hn'⟩ := open_ints_ h1
    simp at e0 e1
    exact ⟨⟨ys, xs⟩, A, c, A', c', by simp [e0, e1], hr, hr', hn, hn'⟩
theorem open_Heap_ {v : Value} {d : DataW H} {p : List MemPlace} (hv : Value.okWide Try.prog w .any base 56 v) (h : DataW.Trod enc Try.prog w 0 (fun _ => true) true 56 v d p) : ∃ hm, RH w v hm := by
  obtain ⟨cs, rfl, hsz⟩ := okWide_struct Try.underlying56 hv
  obtain ⟨fuel, h⟩ := h
  obtain ⟨l⟩ := cs
  obtain ⟨hm, A, c, A', c', e0, hr⟩ := open_heap_ h
  simp [Value.cells] at e0
  subst e0
  exact ⟨hm, hr.rh c c'⟩
end
end Go.Proofs.Ytbnokkdhanlhpaa
