/- Texts of one family, one behind the other: CloR, Clo, CloL, CloC. -/
import Derived.Test.YtkmfhadanbfadaaChecked
import Derived.RegionTactic
import Derived.BigRegion
import Derived.Deep.DeepCutAuto
import Derived.Test.YtkmfhadanbfadaaGrCopy
import Derived.Test.YtkmfhadanbfadaaGrOwn
import Derived.Test.YtkmfhadanbfadaaGrHeap
import Derived.Test.YtkmfhadanbfadaaGrData
import Derived.Deep.LoopGhost
import Derived.Test.YtkmfhadanbfadaaSnapV
import Derived.Test.YtkmfhadanbfadaaGrTo
import Derived.Test.YtkmfhadanbfadaaSet
import Derived.Deep.RegionHeld3
/- Reachability in the reference: l7Reach and Reachable. -/
namespace Go.Proofs.Ytkmfhadanbfadaa
open Go.RowKit
set_option maxRecDepth 100000
set_option linter.unusedSimpArgs false
set_option linter.unusedVariables false
theorem RF.singR {α : Type} {f : α → Value} {w : World} {g : Nat} {x : α} (h : w.cell? ⟨g, 0, none⟩ = some (f x)) : RF f w (some ⟨g, 0, none⟩) [x] := fun i hi => by
  obtain rfl : i = 0 := by simp at hi; omega
  exact ⟨g, 0, x, rfl, rfl, h⟩
theorem OF.new0 {α : Type} {T : TypeId} {f : α → Value} {w : World} {q : Nat} (h : w.heap[q]? = some (.cells #[] T (0, 0))) : OF T f w (some ⟨q, 0, none⟩) 0 ([] : List α) :=
  ⟨by simp, .inr ⟨q, 0, #[], rfl, Nat.zero_le _, h, by simp, by simp, by simp, by simp⟩⟩
def visB (st : List Bool × List Int) (r : Int) : List Bool × List Int := if 0 ≤ r ∧ st.1[r.toNat]? = some false then (st.1.set r.toNat true, st.2 ++ [r]) else st
def visBL (st : List Bool × List Int) (rs : List Int) : List Bool × List Int := rs.foldl visB st
theorem visBL_snoc {st : List Bool × List Int} {rs : List Int} {k : Nat} {r : Int} (h : rs[k]? = some r) : visBL st (rs.take (k + 1)) = visB (visBL st (rs.take k)) r := by
  unfold visBL; rw [take_snoc_of h, List.foldl_append]; rfl
theorem visB_neg {st : List Bool × List Int} {r : Int} (h : r < 0) : visB st r = st := by unfold visB; rw [if_neg (by omega)]
theorem visB_met {st : List Bool × List Int} {r : Int} (h : st.1[r.toNat]? = some true) : visB st r = st := by unfold visB; rw [if_neg (by rw [h]; simp)]
theorem visB_new {st : List Bool × List Int} {r : Int} (h0 : 0 ≤ r) (h : st.1[r.toNat]? = some false) : visB st r = (st.1.set r.toNat true, st.2 ++ [r]) := by unfold visB; rw [if_pos ⟨h0, h⟩]
theorem visB_len (st : List Bool × List Int) (r : Int) : (visB st r).1.length = st.1.length := by unfold visB; split <;> simp
theorem visB_len2 (st : List Bool × List Int) (r : Int) : (visB st r).2.length ≤ st.2.length + 1 := by unfold visB; split <;> simp
def getB (l : List Bool) : Nat → Bool := fun k => l.getD k false
theorem getB_set {l : List Bool} {i : Nat} (h : i < l.length) : getB (l.set i true) = fun k => if k = i then true else getB l k := by
  funext k
  unfold getB
  by_cases e : k = i
  · subst e; simp [List.getD, h]
  · have e2 : ¬ i = k := fun h => e h.symm
    simp [List.getD, List.getElem?_set, e, e2]
theorem visB_vis {st : List Bool × List Int} {r : Int} (h : r < st.1.length) : (getB (visB st r).1, (visB st r).2) = vis1 nonneg (getB st.1, st.2) r := by
  by_cases h0 : 0 ≤ r
  · have hl : r.toNat < st.1.length := by omega
    have hx := List.getElem?_eq_getElem hl
    have hg : getB st.1 r.toNat = st.1[r.toNat] := by unfold getB; rw [List.getD, hx]; rfl
    rcases bool_ft (st.1[r.toNat]) with e | e
    · rw [e] at hx hg
      rw [visB_new h0 hx, vis1_yes (by simp [nonneg, h0]) hg, getB_set hl]
    · rw [e] at hx hg
      rw [visB_met hx, vis1_no (.inr hg)]
  · rw [visB_neg (by omega), vis1_no (.inl (by simp [nonneg]; omega))]
theorem visBL_vis (rs : List Int) : ∀ (st : List Bool × List Int), (∀ r ∈ rs, r < st.1.length) → (getB (visBL st rs).1, (visBL st rs).2) = visL nonneg (getB st.1, st.2) rs := by
  induction rs with
  | nil => intro st _; rfl
  | cons r rs ih =>
    intro st h
    show (getB (visBL (visB st r) rs).1, (visBL (visB st r) rs).2) = visL nonneg (vis1 nonneg (getB st.1, st.2) r) rs
    rw [ih _ (fun x hx => by rw [visB_len]; exact h x (by simp [hx])), visB_vis (h r (by simp))]
theorem visBL_len (rs : List Int) : ∀ (st : List Bool × List Int), (visBL st rs).1.length = st.1.length := by
  induction rs with
  | nil => intro st; rfl
  | cons r rs ih => intro st; exact (ih _).trans (visB_len st r)
theorem visBL_len2 (rs : List Int) : ∀ (st : List Bool × List Int), (visBL st rs).2.length ≤ st.2.length + rs.length := by
  induction rs with
  | nil => intro st; exact Nat.le_refl _
  | cons r rs ih => intro st; have h1 := ih (visB st r); have h2 := visB_len2 st r; show (visBL (visB st r) rs).2.length ≤ _; rw [List.length_cons]; omega
theorem visB_ge (st : List Bool × List Int) (r : Int) : st.2.length ≤ (visB st r).2.length := by unfold visB; split <;> simp
theorem visBL_ge (rs : List Int) : ∀ (st : List Bool × List Int), st.2.length ≤ (visBL st rs).2.length := by
  induction rs with
  | nil => intro st; exact Nat.le_refl _
  | cons r rs ih => intro st; exact Nat.le_trans (visB_ge st r) (ih (visB st r))
theorem getB_rep (n : Nat) : getB (List.replicate n false) = fun _ => false := by
  funext k
  unfold getB
  by_cases h : k < n <;> simp [List.getD, h, List.getElem?_replicate]
end Go.Proofs.Ytkmfhadanbfadaa

/- closure of the program: the cells of a set that can be reached by cells of the set. -/
namespace Go.Proofs.Ytkmfhadanbfadaa
open Go.RowKit
set_option maxRecDepth 100000
set_option linter.unusedSimpArgs false
set_option linter.unusedVariables false
theorem RF.sing {α : Type} {f : α → Value} {w : World} {g : Nat} {x : α} (h : w.cell? ⟨g, 0, none⟩ = some (f x)) : RF f w (some ⟨g, 0, none⟩) [x] := fun i hi => by
  obtain rfl : i = 0 := by simp at hi; omega
  exact ⟨g, 0, x, rfl, rfl, h⟩
/-! ### Sets as numbers -/
def visN (s : Nat) (st : Nat × List Int) (r : Int) : Nat × List Int := if hasB s r && !hasB st.1 r then (st.1 ||| 2 ^ r.toNat, st.2 ++ [r]) else st
def visNL (s : Nat) (st : Nat × List Int) (rs : List Int) : Nat × List Int := rs.foldl (visN s) st
theorem visNL_snoc {s : Nat} {st : Nat × List Int} {rs : List Int} {k : Nat} {r : Int} (h : rs[k]? = some r) : visNL s st (rs.take (k + 1)) = visN s (visNL s st (rs.take k)) r := by
  unfold visNL; rw [take_snoc_of h, List.foldl_append]; rfl
theorem visN_out {s : Nat} {st : Nat × List Int} {r : Int} (h : hasB s r = false) : visN s st r = st := by unfold visN; rw [h]; rfl
theorem visN_met {s : Nat} {st : Nat × List Int} {r : Int} (h : hasB st.1 r = true) : visN s st r = st := by unfold visN; rw [h]; simp
theorem visN_new {s : Nat} {st : Nat × List Int} {r : Int} (h : hasB s r = true) (h2 : hasB st.1 r = false) : visN s st r = (st.1 ||| 2 ^ r.toNat, st.2 ++ [r]) := by unfold visN; rw [h, h2]; rfl
theorem visN_vis (s : Nat) (st : Nat × List Int) (r : Int) : ((visN s st r).1.testBit, (visN s st r).2) = vis1 (hasB s) (st.1.testBit, st.2) r := by
  rcases bool_ft (hasB s r) with h1 | h1
  · rw [visN_out h1, vis1_no (.inl h1)]
  · have h0 : 0 ≤ r := by unfold hasB at h1; simp at h1; exact h1.1
    have h3 : hasB st.1 r = st.1.testBit r.toNat := hasB_at h0
    rcases bool_ft (hasB st.1 r) with h2 | h2
    · rw [visN_new h1 h2, vis1_yes h1 (by show st.1.testBit r.toNat = false; rw [← h3]; exact h2)]
      congr 1
      funext k
      rw [or_pow_test]
      by_cases e : k = r.toNat
      · simp [e]
      · have e2 : ¬ r.toNat = k := fun h => e h.symm
        simp [e, e2]
    · rw [visN_met h2, vis1_no (.inr (by show st.1.testBit r.toNat = true; rw [← h3]; exact h2))]
theorem visNL_vis (s : Nat) (rs : List Int) : ∀ st : Nat × List Int, ((visNL s st rs).1.testBit, (visNL s st rs).2) = visL (hasB s) (st.1.testBit, st.2) rs := by
  induction rs with
  | nil => intro st; rfl
  | cons r rs ih =>
    intro st
    show ((visNL s (visN s st r) rs).1.testBit, (visNL s (visN s st r) rs).2) = visL (hasB s) (vis1 (hasB s) (st.1.testBit, st.2) r) rs
    rw [ih, visN_vis]
theorem visN_lt {s : Nat} {st : Nat × List Int} {r : Int} (h : st.1 < 18446744073709551616) (hr : r < 64) : (visN s st r).1 < 18446744073709551616 := by
  unfold visN; split
  · exact or_lt64 h (pow_lt64 (by omega))
  · exact h
theorem visN_len (s : Nat) (st : Nat × List Int) (r : Int) : (visN s st r).2.length ≤ st.2.length + 1 := by unfold visN; split <;> simp
/-! ### The captured variables of closure -/
structure ClSt (lo : Nat) (w : World) (bw bm bk s m : Nat) (S : Option Addr) (cS : Nat) (wk : List Int) : Prop where
  kw : w.cell? ⟨bw, 0, none⟩ = some (.int .u64 (s : Int))
  km : w.cell? ⟨bm, 0, none⟩ = some (.int .u64 (m : Int))
  fm : w.frozen? ⟨bm, 0, none⟩ = false
  kk : w.cell? ⟨bk, 0, none⟩ = some (.slice S wk.length cS)
  fk : w.frozen? ⟨bk, 0, none⟩ = false
  own : OF 3 fi w S cS wk
  nwm : bw ≠ bm
  nwk : bw ≠ bk
  nmk : bm ≠ bk
  aw : bw ∉ blk S
  am : bm ∉ blk S
  ak : bk ∉ blk S
  lw : lo ≤ bw
  lm : lo ≤ bm
  lk : lo ≤ bk
  ls : ∀ b ∈ blk S, lo ≤ b
section
variable {lo : Nat} {w w' : World} {bw bm bk s m : Nat} {S : Option Addr} {cS : Nat} {wk : List Int}
theorem ClSt.ltw (h : ClSt lo w bw bm bk s m S cS wk) : bw < w.heap.size := World.block_lt_of_cell? w _ h.kw
theorem ClSt.ltm (h : ClSt lo w bw bm bk s m S cS wk) : bm < w.heap.size := World.block_lt_of_cell? w _ h.km
theorem ClSt.ltk (h : ClSt lo w bw bm bk s m S cS wk) : bk < w.heap.size := World.block_lt_of_cell? w _ h.kk
/-- The set has changed. -/
theorem ClSt.setM (h : ClSt lo w bw bm bk s m S cS wk) (m' : Nat) : ClSt lo (w.setCell ⟨bm, 0, none⟩ (.int .u64 (m' : Int))) bw bm bk s m' S cS wk := by
  have h1 := h.nwm
  have h2 := h.nmk
  have h3 := h.nmk.symm
  have k0 := h.kw
  have k1 := h.km
  have k2 := h.kk
  exact ⟨by simp [go_sem, k0, h1, h1.symm], by simp [go_sem, k1], by simp [go_sem, h.fm], by simp [go_sem, k2, h2, h3], by simp [go_sem, h.fk], h.own.ne_ h.am, h.nwm, h.nwk, h.nmk, h.aw, h.am, h.ak, h.lw, h.lm, h.lk, h.ls⟩
/-- Another row of work is stored. -/
theorem ClSt.setK (h : ClSt lo w bw bm bk s m S cS wk) (hOn : Only (blk S) w w') {S' : Option Addr} {cS' n : Nat} {wk' : List Int} (hO : OF 3 fi w' S' cS' wk') (hn : n = wk'.length) (hg : ∀ g ∈ blk S', g ∈ blk S ∨ w.heap.size ≤ g) : ClSt lo (w'.setCell ⟨bk, 0, none⟩ (.slice S' n cS')) bw bm bk s m S' cS' wk' := by
  have k0 := hOn.cell h.kw h.aw
  have k1 := hOn.cell h.km h.am
  have k2 := hOn.cell h.kk h.ak
  have f1 := (hOn.frozenAt bm 0 h.ltm h.am).trans h.fm
  have f2 := (hOn.frozenAt bk 0 h.ltk h.ak).trans h.fk
  have lw := h.ltw
  have lm := h.ltm
  have lk := h.ltk
  have key : ∀ b, b < w.heap.size → b ∉ blk S → b ∉ blk S' := fun b hb hn hc => by rcases hg b hc with h9 | h9; exact hn h9; omega
  have ak := key bk lk h.ak
  have h1 := h.nwk
  have h2 := h.nmk
  subst hn
  exact ⟨by simp [go_sem, k0, h1, h1.symm], by simp [go_sem, k1, h2, h2.symm], by simp [go_sem, f1], by simp [go_sem, k2], by simp [go_sem, f2], hO.ne_ ak, h.nwm, h.nwk, h.nmk, key bw lw h.aw, key bm lm h.am, ak, h.lw, h.lm, h.lk, fun b hb => by rcases hg b hb with h9 | h9; exact h.ls b h9; have := h.lw; omega⟩
theorem ClSt.below (h : ClSt lo w bw bm bk s m S cS wk) (hb : Below w.heap.size w w') : ClSt lo w' bw bm bk s m S cS wk :=
  ⟨cell_below h.kw hb, cell_below h.km hb, ((bcell hb).2.1 _ _ h.ltm).trans h.fm, cell_below h.kk hb, ((bcell hb).2.1 _ _ h.ltk).trans h.fk, h.own.below hb, h.nwm, h.nwk, h.nmk, h.aw, h.am, h.ak, h.lw, h.lm, h.lk, h.ls⟩
end
end Go.Proofs.Ytkmfhadanbfadaa

/- A set as a list of flags. -/
namespace Go.Proofs.Ytkmfhadanbfadaa
open Go.RowKit
set_option maxRecDepth 100000
set_option linter.unusedSimpArgs false
set_option linter.unusedVariables false
end Go.Proofs.Ytkmfhadanbfadaa

/- closure, reachable and Reachable of the program. -/
namespace Go.Proofs.Ytkmfhadanbfadaa
open Go.RowKit
set_option maxRecDepth 100000
set_option linter.unusedSimpArgs false
set_option linter.unusedVariables false
theorem OF.new1 {α : Type} {T : TypeId} {f : α → Value} {w : World} {q : Nat} (h : w.heap[q]? = some (.cells #[] T (0, 0))) : OF T f w (some ⟨q, 0, none⟩) 0 ([] : List α) :=
  ⟨by simp, .inr ⟨q, 0, #[], rfl, Nat.zero_le _, h, by simp, by simp, by simp, by simp⟩⟩
theorem visNL_lt {s : Nat} (rs : List Int) : ∀ {st : Nat × List Int}, st.1 < 18446744073709551616 → (∀ r ∈ rs, r < 64) → (visNL s st rs).1 < 18446744073709551616 := by
  induction rs with
  | nil => intro st h _; exact h
  | cons r rs ih => intro st h hr; exact ih (visN_lt h (hr r (by simp))) fun x hx => hr x (by simp [hx])
theorem OF.cap {α : Type} {T : TypeId} {f : α → Value} {w : World} {A : Option Addr} {c : Nat} {xs : List α} (h : OF T f w A c xs) : xs.length ≤ c := by
  rcases ownsRow_block h with ⟨_, h0, h1⟩ | ⟨g, cur, rfl, hg, hnc, hc, hs, ht⟩
  · omega
  · exact hnc
end Go.Proofs.Ytkmfhadanbfadaa
