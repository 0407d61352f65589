/- Plain laws for the reference's CollectYoung. -/
import Derived.Test.YtmlgndeihfpfgaaCollY
import Derived.Test.YtmlgndeihfpfgaaGrClo
import Derived.Test.YtmlgndeihfpfgaaChecked
import Derived.Deep.DeepCutAuto
import Derived.Test.YtmlgndeihfpfgaaGrData
import Derived.Test.YtmlgndeihfpfgaaSmall
import Derived.Test.YtmlgndeihfpfgaaGrHeap
import Derived.Test.YtmlgndeihfpfgaaGrCopy
import Derived.Test.YtmlgndeihfpfgaaGrExec
namespace Go.Proofs.Ytmlgndeihfpfgaa
set_option linter.unusedSimpArgs false
set_option linter.unusedVariables false
theorem filt_snoc {α : Type} {f : α → Bool} {rs : List α} {k : Nat} {r : α} (h : rs[k]? = some r) : (rs.take (k + 1)).filter f = if f r then (rs.take k).filter f ++ [r] else (rs.take k).filter f := by
  rw [take_snoc_of h, List.filter_append, List.filter_cons]; split <;> simp
/-- The list from which the reference begins: the roots and the references of the noted cells below j, those to young cells. -/
def frS (p : TwoM) (j : Nat) : List Int := (fromM p j).filter (youngRef p.x)
theorem frS_zero (p : TwoM) : frS p 0 = p.store.roots.filter (youngRef p.x) := by unfold frS; rw [fromM_zero]
theorem frS_yes {p : TwoM} {j : Nat} (h : p.y.getD j false = true) : frS p (j + 1) = frS p j ++ (refsAt p.store j).filter (youngRef p.x) := by unfold frS; rw [fromM_succ, if_pos h, List.filter_append]
theorem frS_no {p : TwoM} {j : Nat} (h : p.y.getD j false = false) : frS p (j + 1) = frS p j := by unfold frS; rw [fromM_succ, if_neg (by rw [h]; simp)]
theorem frS_len {p : TwoM} (hv : validM p.store = true) (j : Nat) : (frS p j).length ≤ 4 + 3 * j := Nat.le_trans (List.length_filter_le _ _) (fromM_len hv j)
theorem okRef_young (x : List Bool) : okRef (youngRef x) (getB x) := fun r => rfl
/-- What holds while the young cells are looked for. -/
structure YouS (p : TwoM) (ks : List Bool) (lst : List Int) (i : Nat) : Prop where
  inv : YouI (refsAt p.store) (getB p.x) (youngRef p.x) (fromM p p.store.cells.length) (getB ks) lst i
  len : ks.length = p.store.cells.length
  lt : ∀ r ∈ lst, r < p.store.cells.length
  bound : lst.length + 3 * unmet p.store.cells.length (getB ks) ≤ 300
  le : i ≤ lst.length
theorem YouS.init {p : TwoM} (hv : validM p.store = true) (hx : p.x.length = p.store.cells.length) : YouS p p.x (frS p p.store.cells.length) 0 := by
  refine ⟨YouI.init, hx, fun r hr => leadsM_lt (fromM_leads hv _ r (List.mem_filter.1 hr).1), ?_, Nat.zero_le _⟩
  have h1 := frS_len hv p.store.cells.length
  have h2 := unmet_le p.store.cells.length (getB p.x)
  have h3 := (valid_small hv).1
  omega
theorem YouS.skip {p : TwoM} {ks : List Bool} {lst : List Int} {i : Nat} (h : YouS p ks lst i) {r : Int} (hr : lst[i]? = some r) (hK : ks[r.toNat]? = some true) : YouS p ks lst (i + 1) :=
  ⟨h.inv.skip hr (by unfold getB; rw [List.getD, hK]; rfl), h.len, h.lt, h.bound, (List.getElem?_eq_some_iff.1 hr).1⟩
/-- The references that are added when the cell of r is kept: those among its first j. -/
def addS (ks : List Bool) (rs : List Int) (j : Nat) : List Int := newsM (getB ks) (rs.take j)
theorem addS_zero (ks : List Bool) (rs : List Int) : addS ks rs 0 = [] := rfl
theorem addS_old {ks : List Bool} {rs : List Int} {j : Nat} {r : Int} (h : rs[j]? = some r) (hn : r < 0) : addS ks rs (j + 1) = addS ks rs j := by
  unfold addS; rw [newsM_snoc h, if_neg]; simp [nonneg]; omega
theorem addS_met {ks : List Bool} {rs : List Int} {j : Nat} {r : Int} (h : rs[j]? = some r) (hm : ks[r.toNat]? = some true) : addS ks rs (j + 1) = addS ks rs j := by
  unfold addS; rw [newsM_snoc h, if_neg]; unfold getB; rw [List.getD, hm]; simp
theorem addS_new {ks : List Bool} {rs : List Int} {j : Nat} {r : Int} (h : rs[j]? = some r) (h0 : 0 ≤ r) (hm : ks[r.toNat]? = some false) : addS ks rs (j + 1) = addS ks rs j ++ [r] := by
  unfold addS; rw [newsM_snoc h, if_pos]; unfold getB; rw [List.getD, hm]; simp [nonneg, h0]
theorem addS_len (ks : List Bool) (rs : List Int) (j : Nat) : (addS ks rs j).length ≤ rs.length := by
  unfold addS; refine Nat.le_trans (newsM_len _ _) ?_; rw [List.length_take]; omega
theorem YouS.take {p : TwoM} {ks : List Bool} {lst : List Int} {i : Nat} (hv : validM p.store = true) (h : YouS p ks lst i) {r : Int} (hr : lst[i]? = some r) (h0 : 0 ≤ r) (hK : ks[r.toNat]? = some false) :
    YouS p (ks.set r.toNat true) (lst ++ addS (ks.set r.toNat true) (refsAt p.store r.toNat) (refsAt p.store r.toNat).length) (i + 1) ∧ unmet p.store.cells.length (getB (ks.set r.toNat true)) < unmet p.store.cells.length (getB ks) := by
  obtain ⟨hl, hk⟩ := List.getElem?_eq_some_iff.1 hK
  have e : getB (ks.set r.toNat true) = setK (getB ks) r.toNat := getB_set hl
  have hf : getB ks r.toNat = false := by unfold getB; rw [List.getD, hK]; rfl
  have hu : unmet p.store.cells.length (getB (ks.set r.toNat true)) < unmet p.store.cells.length (getB ks) := by
    rw [e]; exact unmet_setK (by rw [← h.len]; exact hl) hf
  have h3 := refsAt_small hv r.toNat
  have h4 := addS_len (ks.set r.toNat true) (refsAt p.store r.toNat) (refsAt p.store r.toNat).length
  refine ⟨⟨?_, by simp [h.len], fun x hx => ?_, ?_, ?_⟩, hu⟩
  · have := h.inv.take (okRef_young p.x) hr hf
    unfold addS
    rw [List.take_length, e]
    exact this
  · rcases List.mem_append.1 hx with h5 | h5
    · exact h.lt x h5
    · unfold addS newsM at h5
      exact leadsM_lt (refsAt_leads hv _ x (List.mem_of_mem_take (List.mem_filter.1 h5).1))
  · have := h.bound
    rw [List.length_append]; omega
  · have := (List.getElem?_eq_some_iff.1 hr).1
    rw [List.length_append]; omega
theorem YouS.done {p : TwoM} {ks : List Bool} {lst : List Int} {i : Nat} (h : YouS p ks lst i) (hx : p.x.length = p.store.cells.length) (hi : lst.length ≤ i) : ks = keepM p :=
  keepM_of hx h.len (fun k => rfl) fun k => h.inv.done (okRef_young p.x) hi k
theorem YouS.at_ {p : TwoM} {ks : List Bool} {lst : List Int} {i : Nat} (h : YouS p ks lst i) {r : Int} (hr : lst[i]? = some r) : ∃ k : Nat, r = (k : Int) ∧ k < p.store.cells.length := by
  have h1 := (h.inv.list r (List.mem_of_getElem? hr)).1
  unfold youngRef at h1
  simp at h1
  obtain ⟨k, rfl⟩ := Int.eq_ofNat_of_zero_le h1.1
  have := h.lt _ (List.mem_of_getElem? hr)
  exact ⟨k, rfl, by omega⟩
/-- A measure of the rounds. -/
def measS (p : TwoM) (ks : List Bool) (lst : List Int) (i : Nat) : Nat := 4 * unmet p.store.cells.length (getB ks) + (lst.length - i)
theorem measS_take {p : TwoM} {ks ks' : List Bool} {lst ns : List Int} {i : Nat} (hi : i < lst.length) (hu : unmet p.store.cells.length (getB ks') < unmet p.store.cells.length (getB ks)) (hn : ns.length ≤ 3) : measS p ks' (lst ++ ns) (i + 1) < measS p ks lst i := by
  unfold measS; rw [List.length_append]; omega
theorem measS_skip {p : TwoM} {ks : List Bool} {lst : List Int} {i : Nat} (hi : i < lst.length) : measS p ks lst (i + 1) < measS p ks lst i := by unfold measS; omega
end Go.Proofs.Ytmlgndeihfpfgaa
