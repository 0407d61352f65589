/- Valid heaps stay valid; sweeping; snapshots under instructions and brought to their ends, as plain functions. -/
import Derived.Test.YtkmfhadanbfadaaDataG
namespace Go.Proofs.Ytkmfhadanbfadaa
set_option linter.unusedVariables false
set_option linter.unusedSimpArgs false
theorem validM_iff {h : HeapM} : validM h = true ↔ (∀ c ∈ h.cells, cellOkM h.cells c = true) ∧ h.cells.length ≤ 40 ∧ h.roots.length = 4 ∧ ∀ r ∈ h.roots, leadsM h.cells r = true := by
  unfold validM refsM
  simp only [Bool.and_eq_true, decide_eq_true_eq, List.all_eq_true]
  constructor
  · rintro ⟨a, ⟨b, c⟩, d⟩; exact ⟨a, b, c, d⟩
  · rintro ⟨a, b, c, d⟩; exact ⟨a, ⟨b, c⟩, d⟩
theorem leadsM_iff {cs : List CellM} {r : Int} : leadsM cs r = true ↔ r = -1 ∨ (0 ≤ r ∧ ∃ c, cs[r.toNat]? = some c ∧ c.used = true) := by
  unfold leadsM usedAt
  cases hc : cs[r.toNat]? with
  | none => simp
  | some c => simp
theorem cellOk_iff {cs : List CellM} {c : CellM} : cellOkM cs c = true ↔ (c.used = true ∧ (∀ r ∈ c.refs, leadsM cs r = true) ∧ 0 ≤ c.data ∧ c.data ≤ 99 ∧ c.refs.length ≤ 3) ∨ (c.used = false ∧ c.data = 0 ∧ c.refs = []) := by
  unfold cellOkM refsM
  cases hu : c.used
  · simp [hu]
  · simp only [if_true, Bool.and_eq_true, decide_eq_true_eq, List.all_eq_true, inB_iff, hu]
    constructor
    · rintro ⟨a, ⟨b, c⟩, d⟩; exact .inl ⟨trivial, a, b, c, d⟩
    · rintro (⟨-, a, b, c, d⟩ | ⟨h, _⟩)
      · exact ⟨a, ⟨b, c⟩, d⟩
      · cases h
theorem leads_mono {cs cs' : List CellM} (h : ∀ (i : Nat) (c : CellM), cs[i]? = some c → c.used = true → ∃ c', cs'[i]? = some c' ∧ c'.used = true) {r : Int} (hr : leadsM cs r = true) : leadsM cs' r = true := by
  rcases leadsM_iff.1 hr with h1 | ⟨h0, c, hc, hu⟩
  · exact leadsM_iff.2 (.inl h1)
  · exact leadsM_iff.2 (.inr ⟨h0, h _ c hc hu⟩)
theorem cellOk_mono {cs cs' : List CellM} (h : ∀ (i : Nat) (c : CellM), cs[i]? = some c → c.used = true → ∃ c', cs'[i]? = some c' ∧ c'.used = true) {c : CellM} (hr : cellOkM cs c = true) : cellOkM cs' c = true := by
  rcases cellOk_iff.1 hr with ⟨a, b, c⟩ | h2
  · exact cellOk_iff.2 (.inl ⟨a, fun r hr => leads_mono h (b r hr), c⟩)
  · exact cellOk_iff.2 (.inr h2)
theorem set_used {cs : List CellM} {k : Nat} {x : CellM} (hx : x.used = true) : ∀ (i : Nat) (c : CellM), cs[i]? = some c → c.used = true → ∃ c', (cs.set k x)[i]? = some c' ∧ c'.used = true := by
  intro i c hc hu
  have hi := (List.getElem?_eq_some_iff.1 hc).1
  rw [List.getElem?_set]
  by_cases e : k = i
  · subst e; rw [if_pos rfl, if_pos hi]; exact ⟨x, rfl, hx⟩
  · rw [if_neg e]; exact ⟨c, hc, hu⟩
theorem rootAt_leads {h : HeapM} (hv : validM h = true) (r : Int) : leadsM h.cells (rootAt h r) = true := by
  unfold rootAt
  split
  · rename_i x hx
    exact (validM_leads hv).2 x (List.mem_of_getElem? hx)
  · exact leadsM_neg1 _
theorem refOf_leads {h : HeapM} (hv : validM h = true) (root c : Int) : leadsM h.cells (refOf h root c) = true := by
  unfold refOf refsAt
  split
  · rename_i x hx
    split at hx
    · rename_i d hd
      exact (validM_leads hv).1 d (List.mem_of_getElem? hd) x (List.mem_of_getElem? hx)
    · simp at hx
  · exact leadsM_neg1 _
theorem valid_roots {h : HeapM} (hv : validM h = true) {k : Nat} {x : Int} (hx : leadsM h.cells x = true) : validM ⟨h.cells, h.roots.set k x⟩ = true := by
  obtain ⟨a, b, c, d⟩ := validM_iff.1 hv
  refine validM_iff.2 ⟨a, b, by simpa using c, fun r hr => ?_⟩
  rcases List.mem_or_eq_of_mem_set hr with hr | rfl
  · exact d r hr
  · exact hx
theorem valid_set {h : HeapM} (hv : validM h = true) {k : Nat} {x : CellM} (hx : cellOkM h.cells x = true) (hu : x.used = true) : validM ⟨h.cells.set k x, h.roots⟩ = true := by
  obtain ⟨a, b, c, d⟩ := validM_iff.1 hv
  have hm := set_used (cs := h.cells) (k := k) hu
  refine validM_iff.2 ⟨fun y hy => ?_, by simpa using b, c, fun r hr => leads_mono hm (d r hr)⟩
  rcases List.mem_or_eq_of_mem_set hy with hy | rfl
  · exact cellOk_mono hm (a y hy)
  · exact cellOk_mono hm hx
theorem valid_push {h : HeapM} (hv : validM h = true) {x : CellM} (hx : cellOkM h.cells x = true) (hl : h.cells.length < 40) : validM ⟨h.cells ++ [x], h.roots⟩ = true := by
  obtain ⟨a, b, c, d⟩ := validM_iff.1 hv
  have hm : ∀ (i : Nat) (c : CellM), h.cells[i]? = some c → c.used = true → ∃ c', (h.cells ++ [x])[i]? = some c' ∧ c'.used = true := by
    intro i c hc hu
    exact ⟨c, by rw [List.getElem?_append_left (List.getElem?_eq_some_iff.1 hc).1]; exact hc, hu⟩
  refine validM_iff.2 ⟨fun y hy => ?_, by simp; omega, c, fun r hr => leads_mono hm (d r hr)⟩
  rcases List.mem_append.1 hy with hy | hy
  · exact cellOk_mono hm (a y hy)
  · rw [List.mem_singleton.1 hy]; exact cellOk_mono hm hx
theorem cmdOk_parts {o : CmdM} (h : cmdOk o = true) : 1 ≤ o.op ∧ o.op ≤ 6 ∧ 0 ≤ o.a ∧ o.a ≤ 3 ∧ 0 ≤ o.b ∧ o.b ≤ maxB o.op ∧ 0 ≤ o.c ∧ o.c ≤ maxC o.op := by
  unfold cmdOk at h
  simp only [Bool.and_eq_true, inB_iff] at h
  omega
theorem newCell_ok {cs : List CellM} {o : CmdM} (hc : cmdOk o = true) (h1 : o.op = 1) : cellOkM cs (newCell o) = true := by
  obtain ⟨-, -, -, -, b0, b1, c0, c1⟩ := cmdOk_parts hc
  have e1 : maxB o.op = 3 := by rw [h1]; rfl
  have e2 : maxC o.op = 99 := by rw [h1]; rfl
  refine cellOk_iff.2 (.inl ⟨rfl, fun r hr => ?_, c0, by rw [e2] at c1; exact c1, by simp [newCell]; omega⟩)
  have : r = -1 := (List.mem_replicate.1 hr).2
  subst this
  exact leadsM_neg1 _
/-- A possible instruction keeps a heap valid. -/
theorem valid_exec {h : HeapM} {o : CmdM} {at_ : Nat} (hv : validM h = true) (hc : cmdOk o = true) (hp : possO h o = true) (hat : at_ ≤ h.cells.length) (hn : o.op = 1 → at_ < 40) : validM (execM h o at_) = true := by
  obtain ⟨o1, o6, a0, a3, b0, b1, c0, c1⟩ := cmdOk_parts hc
  unfold execM
  split
  · rename_i h1
    have hnew := newCell_ok (cs := h.cells) hc h1
    have hat40 := hn h1
    unfold putCell
    split
    · rename_i he
      have h2 := valid_push hv hnew (by omega)
      refine valid_roots (h := ⟨h.cells ++ [newCell o], h.roots⟩) h2 (leadsM_iff.2 (.inr ⟨by omega, newCell o, ?_, rfl⟩))
      simp [he]
    · rename_i he
      have h2 := valid_set hv (k := at_) hnew rfl
      refine valid_roots (h := ⟨h.cells.set at_ (newCell o), h.roots⟩) h2 (leadsM_iff.2 (.inr ⟨by omega, newCell o, ?_, rfl⟩))
      show (h.cells.set at_ (newCell o))[((at_ : Int)).toNat]? = _
      rw [Int.toNat_natCast, List.getElem?_set, if_pos rfl, if_pos (by omega)]
  · split
    · exact valid_roots hv (refOf_leads hv _ _)
    · split
      · show validM ⟨setRef h.cells (rootAt h o.a).toNat o.c.toNat (rootAt h o.b), h.roots⟩ = true
        unfold setRef
        split
        · rename_i c hcc
          have hok := (validM_iff.1 hv).1 c (List.mem_of_getElem? hcc)
          rcases cellOk_iff.1 hok with ⟨u1, u2, u3⟩ | ⟨u1, u2, u3⟩
          · refine valid_set hv (cellOk_iff.2 (.inl ⟨u1, fun r hr => ?_, u3.1, u3.2.1, by simpa using u3.2.2⟩)) u1
            rcases List.mem_or_eq_of_mem_set hr with hr | rfl
            · exact u2 r hr
            · exact rootAt_leads hv _
          · have e : (⟨c.used, c.data, c.refs.set o.c.toNat (rootAt h o.b)⟩ : CellM) = c := by
              obtain ⟨cu, cd, cr⟩ := c
              simp only at u3
              subst u3
              simp
            rw [e]
            have e2 : h.cells.set (rootAt h o.a).toNat c = h.cells := by
              have h9 := (List.getElem?_eq_some_iff.1 hcc).2
              rw [← h9]
              exact List.set_getElem_self _
            rw [e2]
            exact hv
        · exact hv
      · split
        · exact valid_roots hv (rootAt_leads hv _)
        · split
          · exact valid_roots hv (leadsM_neg1 _)
          · rename_i n1 n2 n3 n4 n5
            have h6 : o.op = 6 := by omega
            show validM ⟨setData h.cells (rootAt h o.a).toNat o.b, h.roots⟩ = true
            unfold setData
            split
            · rename_i c hcc
              have hpos : 0 ≤ rootAt h o.a := by
                unfold possO at hp
                rw [if_neg n2, if_neg n3, if_pos h6] at hp
                exact of_decide_eq_true hp
              obtain ⟨c2, hc2, hu⟩ := valid_used (rootAt_leads hv o.a) hpos
              rw [hcc] at hc2
              injection hc2 with hc2
              subst hc2
              have hok := (validM_iff.1 hv).1 c (List.mem_of_getElem? hcc)
              have e1 : maxB o.op = 99 := by rw [h6]; rfl
              rcases cellOk_iff.1 hok with ⟨u1, u2, u3⟩ | ⟨u1, u2, u3⟩
              · exact valid_set hv (cellOk_iff.2 (.inl ⟨u1, u2, b0, by rw [e1] at b1; exact b1, u3.2.2⟩)) u1
              · rw [u1] at hu; cases hu
            · exact hv
theorem valid_step {h : HeapM} {o : CmdM} (hv : validM h = true) (hc : cmdOk o = true) : validM (stepM h o).1 = true := by
  unfold stepM
  rw [hv, hc]
  simp only [Bool.and_self, if_true]
  split
  · rename_i hp
    simp only [Bool.and_eq_true, Bool.not_eq_true', Bool.and_eq_false_iff, decide_eq_false_iff_not] at hp
    have hl := (validM_len hv).1
    exact valid_exec hv hc hp.1 (Nat.le_refl _) (fun h1 => by rcases hp.2 with h2 | h2 <;> omega)
  · exact hv
theorem valid_empty : validM emptyM = true := by decide
theorem valid_runFrom {l : List CmdM} : ∀ {h : HeapM}, validM h = true → (∀ o ∈ l, cmdOk o = true) → validM (runFrom h l) = true := by
  unfold runFrom
  induction l with
  | nil => intro h hv _; exact hv
  | cons o l ih => intro h hv hl; exact ih (valid_step hv (hl o (by simp))) (fun o ho => hl o (by simp [ho]))
theorem valid_run {l : List CmdM} (hl : cmdsOk l = true) : validM (runM l) = true := by
  unfold runM
  rw [hl, if_pos rfl]
  unfold cmdsOk at hl
  simp only [Bool.and_eq_true, List.all_eq_true] at hl
  exact valid_runFrom valid_empty hl.2

/-! ### Sweeping -/
def nots (l : List Bool) : List Bool := l.map (!·)
theorem nots_len (l : List Bool) : (nots l).length = l.length := by simp [nots]
theorem nots_at {l : List Bool} {i : Nat} {b : Bool} (h : l[i]? = some b) : (nots l)[i]? = some !b := by simp [nots, h]
/-- Does r lead to a used cell that is not marked? -/
def outRef (h : HeapM) (marks : List Bool) (r : Int) : Bool := decide (0 ≤ r) && (usedN h.cells r.toNat && !marks.getD r.toNat false)
def outAt (h : HeapM) (marks : List Bool) (i : Nat) : Bool := marks.getD i false && (refsAt h i).any (outRef h marks)
def outB (h : HeapM) (marks : List Bool) : Bool := h.roots.any (outRef h marks) || (List.range h.cells.length).any (outAt h marks)
def sweepM (h : HeapM) (marks : List Bool) : HeapM × Int :=
  if validM h && decide (marks.length = h.cells.length) && validM (dropM h (nots marks)) then (dropM h (nots marks), freedN h.cells (nots marks)) else (zeroH, -1)
theorem drop_at {cs : List CellM} {dead : List Bool} {i : Nat} {c : CellM} {d : Bool} (hc : cs[i]? = some c) (hd : dead[i]? = some d) : (dropCs cs dead)[i]? = some (if d then freeCell else c) := by
  unfold dropCs
  rw [List.getElem?_zipWith, hc, hd]
theorem drop_leads {h : HeapM} {marks : List Bool} (hl : marks.length = h.cells.length) {r : Int} (hr : leadsM h.cells r = true) : leadsM (dropCs h.cells (nots marks)) r = !outRef h marks r := by
  rcases leadsM_iff.1 hr with rfl | ⟨h0, c, hc, hu⟩
  · rw [leadsM_neg1]; rfl
  · have hi := (List.getElem?_eq_some_iff.1 hc).1
    have hm := List.getElem?_eq_getElem (l := marks) (i := r.toNat) (by omega)
    have hd := drop_at hc (nots_at hm)
    unfold outRef
    rw [usedN_at hc, hu, getD_of hm]
    rw [leadsM_at hd h0]
    cases marks[r.toNat]'(by omega) <;> simp [freeCell, hu, h0]
theorem sweep_out {h : HeapM} {marks : List Bool} (hv : validM h = true) (hl : marks.length = h.cells.length) : validM (dropM h (nots marks)) = !outB h marks := by
  obtain ⟨v1, v2, v3, v4⟩ := validM_iff.1 hv
  obtain ⟨l1, l2⟩ := validM_leads hv
  have hdl : (dropCs h.cells (nots marks)).length = h.cells.length := dropCs_len (by rw [nots_len, hl])
  rw [Bool.eq_iff_iff, validM_iff]
  unfold outB dropM
  simp only [Bool.not_eq_true', Bool.or_eq_false_iff, List.any_eq_false, List.mem_range, Bool.not_eq_true]
  constructor
  · rintro ⟨a, b, c, d⟩
    refine ⟨fun r hr => ?_, fun i hi => ?_⟩
    · have h1 := d r hr
      rw [drop_leads hl (l2 r hr)] at h1
      simpa using h1
    · unfold outAt
      have hm := List.getElem?_eq_getElem (l := marks) (i := i) (by omega)
      have hc := List.getElem?_eq_getElem (l := h.cells) (i := i) hi
      rw [getD_of hm, refsAt_of hc]
      cases hmi : marks[i]'(by omega)
      · rfl
      · rw [hmi] at hm
        have hd := drop_at hc (nots_at hm)
        simp only [Bool.not_true, Bool.false_eq_true, if_false] at hd
        have hok := a _ (List.mem_of_getElem? hd)
        simp only [Bool.true_and, List.any_eq_false, Bool.not_eq_true]
        intro r hr
        have h1 := l1 _ (List.mem_of_getElem? hc) r hr
        have h2 : leadsM (dropCs h.cells (nots marks)) r = true := by
          rcases cellOk_iff.1 hok with ⟨_, u2, _⟩ | ⟨_, _, u3⟩
          · exact u2 r hr
          · rw [u3] at hr; cases hr
        rw [drop_leads hl h1] at h2
        simpa using h2
  · rintro ⟨a, b⟩
    refine ⟨fun c hc => ?_, by rw [hdl]; exact v2, v3, fun r hr => by rw [drop_leads hl (l2 r hr), a r hr]; rfl⟩
    obtain ⟨i, hi⟩ := List.mem_iff_getElem?.1 hc
    have hil : i < h.cells.length := by rw [← hdl]; exact (List.getElem?_eq_some_iff.1 hi).1
    have hm := List.getElem?_eq_getElem (l := marks) (i := i) (by omega)
    have hcc := List.getElem?_eq_getElem (l := h.cells) (i := i) hil
    have hd := drop_at hcc (nots_at hm)
    rw [hi] at hd
    injection hd with hd
    cases hmi : marks[i]'(by omega)
    · rw [hmi] at hd
      simp at hd
      rw [hd]
      exact cellOk_iff.2 (.inr ⟨rfl, rfl, rfl⟩)
    · rw [hmi] at hd hm
      simp at hd
      subst hd
      have hb := b i hil
      unfold outAt at hb
      rw [getD_of hm, refsAt_of hcc] at hb
      simp only [Bool.true_and, List.any_eq_false, Bool.not_eq_true] at hb
      have hok := v1 _ (List.mem_of_getElem? hcc)
      rcases cellOk_iff.1 hok with ⟨u1, u2, u3⟩ | u
      · exact cellOk_iff.2 (.inl ⟨u1, fun r hr => by rw [drop_leads hl (u2 r hr), hb r hr]; rfl, u3⟩)
      · exact cellOk_iff.2 (.inr u)
theorem sweep_yes {h : HeapM} {marks : List Bool} (hv : validM h = true) (hl : marks.length = h.cells.length) (ho : outB h marks = false) : sweepM h marks = (dropM h (nots marks), (freedN h.cells (nots marks) : Int)) := by
  unfold sweepM
  rw [sweep_out hv hl, hv, ho]
  simp [hl]
theorem sweep_no {h : HeapM} {marks : List Bool} (hn : ¬ (validM h = true ∧ marks.length = h.cells.length ∧ outB h marks = false)) : sweepM h marks = (zeroH, -1) := by
  unfold sweepM
  cases hv : validM h
  · simp
  · by_cases hl : marks.length = h.cells.length
    · rw [sweep_out hv hl]
      cases ho : outB h marks
      · exact absurd ⟨hv, hl, ho⟩ hn
      · simp
    · simp [hl]

/-! ### Snapshots -/
def canM (h : HeapM) (o : CmdM) : Bool := possO h o && !(decide (o.op = 1) && decide (h.cells.length = 40))
def preS (p : TwoM) (o : CmdM) : List Bool × List Bool := if o.op = 3 then meet1 (p.x, p.y) (refOf p.store o.a o.c) else (p.x, p.y)
def snapDo (p : TwoM) (o : CmdM) : TwoM :=
  if o.op = 1 then ⟨execM p.store o p.store.cells.length, p.x ++ [true], p.y ++ [false]⟩ else ⟨execM p.store o p.store.cells.length, (preS p o).1, (preS p o).2⟩
def snapCmdM (p : TwoM) (o : CmdM) : TwoM × Bool := if snapM p && cmdOk o then (if canM p.store o then (snapDo p o, true) else (p, false)) else (zeroT, false)
def snapFinM (p : TwoM) : HeapM × Int := if snapM p then sweepM (endS p).store (endS p).x else (zeroH, -1)
/-- A number of steps. -/
def stepsS : Nat → TwoM → TwoM
  | 0, p => p
  | n + 1, p => (snapStepM (stepsS n p)).1
def runS (n : Nat) (p : TwoM) (l : List CmdM) : TwoM := l.foldl (fun p o => (snapCmdM (stepsS n p) o).1) p
def runSnapM (h : HeapM) (l : List CmdM) (n : Int) : HeapM := if validM h && cmdsOk l && inB 0 n 5 then (snapFinM (runS n.toNat (snapStartM h) l)).1 else zeroH
theorem runS_snoc {n : Nat} {p : TwoM} {l : List CmdM} {k : Nat} {o : CmdM} (ho : l[k]? = some o) : runS n p (l.take (k + 1)) = (snapCmdM (stepsS n (runS n p (l.take k))) o).1 := by
  rw [take_snoc_of ho]; simp [runS]
theorem endS_store {p : TwoM} (hl : p.y.length = p.x.length) : (endS p).store = p.store ∧ (endS p).x.length = p.x.length := by
  refine endS_keeps (P := fun q => q.store = p.store ∧ q.x.length = p.x.length) (fun q ⟨h1, h2⟩ => ?_) hl ⟨rfl, rfl⟩
  unfold stepS
  split
  · exact ⟨h1, h2⟩
  · exact ⟨h1, by rw [← h2]; exact (meetL_len _ _).1⟩
end Go.Proofs.Ytkmfhadanbfadaa
