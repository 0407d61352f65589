/- The data that this program computes with, and what its functions compute, as plain functions. -/
namespace Go.Proofs.Ytdkhpmlimnfgpaa

/-- A cell: used or not, a number, the numbers of the cells to which it refers. -/
structure CellM where
  used : Bool
  data : Int
  refs : List Int
  deriving DecidableEq
structure HeapM where
  cells : List CellM
  roots : List Int
  deriving DecidableEq
structure CmdM where
  op : Int
  a : Int
  b : Int
  c : Int
  deriving DecidableEq
structure PaintM where
  store : HeapM
  colours : List Int
  active : Bool
  deriving DecidableEq
/-- A snapshot (what was met, what waits), or a heap with generations (what is old, what is noted). -/
structure TwoM where
  store : HeapM
  x : List Bool
  y : List Bool
  deriving DecidableEq
structure CountM where
  store : HeapM
  counts : List Int
  deriving DecidableEq

/-- Are both the same? (A name that the walk does not open.) -/
def eqB {α : Type} [DecidableEq α] (a b : α) : Bool := decide (a = b)
theorem eqB_iff {α : Type} [DecidableEq α] {a b : α} : eqB a b = true ↔ a = b := by simp [eqB]
theorem eqB_of {α : Type} [DecidableEq α] {a b : α} (h : a = b) : eqB a b = true := eqB_iff.2 h
theorem eqB_ne {α : Type} [DecidableEq α] {a b : α} (h : a ≠ b) : eqB a b = false := by simp [eqB, h]
theorem eqB_false {α : Type} [DecidableEq α] {a b : α} (h : eqB a b = false) : a ≠ b := by simpa [eqB] using h
theorem bool_ft (b : Bool) : b = false ∨ b = true := by cases b <;> simp

def inB (lo n hi : Int) : Bool := decide (lo ≤ n) && decide (n ≤ hi)
theorem inB_iff {lo n hi : Int} : inB lo n hi = true ↔ lo ≤ n ∧ n ≤ hi := by simp [inB]
theorem inB_false {lo n hi : Int} : inB lo n hi = false ↔ ¬ (lo ≤ n ∧ n ≤ hi) := by
  rw [← Bool.not_eq_true, inB_iff]
/-- Is cell number r a used one? -/
def usedAt (cs : List CellM) (r : Int) : Bool := match cs[r.toNat]? with | some c => c.used | none => false
/-- A reference is -1 or leads to a used cell. -/
def leadsM (cs : List CellM) (r : Int) : Bool := r == -1 || (decide (0 ≤ r) && usedAt cs r)
def refsM (cs : List CellM) (rs : List Int) : Bool := rs.all (leadsM cs)
def cellOkM (cs : List CellM) (c : CellM) : Bool := if c.used then refsM cs c.refs && (inB 0 c.data 99 && decide (c.refs.length ≤ 3)) else decide (c.data = 0) && decide (c.refs.length = 0)
def validM (h : HeapM) : Bool := h.cells.all (cellOkM h.cells) && (decide (h.cells.length ≤ 40) && decide (h.roots.length = 4) && refsM h.cells h.roots)

theorem leadsM_neg1 (cs : List CellM) : leadsM cs (-1) = true := by simp [leadsM]
theorem leadsM_low {cs : List CellM} {r : Int} (h : r ≠ -1) (h2 : r < 0) : leadsM cs r = false := by
  simp [leadsM, h]; omega
theorem leadsM_high {cs : List CellM} {r : Int} (h2 : (cs.length : Int) ≤ r) : leadsM cs r = false := by
  have h4 : cs[r.toNat]? = none := by rw [List.getElem?_eq_none]; omega
  have h5 : r ≠ -1 := by omega
  simp [leadsM, usedAt, h4, h5]
theorem leadsM_at {cs : List CellM} {r : Int} {c : CellM} (h : cs[r.toNat]? = some c) (h2 : 0 ≤ r) : leadsM cs r = c.used := by
  have h5 : r ≠ -1 := by omega
  simp [leadsM, usedAt, h, h5, h2]
theorem cellOk_free {cs : List CellM} {d : Int} {rs : List Int} : cellOkM cs ⟨false, d, rs⟩ = (decide (d = 0) && decide (rs.length = 0)) := rfl
theorem cellOk_used {cs : List CellM} {d : Int} {rs : List Int} : cellOkM cs ⟨true, d, rs⟩ = (refsM cs rs && (inB 0 d 99 && decide (rs.length ≤ 3))) := rfl
theorem leadsM_lt {cs : List CellM} {r : Int} (h : leadsM cs r = true) : r < cs.length := by
  rcases Classical.em (r < cs.length) with h1 | h1
  · exact h1
  · rw [leadsM_high (by omega)] at h
    cases h
theorem refsM_lt {cs : List CellM} {rs : List Int} (h : refsM cs rs = true) : ∀ r ∈ rs, r < cs.length := fun r hr => leadsM_lt (List.all_eq_true.1 h r hr)
theorem cellOk_lt {cs : List CellM} {c : CellM} (h : cellOkM cs c = true) : ∀ r ∈ c.refs, r < cs.length := by
  unfold cellOkM at h
  split at h
  · exact refsM_lt (Bool.and_eq_true_iff.1 h).1
  · have h2 := of_decide_eq_true (Bool.and_eq_true_iff.1 h).2
    have h3 : c.refs = [] := List.eq_nil_of_length_eq_zero h2
    rw [h3]; simp
theorem validM_lt {h : HeapM} (hv : validM h = true) : (∀ c ∈ h.cells, ∀ r ∈ c.refs, r < h.cells.length) ∧ ∀ r ∈ h.roots, r < h.cells.length := by
  unfold validM at hv
  simp only [Bool.and_eq_true] at hv
  exact ⟨fun c hc => cellOk_lt (List.all_eq_true.1 hv.1 c hc), refsM_lt hv.2.2⟩
theorem validM_len {h : HeapM} (hv : validM h = true) : h.cells.length ≤ 40 ∧ h.roots.length = 4 := by
  unfold validM at hv
  simp only [Bool.and_eq_true, decide_eq_true_eq] at hv
  exact hv.2.1
theorem validM_leads {h : HeapM} (hv : validM h = true) : (∀ c ∈ h.cells, ∀ r ∈ c.refs, leadsM h.cells r = true) ∧ ∀ r ∈ h.roots, leadsM h.cells r = true := by
  unfold validM at hv
  simp only [Bool.and_eq_true] at hv
  refine ⟨fun c hc r hr => ?_, fun r hr => List.all_eq_true.1 hv.2.2 r hr⟩
  have h1 := List.all_eq_true.1 hv.1 c hc
  unfold cellOkM at h1
  split at h1
  · exact List.all_eq_true.1 (Bool.and_eq_true_iff.1 h1).1 r hr
  · have h2 := of_decide_eq_true (Bool.and_eq_true_iff.1 h1).2
    rw [List.eq_nil_of_length_eq_zero h2] at hr
    cases hr
theorem any_drop {α : Type} (f : α → Bool) {xs : List α} {k : Nat} {x : α} (h : xs[k]? = some x) : (xs.drop k).any f = (f x || (xs.drop (k + 1)).any f) := by
  obtain ⟨hk, rfl⟩ := List.getElem?_eq_some_iff.1 h
  rw [List.drop_eq_getElem_cons hk]; rfl
theorem all_drop {α : Type} (f : α → Bool) {xs : List α} {k : Nat} {x : α} (h : xs[k]? = some x) : (xs.drop k).all f = (f x && (xs.drop (k + 1)).all f) := by
  obtain ⟨hk, rfl⟩ := List.getElem?_eq_some_iff.1 h
  rw [List.drop_eq_getElem_cons hk]; rfl
theorem drop_cons_of {α : Type} {xs : List α} {k : Nat} {x : α} (h : xs[k]? = some x) : xs.drop k = x :: xs.drop (k + 1) := by
  obtain ⟨hk, rfl⟩ := List.getElem?_eq_some_iff.1 h
  exact List.drop_eq_getElem_cons hk
theorem take_snoc_of {α : Type} {xs : List α} {k : Nat} {x : α} (h : xs[k]? = some x) : xs.take (k + 1) = xs.take k ++ [x] := by
  obtain ⟨hk, rfl⟩ := List.getElem?_eq_some_iff.1 h
  rw [List.take_succ_eq_append_getElem hk]
theorem all_range {n : Nat} {f : Nat → Bool} : (List.range n).all f = true ↔ ∀ i, i < n → f i = true := by simp
theorem all_range_false {n : Nat} {f : Nat → Bool} {k : Nat} (hk : k < n) (h : f k = false) : (List.range n).all f = false := by
  rw [Bool.eq_false_iff]
  intro h2
  have := all_range.1 h2 k hk
  rw [h] at this
  cases this
theorem getD_len {l : List Bool} {i : Nat} (h : l.length ≤ i) : l.getD i false = false := by
  simp [List.getD, List.getElem?_eq_none h]
theorem getD_of {l : List Bool} {i : Nat} {b : Bool} (h : l[i]? = some b) : l.getD i false = b := by simp [List.getD, h]

/-! ### Painted heaps, snapshots, generations -/
def whiteM (cols : List Int) (r : Int) : Bool := decide (0 ≤ r) && (match cols[r.toNat]? with | some c => c == 0 | none => false)
def anyWhite (cols : List Int) (rs : List Int) : Bool := rs.any (whiteM cols)
def cellPaint (cols : List Int) (act : Bool) (x : Int × CellM) : Bool :=
  inB 0 x.1 2 && (x.1 == 0 || (x.2.used && act)) && !(x.1 == 2 && anyWhite cols x.2.refs)
def paintM (p : PaintM) : Bool := validM p.store && decide (p.colours.length = p.store.cells.length) && (p.colours.zip p.store.cells).all (cellPaint p.colours p.active) &&
  (!p.active || !anyWhite p.colours p.store.roots)
theorem whiteM_neg {cols : List Int} {r : Int} (h : r < 0) : whiteM cols r = false := by simp [whiteM]; omega
theorem whiteM_at {cols : List Int} {r x : Int} (h : 0 ≤ r) (hx : cols[r.toNat]? = some x) : whiteM cols r = (x == 0) := by simp [whiteM, h, hx]
def usedN (cs : List CellM) (i : Nat) : Bool := (cs.map (·.used)).getD i false
theorem usedN_at {cs : List CellM} {i : Nat} {c : CellM} (h : cs[i]? = some c) : usedN cs i = c.used := by simp [usedN, h]
def snapOk (p : TwoM) (i : Nat) : Bool := (!p.y.getD i false || p.x.getD i false) && (!p.x.getD i false || usedN p.store.cells i)
/-- A snapshot is valid: what waits has been met, what has been met is used. -/
def snapM (p : TwoM) : Bool := validM p.store && decide (p.x.length = p.store.cells.length) && decide (p.y.length = p.store.cells.length) && (List.range p.store.cells.length).all (snapOk p)
/-- Is r the number of a cell that is not old? -/
def youngRef (old : List Bool) (r : Int) : Bool := decide (0 ≤ r) && !old.getD r.toNat false
def agedOk (p : TwoM) (i : Nat) : Bool := (!p.x.getD i false || usedN p.store.cells i) && (!p.y.getD i false || p.x.getD i false)
def agedRefs (p : TwoM) (i : Nat) : Bool := !(p.x.getD i false && !p.y.getD i false) || (match p.store.cells[i]? with | some c => !c.refs.any (youngRef p.x) | none => true)
/-- A heap with generations is valid: x tells what is old, y what is noted. -/
def agedM (p : TwoM) : Bool := validM p.store && decide (p.x.length = p.store.cells.length) && decide (p.y.length = p.store.cells.length) && ((List.range p.store.cells.length).all (agedOk p) && (List.range p.store.cells.length).all (agedRefs p))
end Go.Proofs.Ytdkhpmlimnfgpaa
