/- Texts of one family, one behind the other: Data, DataM, DataS, DataF, DataG, DataH, DataR, DataP, DataW, DataV, DataY. -/
/- The data that this program computes with, and what its functions compute, as plain functions. -/
namespace Go.Proofs.Ytbnokkdhanlhpaa

/-- A cell: used or not, a number, the numbers of the cells to which it refers. -/
structure CellM where
  used : Bool
  data : Int
  refs : List Int
  deriving DecidableEq
structure HeapM where
  cells : List CellM
  roots : List Int
  deriving DecidableEq
structure CmdM where
  op : Int
  a : Int
  b : Int
  c : Int
  deriving DecidableEq
structure PaintM where
  store : HeapM
  colours : List Int
  active : Bool
  deriving DecidableEq
/-- A snapshot (what was met, what waits), or a heap with generations (what is old, what is noted). -/
structure TwoM where
  store : HeapM
  x : List Bool
  y : List Bool
  deriving DecidableEq
structure CountM where
  store : HeapM
  counts : List Int
  deriving DecidableEq

/-- Are both the same? (A name that the walk does not open.) -/
def eqB {α : Type} [DecidableEq α] (a b : α) : Bool := decide (a = b)
theorem eqB_iff {α : Type} [DecidableEq α] {a b : α} : eqB a b = true ↔ a = b := by simp [eqB]
theorem eqB_of {α : Type} [DecidableEq α] {a b : α} (h : a = b) : eqB a b = true := eqB_iff.2 h
theorem eqB_ne {α : Type} [DecidableEq α] {a b : α} (h : a ≠ b) : eqB a b = false := by simp [eqB, h]
theorem eqB_false {α : Type} [DecidableEq α] {a b : α} (h : eqB a b = false) : a ≠ b := by simpa [eqB] using h
theorem bool_ft (b : Bool) : b = false ∨ b = true := by cases b <;> simp

def inB (lo n hi : Int) : Bool := decide (lo ≤ n) && decide (n ≤ hi)
theorem inB_iff {lo n hi : Int} : inB lo n hi = true ↔ lo ≤ n ∧ n ≤ hi := by simp [inB]
theorem inB_false {lo n hi : Int} : inB lo n hi = false ↔ ¬ (lo ≤ n ∧ n ≤ hi) := by
  rw [← Bool.not_eq_true, inB_iff]
/-- Is cell number r a used one? -/
def usedAt (cs : List CellM) (r : Int) : Bool := match cs[r.toNat]? with | some c => c.used | none => false
/-- A reference is -1 or leads to a used cell. -/
def leadsM (cs : List CellM) (r : Int) : Bool := r == -1 || (decide (0 ≤ r) && usedAt cs r)
def refsM (cs : List CellM) (rs : List Int) : Bool := rs.all (leadsM cs)
def cellOkM (cs : List CellM) (c : CellM) : Bool := if c.used then refsM cs c.refs && (inB 0 c.data 99 && decide (c.refs.length ≤ 3)) else decide (c.data = 0) && decide (c.refs.length = 0)
def validM (h : HeapM) : Bool := h.cells.all (cellOkM h.cells) && (decide (h.cells.length ≤ 40) && decide (h.roots.length = 4) && refsM h.cells h.roots)

theorem leadsM_neg1 (cs : List CellM) : leadsM cs (-1) = true := by simp [leadsM]
theorem leadsM_low {cs : List CellM} {r : Int} (h : r ≠ -1) (h2 : r < 0) : leadsM cs r = false := by
  simp [leadsM, h]; omega
theorem leadsM_high {cs : List CellM} {r : Int} (h2 : (cs.length : Int) ≤ r) : leadsM cs r = false := by
  have h4 : cs[r.toNat]? = none := by rw [List.getElem?_eq_none]; omega
  have h5 : r ≠ -1 := by omega
  simp [leadsM, usedAt, h4, h5]
theorem leadsM_at {cs : List CellM} {r : Int} {c : CellM} (h : cs[r.toNat]? = some c) (h2 : 0 ≤ r) : leadsM cs r = c.used := by
  have h5 : r ≠ -1 := by omega
  simp [leadsM, usedAt, h, h5, h2]
theorem cellOk_free {cs : List CellM} {d : Int} {rs : List Int} : cellOkM cs ⟨false, d, rs⟩ = (decide (d = 0) && decide (rs.length = 0)) := rfl
theorem cellOk_used {cs : List CellM} {d : Int} {rs : List Int} : cellOkM cs ⟨true, d, rs⟩ = (refsM cs rs && (inB 0 d 99 && decide (rs.length ≤ 3))) := rfl
theorem leadsM_lt {cs : List CellM} {r : Int} (h : leadsM cs r = true) : r < cs.length := by
  rcases Classical.em (r < cs.length) with h1 | h1
  · exact h1
  · rw [leadsM_high (by omega)] at h
    cases h
theorem refsM_lt {cs : List CellM} {rs : List Int} (h : refsM cs rs = true) : ∀ r ∈ rs, r < cs.length := fun r hr => leadsM_lt (List.all_eq_true.1 h r hr)
theorem cellOk_lt {cs : List CellM} {c : CellM} (h : cellOkM cs c = true) : ∀ r ∈ c.refs, r < cs.length := by
  unfold cellOkM at h
  split at h
  · exact refsM_lt (Bool.and_eq_true_iff.1 h).1
  · have h2 := of_decide_eq_true (Bool.and_eq_true_iff.1 h).2
    have h3 : c.refs = [] := List.eq_nil_of_length_eq_zero h2
    rw [h3]; simp
theorem validM_lt {h : HeapM} (hv : validM h = true) : (∀ c ∈ h.cells, ∀ r ∈ c.refs, r < h.cells.length) ∧ ∀ r ∈ h.roots, r < h.cells.length := by
  unfold validM at hv
  simp only [Bool.and_eq_true] at hv
  exact ⟨fun c hc => cellOk_lt (List.all_eq_true.1 hv.1 c hc), refsM_lt hv.2.2⟩
theorem validM_len {h : HeapM} (hv : validM h = true) : h.cells.length ≤ 40 ∧ h.roots.length = 4 := by
  unfold validM at hv
  simp only [Bool.and_eq_true, decide_eq_true_eq] at hv
  exact hv.2.1
theorem validM_leads {h : HeapM} (hv : validM h = true) : (∀ c ∈ h.cells, ∀ r ∈ c.refs, leadsM h.cells r = true) ∧ ∀ r ∈ h.roots, leadsM h.cells r = true := by
  unfold validM at hv
  simp only [Bool.and_eq_true] at hv
  refine ⟨fun c hc r hr => ?_, fun r hr => List.all_eq_true.1 hv.2.2 r hr⟩
  have h1 := List.all_eq_true.1 hv.1 c hc
  unfold cellOkM at h1
  split at h1
  · exact List.all_eq_true.1 (Bool.and_eq_true_iff.1 h1).1 r hr
  · have h2 := of_decide_eq_true (Bool.and_eq_true_iff.1 h1).2
    rw [List.eq_nil_of_length_eq_zero h2] at hr
    cases hr
theorem any_drop {α : Type} (f : α → Bool) {xs : List α} {k : Nat} {x : α} (h : xs[k]? = some x) : (xs.drop k).any f = (f x || (xs.drop (k + 1)).any f) := by
  obtain ⟨hk, rfl⟩ := List.getElem?_eq_some_iff.1 h
  rw [List.drop_eq_getElem_cons hk]; rfl
theorem all_drop {α : Type} (f : α → Bool) {xs : List α} {k : Nat} {x : α} (h : xs[k]? = some x) : (xs.drop k).all f = (f x && (xs.drop (k + 1)).all f) := by
  obtain ⟨hk, rfl⟩ := List.getElem?_eq_some_iff.1 h
  rw [List.drop_eq_getElem_cons hk]; rfl
theorem drop_cons_of {α : Type} {xs : List α} {k : Nat} {x : α} (h : xs[k]? = some x) : xs.drop k = x :: xs.drop (k + 1) := by
  obtain ⟨hk, rfl⟩ := List.getElem?_eq_some_iff.1 h
  exact List.drop_eq_getElem_cons hk
theorem take_snoc_of {α : Type} {xs : List α} {k : Nat} {x : α} (h : xs[k]? = some x) : xs.take (k + 1) = xs.take k ++ [x] := by
  obtain ⟨hk, rfl⟩ := List.getElem?_eq_some_iff.1 h
  rw [List.take_succ_eq_append_getElem hk]
theorem all_range {n : Nat} {f : Nat → Bool} : (List.range n).all f = true ↔ ∀ i, i < n → f i = true := by simp
theorem all_range_false {n : Nat} {f : Nat → Bool} {k : Nat} (hk : k < n) (h : f k = false) : (List.range n).all f = false := by
  rw [Bool.eq_false_iff]
  intro h2
  have := all_range.1 h2 k hk
  rw [h] at this
  cases this
theorem getD_len {l : List Bool} {i : Nat} (h : l.length ≤ i) : l.getD i false = false := by
  simp [List.getD, List.getElem?_eq_none h]
theorem getD_of {l : List Bool} {i : Nat} {b : Bool} (h : l[i]? = some b) : l.getD i false = b := by simp [List.getD, h]

/-! ### Painted heaps, snapshots, generations -/
def whiteM (cols : List Int) (r : Int) : Bool := decide (0 ≤ r) && (match cols[r.toNat]? with | some c => c == 0 | none => false)
def anyWhite (cols : List Int) (rs : List Int) : Bool := rs.any (whiteM cols)
def cellPaint (cols : List Int) (act : Bool) (x : Int × CellM) : Bool :=
  inB 0 x.1 2 && (x.1 == 0 || (x.2.used && act)) && !(x.1 == 2 && anyWhite cols x.2.refs)
def paintM (p : PaintM) : Bool := validM p.store && decide (p.colours.length = p.store.cells.length) && (p.colours.zip p.store.cells).all (cellPaint p.colours p.active) &&
  (!p.active || !anyWhite p.colours p.store.roots)
theorem whiteM_neg {cols : List Int} {r : Int} (h : r < 0) : whiteM cols r = false := by simp [whiteM]; omega
theorem whiteM_at {cols : List Int} {r x : Int} (h : 0 ≤ r) (hx : cols[r.toNat]? = some x) : whiteM cols r = (x == 0) := by simp [whiteM, h, hx]
def usedN (cs : List CellM) (i : Nat) : Bool := (cs.map (·.used)).getD i false
theorem usedN_at {cs : List CellM} {i : Nat} {c : CellM} (h : cs[i]? = some c) : usedN cs i = c.used := by simp [usedN, h]
def snapOk (p : TwoM) (i : Nat) : Bool := (!p.y.getD i false || p.x.getD i false) && (!p.x.getD i false || usedN p.store.cells i)
/-- A snapshot is valid: what waits has been met, what has been met is used. -/
def snapM (p : TwoM) : Bool := validM p.store && decide (p.x.length = p.store.cells.length) && decide (p.y.length = p.store.cells.length) && (List.range p.store.cells.length).all (snapOk p)
/-- Is r the number of a cell that is not old? -/
def youngRef (old : List Bool) (r : Int) : Bool := decide (0 ≤ r) && !old.getD r.toNat false
def agedOk (p : TwoM) (i : Nat) : Bool := (!p.x.getD i false || usedN p.store.cells i) && (!p.y.getD i false || p.x.getD i false)
def agedRefs (p : TwoM) (i : Nat) : Bool := !(p.x.getD i false && !p.y.getD i false) || (match p.store.cells[i]? with | some c => !c.refs.any (youngRef p.x) | none => true)
/-- A heap with generations is valid: x tells what is old, y what is noted. -/
def agedM (p : TwoM) : Bool := validM p.store && decide (p.x.length = p.store.cells.length) && decide (p.y.length = p.store.cells.length) && ((List.range p.store.cells.length).all (agedOk p) && (List.range p.store.cells.length).all (agedRefs p))
end Go.Proofs.Ytbnokkdhanlhpaa

/- The marks that a law lays into all numbers and flags of a value, as plain functions. -/
namespace Go.Proofs.Ytbnokkdhanlhpaa
def markI (n : Nat) (k : Int) : List Int := (List.range n).map fun i : Nat => k + (i : Int)
def mk3 (k : Int) : Bool := k % 3 == 0
def markB (n : Nat) (k : Int) : List Bool := (List.range n).map fun i : Nat => mk3 (k + (i : Int))
theorem markI_len (n : Nat) (k : Int) : (markI n k).length = n := by simp [markI]
theorem markB_len (n : Nat) (k : Int) : (markB n k).length = n := by simp [markB]
theorem markI_at {n i : Nat} (k : Int) (h : i < n) : (markI n k)[i]? = some (k + (i : Int)) := by simp [markI, h]
theorem markB_at {n i : Nat} (k : Int) (h : i < n) : (markB n k)[i]? = some (mk3 (k + (i : Int))) := by simp [markB, h]
def markCs : List CellM → Int → List CellM
  | [], _ => []
  | c :: cs, k => ⟨mk3 k, k + 1, markI c.refs.length (k + 2)⟩ :: markCs cs (k + 2 + c.refs.length)
def sizeCs : List CellM → Nat
  | [] => 0
  | c :: cs => 2 + c.refs.length + sizeCs cs
theorem markCs_len (cs : List CellM) : ∀ k, (markCs cs k).length = cs.length := by
  induction cs with
  | nil => intro k; rfl
  | cons c cs ih => intro k; simp [markCs, ih]
theorem markCs_at (cs : List CellM) : ∀ (k : Int) (j : Nat) (c : CellM), cs[j]? = some c → (markCs cs k)[j]? = some ⟨mk3 (k + sizeCs (cs.take j)), k + sizeCs (cs.take j) + 1, markI c.refs.length (k + sizeCs (cs.take j) + 2)⟩ := by
  induction cs with
  | nil => intro k j c h; simp at h
  | cons d cs ih =>
    intro k j c h
    cases j with
    | zero => simp at h; subst h; simp [markCs, sizeCs]
    | succ j =>
      have h' := ih (k + 2 + d.refs.length) j c (by simpa using h)
      simp only [markCs, List.getElem?_cons_succ, h', List.take_succ_cons, sizeCs]
      congr 2 <;> (push_cast; congr 1; omega)
theorem sizeCs_append (a b : List CellM) : sizeCs (a ++ b) = sizeCs a + sizeCs b := by
  induction a with
  | nil => simp [sizeCs]
  | cons c a ih => simp only [List.cons_append, sizeCs, ih]; omega
theorem sizeCs_snoc {cs : List CellM} {j : Nat} {c : CellM} (h : cs[j]? = some c) : sizeCs (cs.take (j + 1)) = sizeCs (cs.take j) + 2 + c.refs.length := by
  rw [take_snoc_of h, sizeCs_append]; simp [sizeCs]; omega
theorem sizeCs_le (cs : List CellM) (j : Nat) : sizeCs (cs.take j) ≤ sizeCs cs := by
  have h := sizeCs_append (cs.take j) (cs.drop j)
  rw [List.take_append_drop] at h
  omega
theorem sizeCs_bound (cs : List CellM) (m : Nat) (h : ∀ c ∈ cs, c.refs.length ≤ m) : sizeCs cs ≤ cs.length * (m + 2) := by
  induction cs with
  | nil => simp [sizeCs]
  | cons c cs ih =>
    have h1 := ih fun d hd => h d (List.mem_cons_of_mem _ hd)
    have h2 := h c (by simp)
    simp only [sizeCs, List.length_cons, Nat.add_mul]
    omega
def markH (h : HeapM) (k : Int) : HeapM := ⟨markCs h.cells k, markI h.roots.length (k + sizeCs h.cells)⟩
def sizeH (h : HeapM) : Nat := sizeCs h.cells + h.roots.length
def markP (p : PaintM) (k : Int) : PaintM := ⟨markH p.store k, markI p.colours.length (k + sizeH p.store), p.active⟩
def sizeP (p : PaintM) : Nat := sizeH p.store + p.colours.length
def markT (p : TwoM) (k : Int) : TwoM := ⟨markH p.store k, markB p.x.length (k + sizeH p.store), markB p.y.length (k + sizeH p.store + p.x.length)⟩
def sizeT (p : TwoM) : Nat := sizeH p.store + p.x.length + p.y.length
def markN (p : CountM) (k : Int) : CountM := ⟨markH p.store k, markI p.counts.length (k + sizeH p.store)⟩
def sizeN (p : CountM) : Nat := sizeH p.store + p.counts.length
def markO : List CmdM → Int → List CmdM
  | [], _ => []
  | _ :: cs, k => ⟨k, k + 1, k + 2, k + 3⟩ :: markO cs (k + 4)
theorem markO_len (cs : List CmdM) : ∀ k, (markO cs k).length = cs.length := by
  induction cs with
  | nil => intro k; rfl
  | cons c cs ih => intro k; simp [markO, ih]
theorem markO_at (cs : List CmdM) : ∀ (k : Int) (j : Nat), j < cs.length → (markO cs k)[j]? = some ⟨k + 4 * (j : Int), k + 4 * (j : Int) + 1, k + 4 * (j : Int) + 2, k + 4 * (j : Int) + 3⟩ := by
  induction cs with
  | nil => intro k j h; simp at h
  | cons d cs ih =>
    intro k j h
    cases j with
    | zero => simp [markO]
    | succ j =>
      have h' := ih (k + 4) j (by simpa using h)
      simp only [markO, List.getElem?_cons_succ, h']
      congr 2 <;> (push_cast; omega)
end Go.Proofs.Ytbnokkdhanlhpaa

/- Snapshots, marking and programs step by step, as plain functions, with their small laws. -/
namespace Go.Proofs.Ytbnokkdhanlhpaa
/-- No element before k meets p. -/
def noneB {α : Type} (p : α → Bool) (l : List α) (k : Nat) : Prop := ∀ i, i < k → ∀ y, l[i]? = some y → p y = false
theorem noneB_zero {α : Type} (p : α → Bool) (l : List α) : noneB p l 0 := fun i h => by omega
theorem noneB_succ {α : Type} {p : α → Bool} {l : List α} {k : Nat} {x : α} (h : noneB p l k) (hx : l[k]? = some x) (hp : p x = false) : noneB p l (k + 1) := by
  intro i hi y hy
  rcases Nat.lt_or_ge i k with h1 | h1
  · exact h i h1 y hy
  · obtain rfl : i = k := by omega
    rw [hx] at hy; injection hy with hy; rw [← hy]; exact hp
def firstB {α : Type} (p : α → Bool) : List α → Option Nat
  | [] => none
  | x :: xs => if p x then some 0 else (firstB p xs).map (· + 1)
theorem firstB_some {α : Type} {p : α → Bool} : ∀ {l : List α} {k : Nat} {x : α}, noneB p l k → l[k]? = some x → p x = true → firstB p l = some k
  | [], k, x, _, hx, _ => by simp at hx
  | a :: l, 0, x, h, hx, hp => by simp at hx; subst hx; simp [firstB, hp]
  | a :: l, k + 1, x, h, hx, hp => by
    have h0 : p a = false := h 0 (by omega) a (by simp)
    have h1 : firstB p l = some k := firstB_some (fun i hi y hy => h (i + 1) (by omega) y (by simpa using hy)) (by simpa using hx) hp
    simp [firstB, h0, h1]
theorem firstB_none {α : Type} {p : α → Bool} : ∀ {l : List α}, noneB p l l.length → firstB p l = none
  | [], _ => rfl
  | a :: l, h => by
    have h0 : p a = false := h 0 (by simp) a (by simp)
    have h1 : firstB p l = none := firstB_none (fun i hi y hy => h (i + 1) (by simp; omega) y (by simpa using hy))
    simp [firstB, h0, h1]
theorem firstB_at {α : Type} {p : α → Bool} : ∀ {l : List α} {k : Nat}, firstB p l = some k → ∃ x, l[k]? = some x ∧ p x = true ∧ noneB p l k
  | [], k, h => by simp [firstB] at h
  | a :: l, k, h => by
    cases h0 : p a
    · simp only [firstB, h0, Bool.false_eq_true, if_false, Option.map_eq_some_iff] at h
      obtain ⟨j, hj, rfl⟩ := h
      obtain ⟨x, hx, hp, hn⟩ := firstB_at hj
      refine ⟨x, by simpa using hx, hp, fun i hi y hy => ?_⟩
      cases i with
      | zero => simp at hy; rw [← hy]; exact h0
      | succ i => exact hn i (by omega) y (by simpa using hy)
    · simp only [firstB, h0, if_true, Option.some.injEq] at h
      subst h
      exact ⟨a, by simp, h0, noneB_zero _ _⟩
theorem firstB_none_all {α : Type} {p : α → Bool} {l : List α} (h : firstB p l = none) : ∀ x ∈ l, p x = false := by
  induction l with
  | nil => intro x hx; cases hx
  | cons a l ih =>
    cases h0 : p a
    · simp only [firstB, h0, Bool.false_eq_true, if_false, Option.map_eq_none_iff] at h
      intro x hx
      rcases List.mem_cons.1 hx with rfl | hx
      · exact h0
      · exact ih h x hx
    · simp [firstB, h0] at h

theorem valid_small {h : HeapM} (hv : validM h = true) : h.cells.length ≤ 40 ∧ h.roots.length = 4 ∧ ∀ d ∈ h.cells, d.refs.length ≤ 3 := by
  refine ⟨(validM_len hv).1, (validM_len hv).2, fun d hd => ?_⟩
  unfold validM at hv
  simp only [Bool.and_eq_true] at hv
  have h1 := List.all_eq_true.1 hv.1 d hd
  unfold cellOkM at h1
  split at h1
  · simp only [Bool.and_eq_true, decide_eq_true_eq] at h1
    exact h1.2.2
  · simp only [Bool.and_eq_true, decide_eq_true_eq] at h1
    omega
theorem paintM_parts {p : PaintM} (h : paintM p = true) : validM p.store = true ∧ p.colours.length = p.store.cells.length := by
  unfold paintM at h
  simp only [Bool.and_eq_true, decide_eq_true_eq] at h
  exact h.1.1
theorem paint_small {p : PaintM} (h : paintM p = true) : p.store.cells.length ≤ 40 ∧ p.store.roots.length ≤ 4 ∧ (∀ d ∈ p.store.cells, d.refs.length ≤ 3) ∧ p.colours.length ≤ 40 ∧ (∀ r ∈ p.store.roots, r < p.colours.length) ∧ (∀ c ∈ p.store.cells, ∀ r ∈ c.refs, r < p.colours.length) := by
  obtain ⟨h1, h2⟩ := paintM_parts h
  obtain ⟨a, b, c⟩ := valid_small h1
  obtain ⟨d, e⟩ := validM_lt h1
  rw [← h2] at d e
  exact ⟨a, by omega, c, by omega, e, d⟩
/-! ### Zero values -/
def zeroH : HeapM := ⟨[], []⟩
def zeroT : TwoM := ⟨zeroH, [], []⟩
def zeroP : PaintM := ⟨zeroH, [], false⟩
def refsAt (h : HeapM) (k : Nat) : List Int := match h.cells[k]? with | some c => c.refs | none => []
theorem refsAt_of {h : HeapM} {k : Nat} {c : CellM} (hc : h.cells[k]? = some c) : refsAt h k = c.refs := by simp [refsAt, hc]

/-! ### Snapshots -/
/-- Met and waiting cells after r has been met. -/
def meet1 (xy : List Bool × List Bool) (r : Int) : List Bool × List Bool :=
  if 0 ≤ r ∧ xy.1[r.toNat]? = some false then (xy.1.set r.toNat true, xy.2.set r.toNat true) else xy
def meetL (xy : List Bool × List Bool) (rs : List Int) : List Bool × List Bool := rs.foldl meet1 xy
theorem meet1_neg {xy : List Bool × List Bool} {r : Int} (h : r < 0) : meet1 xy r = xy := by unfold meet1; rw [if_neg (by omega)]
theorem meet1_met {xy : List Bool × List Bool} {r : Int} (h : xy.1[r.toNat]? = some true) : meet1 xy r = xy := by unfold meet1; rw [if_neg (by rw [h]; simp)]
theorem meet1_new {xy : List Bool × List Bool} {r : Int} (h0 : 0 ≤ r) (h : xy.1[r.toNat]? = some false) : meet1 xy r = (xy.1.set r.toNat true, xy.2.set r.toNat true) := by unfold meet1; rw [if_pos ⟨h0, h⟩]
theorem meet1_len (xy : List Bool × List Bool) (r : Int) : (meet1 xy r).1.length = xy.1.length ∧ (meet1 xy r).2.length = xy.2.length := by
  unfold meet1; split <;> simp
theorem meetL_len (rs : List Int) : ∀ xy : List Bool × List Bool, (meetL xy rs).1.length = xy.1.length ∧ (meetL xy rs).2.length = xy.2.length := by
  induction rs with
  | nil => intro xy; exact ⟨rfl, rfl⟩
  | cons r rs ih => intro xy; have h1 := meet1_len xy r; have h2 := ih (meet1 xy r); exact ⟨h2.1.trans h1.1, h2.2.trans h1.2⟩
theorem meetL_snoc {xy : List Bool × List Bool} {rs : List Int} {k : Nat} {r : Int} (h : rs[k]? = some r) : meetL xy (rs.take (k + 1)) = meet1 (meetL xy (rs.take k)) r := by
  rw [take_snoc_of h]; simp [meetL]
def snapStartM (h : HeapM) : TwoM :=
  if validM h then ⟨h, (meetL (List.replicate h.cells.length false, List.replicate h.cells.length false) h.roots).1, (meetL (List.replicate h.cells.length false, List.replicate h.cells.length false) h.roots).2⟩ else zeroT
/-- One step of marking of a snapshot. -/
def stepS (p : TwoM) : TwoM × Bool :=
  match firstB id p.y with
  | none => (p, false)
  | some k => (⟨p.store, (meetL (p.x, p.y.set k false) (refsAt p.store k)).1, (meetL (p.x, p.y.set k false) (refsAt p.store k)).2⟩, true)
def snapStepM (p : TwoM) : TwoM × Bool := if snapM p then stepS p else (zeroT, false)

/-! ### Marking with colours -/
def grey1 (cols : List Int) (r : Int) : List Int := if whiteM cols r then cols.set r.toNat 1 else cols
def greyL (cols : List Int) (rs : List Int) : List Int := rs.foldl grey1 cols
theorem grey1_len (cols : List Int) (r : Int) : (grey1 cols r).length = cols.length := by unfold grey1; split <;> simp
theorem greyL_len (rs : List Int) : ∀ cols : List Int, (greyL cols rs).length = cols.length := by
  induction rs with
  | nil => intro c; rfl
  | cons r rs ih => intro c; exact (ih (grey1 c r)).trans (grey1_len c r)
theorem greyL_snoc {cols : List Int} {rs : List Int} {k : Nat} {r : Int} (h : rs[k]? = some r) : greyL cols (rs.take (k + 1)) = grey1 (greyL cols (rs.take k)) r := by
  rw [take_snoc_of h]; simp [greyL]
theorem grey1_not {cols : List Int} {r : Int} (h : whiteM cols r = false) : grey1 cols r = cols := by simp [grey1, h]
theorem grey1_white {cols : List Int} {r : Int} (h : whiteM cols r = true) : grey1 cols r = cols.set r.toNat 1 := by simp [grey1, h]
def startP (p : PaintM) : PaintM := if p.active then p else ⟨p.store, greyL p.colours p.store.roots, true⟩
def paintStartM (p : PaintM) : PaintM := if paintM p then startP p else zeroP
def isGrey (c : Int) : Bool := c == 1
def stepP (p : PaintM) : PaintM × Bool :=
  match firstB isGrey p.colours with
  | none => (p, false)
  | some k => (⟨p.store, (greyL p.colours (refsAt p.store k)).set k 2, p.active⟩, true)
def paintStepM (p : PaintM) : PaintM × Bool := if paintM p then stepP p else (zeroP, false)

/-! ### Instructions -/
def maxB (op : Int) : Int := if op = 1 then 3 else if op = 2 then 3 else if op = 3 then 3 else if op = 4 then 3 else if op = 5 then 0 else 99
def maxC (op : Int) : Int := if op = 1 then 99 else if op = 2 then 2 else if op = 3 then 2 else 0
def cmdOk (o : CmdM) : Bool := inB 1 o.op 6 && (inB 0 o.a 3 && (inB 0 o.b (maxB o.op) && inB 0 o.c (maxC o.op)))
def cmdsOk (l : List CmdM) : Bool := decide (l.length ≤ 40) && l.all cmdOk
def rootAt (h : HeapM) (r : Int) : Int := match h.roots[r.toNat]? with | some x => x | none => -1
def placeOk (h : HeapM) (root c : Int) : Bool := decide (0 ≤ rootAt h root) && decide (c < ((refsAt h (rootAt h root).toNat).length : Int))
def possO (h : HeapM) (o : CmdM) : Bool := if o.op = 2 then placeOk h o.b o.c else if o.op = 3 then placeOk h o.a o.c else if o.op = 6 then decide (0 ≤ rootAt h o.a) else true
def possM (h : HeapM) (o : CmdM) : Bool := validM h && cmdOk o && possO h o
def newCell (o : CmdM) : CellM := ⟨true, o.c, List.replicate o.b.toNat (-1)⟩
def putCell (cs : List CellM) (at_ : Nat) (c : CellM) : List CellM := if at_ = cs.length then cs ++ [c] else cs.set at_ c
def setRef (cs : List CellM) (k : Nat) (j : Nat) (r : Int) : List CellM := match cs[k]? with | some c => cs.set k ⟨c.used, c.data, c.refs.set j r⟩ | none => cs
def setData (cs : List CellM) (k : Nat) (d : Int) : List CellM := match cs[k]? with | some c => cs.set k ⟨c.used, d, c.refs⟩ | none => cs
def refOf (h : HeapM) (root c : Int) : Int := match (refsAt h (rootAt h root).toNat)[c.toNat]? with | some x => x | none => -1
/-- The heap after a possible instruction; a new cell is put at a place. -/
def execM (h : HeapM) (o : CmdM) (at_ : Nat) : HeapM :=
  if o.op = 1 then ⟨putCell h.cells at_ (newCell o), h.roots.set o.a.toNat (at_ : Int)⟩
  else if o.op = 2 then ⟨h.cells, h.roots.set o.a.toNat (refOf h o.b o.c)⟩
  else if o.op = 3 then ⟨setRef h.cells (rootAt h o.a).toNat o.c.toNat (rootAt h o.b), h.roots⟩
  else if o.op = 4 then ⟨h.cells, h.roots.set o.a.toNat (rootAt h o.b)⟩
  else if o.op = 5 then ⟨h.cells, h.roots.set o.a.toNat (-1)⟩
  else ⟨setData h.cells (rootAt h o.a).toNat o.b, h.roots⟩
def stepM (h : HeapM) (o : CmdM) : HeapM × Bool :=
  if validM h && cmdOk o then (if possO h o && !(decide (o.op = 1) && decide (h.cells.length = 40)) then (execM h o h.cells.length, true) else (h, false)) else (zeroH, false)
def emptyM : HeapM := ⟨[], [-1, -1, -1, -1]⟩
def runFrom (h : HeapM) (l : List CmdM) : HeapM := l.foldl (fun h o => (stepM h o).1) h
def runM (l : List CmdM) : HeapM := if cmdsOk l then runFrom emptyM l else zeroH
theorem runFrom_snoc {h : HeapM} {l : List CmdM} {k : Nat} {o : CmdM} (ho : l[k]? = some o) : runFrom h (l.take (k + 1)) = (stepM (runFrom h (l.take k)) o).1 := by
  rw [take_snoc_of ho]; simp [runFrom]
end Go.Proofs.Ytbnokkdhanlhpaa

/- Marking and snapshots brought to their ends, and freeing, as plain functions; that steps keep painted heaps and snapshots valid. -/
namespace Go.Proofs.Ytbnokkdhanlhpaa
set_option linter.unusedVariables false
/-! ### Colours -/
theorem whiteM_iff {cols : List Int} {r : Int} : whiteM cols r = true ↔ 0 ≤ r ∧ cols[r.toNat]? = some 0 := by
  unfold whiteM
  cases cols[r.toNat]? with
  | none => simp
  | some c => simp
theorem anyWhite_false {cols : List Int} {rs : List Int} : anyWhite cols rs = false ↔ ∀ r ∈ rs, 0 ≤ r → cols[r.toNat]? ≠ some 0 := by
  unfold anyWhite
  rw [← Bool.not_eq_true, List.any_eq_true]
  simp only [whiteM_iff]
  grind
theorem grey1_at {cols : List Int} {r : Int} {k : Nat} {c : Int} (h : cols[k]? = some c) : (grey1 cols r)[k]? = some (if c = 0 ∧ r = (k : Int) then 1 else c) := by
  unfold grey1
  have hk := (List.getElem?_eq_some_iff.1 h).1
  split
  · rename_i hw
    obtain ⟨h0, h1⟩ := whiteM_iff.1 hw
    rw [List.getElem?_set]
    by_cases e : r.toNat = k
    · subst e
      rw [h] at h1
      injection h1 with h1
      rw [if_pos rfl, if_pos hk, if_pos ⟨h1, by omega⟩]
    · rw [if_neg e, h, if_neg (by rintro ⟨_, rfl⟩; omega)]
  · rename_i hw
    rw [h, if_neg]
    rintro ⟨rfl, rfl⟩
    exact hw (whiteM_iff.2 ⟨by omega, by simpa using h⟩)
theorem greyL_at (rs : List Int) : ∀ {cols : List Int} {k : Nat} {c : Int}, cols[k]? = some c → (greyL cols rs)[k]? = some (if c = 0 ∧ (k : Int) ∈ rs then 1 else c) := by
  induction rs with
  | nil => intro cols k c h; simpa [greyL] using h
  | cons r rs ih =>
    intro cols k c h
    have h1 := ih (grey1_at (r := r) h)
    show (greyL (grey1 cols r) rs)[k]? = _
    rw [h1]
    congr 1
    by_cases hc : c = 0 <;> by_cases hr : r = (k : Int) <;> by_cases hm : (k : Int) ∈ rs <;> grind
def wt (c : Int) : Nat := if c = 0 then 2 else if c = 1 then 1 else 0
def muP (cols : List Int) : Nat := (cols.map wt).sum
theorem muP_set {cols : List Int} : ∀ {k : Nat} {x y : Int}, cols[k]? = some y → muP (cols.set k x) + wt y = muP cols + wt x := by
  induction cols with
  | nil => intro k x y h; simp at h
  | cons a l ih =>
    intro k x y h
    cases k with
    | zero => simp at h; subst h; simp [muP]; omega
    | succ k =>
      have := ih (k := k) (x := x) (by simpa using h)
      simp only [muP, List.set_cons_succ, List.map_cons, List.sum_cons] at this ⊢
      omega
theorem grey1_mu (cols : List Int) (r : Int) : muP (grey1 cols r) ≤ muP cols := by
  unfold grey1
  split
  · rename_i hw
    have := muP_set (x := 1) (whiteM_iff.1 hw).2
    have h1 : wt 0 = 2 := rfl
    have h2 : wt 1 = 1 := rfl
    omega
  · omega
theorem greyL_mu (rs : List Int) : ∀ cols : List Int, muP (greyL cols rs) ≤ muP cols := by
  induction rs with
  | nil => intro cols; exact Nat.le_refl _
  | cons r rs ih => intro cols; exact Nat.le_trans (ih (grey1 cols r)) (grey1_mu cols r)
theorem stepP_mu {p : PaintM} (h : (stepP p).2 = true) : muP (stepP p).1.colours < muP p.colours := by
  unfold stepP at h ⊢
  split at h
  · cases h
  · rename_i k hk
    obtain ⟨x, hx, hp, _⟩ := firstB_at hk
    have hx1 : x = 1 := by simpa [isGrey] using hp
    subst hx1
    have h1 := greyL_at (refsAt p.store k) hx
    rw [if_neg (by simp)] at h1
    have h2 := muP_set (x := 2) h1
    have h3 := greyL_mu (refsAt p.store k) p.colours
    have w1 : wt 1 = 1 := rfl
    have w2 : wt 2 = 0 := rfl
    show muP ((greyL p.colours (refsAt p.store k)).set k 2) < muP p.colours
    omega
/-- Steps, until there is no grey cell. -/
def endP (p : PaintM) : PaintM := if h : (stepP p).2 = true then endP (stepP p).1 else p
  termination_by muP p.colours
  decreasing_by exact stepP_mu h
theorem endP_step {p : PaintM} (h : (stepP p).2 = true) : endP p = endP (stepP p).1 := by rw [endP, dif_pos h]
theorem endP_done {p : PaintM} (h : (stepP p).2 = false) : endP p = p := by rw [endP, dif_neg (by simp [h])]
theorem endP_ind {P : PaintM → Prop} (hs : ∀ p, P p → P (stepP p).1) : ∀ (n : Nat) (p : PaintM), muP p.colours ≤ n → P p → P (endP p) := by
  intro n
  induction n with
  | zero =>
    intro p hn hp
    cases h : (stepP p).2
    · rw [endP_done h]; exact hp
    · have := stepP_mu h; omega
  | succ n ih =>
    intro p hn hp
    cases h : (stepP p).2
    · rw [endP_done h]; exact hp
    · rw [endP_step h]; exact ih _ (by have := stepP_mu h; omega) (hs p hp)
theorem endP_keeps {P : PaintM → Prop} (hs : ∀ p, P p → P (stepP p).1) {p : PaintM} (hp : P p) : P (endP p) := endP_ind hs _ p (Nat.le_refl _) hp
theorem endP_final (p : PaintM) : (stepP (endP p)).2 = false := by
  have key : ∀ (n : Nat) (p : PaintM), muP p.colours ≤ n → (stepP (endP p)).2 = false := by
    intro n
    induction n with
    | zero =>
      intro p hn
      cases h : (stepP p).2
      · rw [endP_done h]; exact h
      · have := stepP_mu h; omega
    | succ n ih =>
      intro p hn
      cases h : (stepP p).2
      · rw [endP_done h]; exact h
      · rw [endP_step h]; exact ih _ (by have := stepP_mu h; omega)
  exact key _ p (Nat.le_refl _)
theorem paintM_iff {p : PaintM} : paintM p = true ↔ validM p.store = true ∧ p.colours.length = p.store.cells.length ∧
    (∀ (k : Nat) (col : Int) (c : CellM), p.colours[k]? = some col → p.store.cells[k]? = some c → (0 ≤ col ∧ col ≤ 2) ∧ (col ≠ 0 → c.used = true ∧ p.active = true) ∧ (col = 2 → ∀ r ∈ c.refs, 0 ≤ r → p.colours[r.toNat]? ≠ some 0)) ∧
    (p.active = true → ∀ r ∈ p.store.roots, 0 ≤ r → p.colours[r.toNat]? ≠ some 0) := by
  have hz : (p.colours.zip p.store.cells).all (cellPaint p.colours p.active) = true ↔ ∀ (k : Nat) (col : Int) (c : CellM), p.colours[k]? = some col → p.store.cells[k]? = some c → cellPaint p.colours p.active (col, c) = true := by
    rw [List.all_eq_true]
    constructor
    · intro h k col c h1 h2
      exact h (col, c) (List.mem_of_getElem? (i := k) (by rw [List.getElem?_zip_eq_some]; exact ⟨h1, h2⟩))
    · rintro h ⟨col, c⟩ hm
      obtain ⟨k, hk⟩ := List.mem_iff_getElem?.1 hm
      rw [List.getElem?_zip_eq_some] at hk
      exact h k col c hk.1 hk.2
  have hc : ∀ (col : Int) (c : CellM), cellPaint p.colours p.active (col, c) = true ↔ (0 ≤ col ∧ col ≤ 2) ∧ (col ≠ 0 → c.used = true ∧ p.active = true) ∧ (col = 2 → ∀ r ∈ c.refs, 0 ≤ r → p.colours[r.toNat]? ≠ some 0) := by
    intro col c
    unfold cellPaint
    simp only [Bool.and_eq_true, inB_iff, Bool.or_eq_true, beq_iff_eq, Bool.not_eq_true', Bool.and_eq_false_iff, anyWhite_false]
    by_cases h0 : col = 0 <;> by_cases h2 : col = 2 <;> simp [h0, h2]
    all_goals (try omega)
  unfold paintM
  simp only [Bool.and_eq_true, decide_eq_true_eq, hz, hc, Bool.or_eq_true, Bool.not_eq_true', anyWhite_false]
  constructor
  · rintro ⟨⟨⟨h1, h2⟩, h3⟩, h4⟩
    exact ⟨h1, h2, h3, fun ha => h4.resolve_left (by simp [ha])⟩
  · rintro ⟨h1, h2, h3, h4⟩
    refine ⟨⟨⟨h1, h2⟩, h3⟩, ?_⟩
    cases ha : p.active
    · exact .inl rfl
    · exact .inr (h4 ha)
theorem valid_used {h : HeapM} {r : Int} (hr : leadsM h.cells r = true) (h0 : 0 ≤ r) : ∃ c, h.cells[r.toNat]? = some c ∧ c.used = true := by
  unfold leadsM usedAt at hr
  cases hc : h.cells[r.toNat]? with
  | none => simp [hc] at hr; omega
  | some c =>
    rw [hc] at hr
    simp at hr
    rcases hr with hr | hr
    · omega
    · exact ⟨c, rfl, hr.2⟩
/-- A step of marking keeps a painted heap valid. -/
theorem paintM_step {p : PaintM} (h : paintM p = true) : paintM (stepP p).1 = true := by
  unfold stepP
  split
  · exact h
  · rename_i k hk
    obtain ⟨x, hx, hp, _⟩ := firstB_at hk
    have hx1 : x = 1 := by simpa [isGrey] using hp
    subst hx1
    obtain ⟨h1, h2, h3, h4⟩ := paintM_iff.1 h
    have hkl := (List.getElem?_eq_some_iff.1 hx).1
    obtain ⟨c, hc⟩ : ∃ c, p.store.cells[k]? = some c := ⟨_, List.getElem?_eq_getElem (by omega)⟩
    obtain ⟨-, hua, -⟩ := h3 k 1 c hx hc
    obtain ⟨hcu, hact⟩ := hua (by decide)
    rw [refsAt_of hc]
    have hlead := (validM_leads h1).1 c (List.mem_of_getElem? hc)
    have key : ∀ i col, p.colours[i]? = some col → ((greyL p.colours c.refs).set k 2)[i]? = some (if i = k then 2 else if col = 0 ∧ (i : Int) ∈ c.refs then 1 else col) := by
      intro i col hi
      rw [List.getElem?_set]
      by_cases e : k = i
      · subst e
        rw [if_pos rfl, if_pos (by rw [greyL_len]; exact hkl), if_pos rfl]
      · rw [if_neg e, greyL_at _ hi, if_neg (show ¬ i = k from fun e' => e e'.symm)]
    have hlen : ((greyL p.colours c.refs).set k 2).length = p.colours.length := by simp [greyL_len]
    have old : ∀ {i : Nat} {col' : Int}, ((greyL p.colours c.refs).set k 2)[i]? = some col' → ∃ col, p.colours[i]? = some col ∧ col' = (if i = k then 2 else if col = 0 ∧ (i : Int) ∈ c.refs then 1 else col) := by
      intro i col' hi
      have hil : i < p.colours.length := by rw [← hlen]; exact (List.getElem?_eq_some_iff.1 hi).1
      refine ⟨_, List.getElem?_eq_getElem hil, ?_⟩
      rw [key i _ (List.getElem?_eq_getElem hil)] at hi
      injection hi with hi
      exact hi.symm
    have mono : ∀ {i : Nat}, ((greyL p.colours c.refs).set k 2)[i]? = some 0 → p.colours[i]? = some 0 ∧ i ≠ k ∧ (i : Int) ∉ c.refs := by
      intro i hi
      obtain ⟨col, h5, h6⟩ := old hi
      grind
    refine paintM_iff.2 ⟨h1, by show ((greyL p.colours c.refs).set k 2).length = _; rw [hlen, h2], ?_, ?_⟩
    · intro i col' d hi hd
      obtain ⟨col, h5, h6⟩ := old hi
      obtain ⟨g1, g2, g3⟩ := h3 i col d h5 hd
      refine ⟨by subst h6; split <;> (try split) <;> omega, ?_, ?_⟩
      · intro hne
        by_cases e : i = k
        · subst e
          rw [hc] at hd
          injection hd with hd
          subst hd
          exact ⟨hcu, hact⟩
        · by_cases e0 : col = 0
          · have him : (i : Int) ∈ c.refs := by grind
            obtain ⟨c2, hc2, hu2⟩ := valid_used (hlead _ him) (by omega)
            rw [show ((i : Int)).toNat = i by omega, hd] at hc2
            injection hc2 with hc2
            subst hc2
            exact ⟨hu2, hact⟩
          · exact ⟨(g2 e0).1, hact⟩
      · intro h2' r hr h0 hw
        obtain ⟨m1, m2, m3⟩ := mono hw
        rw [show ((r.toNat : Nat) : Int) = r by omega] at m3
        by_cases e : i = k
        · subst e
          rw [hc] at hd
          injection hd with hd
          subst hd
          exact m3 hr
        · have : col = 2 := by grind
          exact g3 this r hr h0 m1
    · intro _ r hr h0 hw
      exact h4 hact r hr h0 (mono hw).1
end Go.Proofs.Ytbnokkdhanlhpaa

/- Snapshots brought to their ends, and freeing, as plain functions. -/
namespace Go.Proofs.Ytbnokkdhanlhpaa
set_option linter.unusedVariables false
theorem sum_set {α : Type} (f : α → Nat) : ∀ {l : List α} {k : Nat} {x y : α}, l[k]? = some y → ((l.set k x).map f).sum + f y = (l.map f).sum + f x := by
  intro l
  induction l with
  | nil => intro k x y h; simp at h
  | cons a l ih =>
    intro k x y h
    cases k with
    | zero => simp at h; subst h; simp; omega
    | succ k =>
      have := ih (k := k) (x := x) (by simpa using h)
      simp only [List.set_cons_succ, List.map_cons, List.sum_cons] at this ⊢
      omega
def wx (b : Bool) : Nat := if b then 0 else 2
def wy (b : Bool) : Nat := if b then 1 else 0
def muS (xy : List Bool × List Bool) : Nat := (xy.1.map wx).sum + (xy.2.map wy).sum
theorem meet1_mu {xy : List Bool × List Bool} (hl : xy.2.length = xy.1.length) (r : Int) : muS (meet1 xy r) ≤ muS xy := by
  unfold meet1
  split
  · rename_i hw
    have h1 := sum_set wx (x := true) hw.2
    have hk := (List.getElem?_eq_some_iff.1 hw.2).1
    have h2 := sum_set wy (x := true) (List.getElem?_eq_getElem (l := xy.2) (i := r.toNat) (by omega))
    have e1 : wx false = 2 := rfl
    have e2 : wx true = 0 := rfl
    have e3 : wy true = 1 := rfl
    have e4 : wy (xy.2[r.toNat]'(by omega)) ≤ 1 := by unfold wy; split <;> omega
    unfold muS
    simp only
    omega
  · exact Nat.le_refl _
theorem meetL_mu (rs : List Int) : ∀ xy : List Bool × List Bool, xy.2.length = xy.1.length → muS (meetL xy rs) ≤ muS xy := by
  induction rs with
  | nil => intro xy _; exact Nat.le_refl _
  | cons r rs ih =>
    intro xy hl
    have h1 := meet1_len xy r
    exact Nat.le_trans (ih (meet1 xy r) (by omega)) (meet1_mu hl r)
theorem stepS_mu {p : TwoM} (hl : p.y.length = p.x.length) (h : (stepS p).2 = true) : muS ((stepS p).1.x, (stepS p).1.y) < muS (p.x, p.y) := by
  unfold stepS at h ⊢
  split at h
  · cases h
  · rename_i k hk
    obtain ⟨x, hx, hp, _⟩ := firstB_at hk
    have hx1 : x = true := hp
    subst hx1
    have h2 := sum_set wy (x := false) hx
    have h3 := meetL_mu (refsAt p.store k) (p.x, p.y.set k false) (by simpa using hl)
    have e3 : wy true = 1 := rfl
    have e4 : wy false = 0 := rfl
    show muS ((meetL (p.x, p.y.set k false) (refsAt p.store k)).1, (meetL (p.x, p.y.set k false) (refsAt p.store k)).2) < muS (p.x, p.y)
    have e5 : muS (p.x, p.y.set k false) < muS (p.x, p.y) := by unfold muS; simp only; omega
    exact Nat.lt_of_le_of_lt h3 e5
theorem stepS_lens {p : TwoM} (hl : p.y.length = p.x.length) : (stepS p).1.y.length = (stepS p).1.x.length := by
  unfold stepS
  split
  · exact hl
  · have := meetL_len (refsAt p.store ‹Nat›) (p.x, p.y.set ‹Nat› false)
    simp only [this.1, this.2, List.length_set, hl]
/-- Steps, until no cell waits. -/
def endS (p : TwoM) : TwoM := if h : p.y.length = p.x.length ∧ (stepS p).2 = true then endS (stepS p).1 else p
  termination_by muS (p.x, p.y)
  decreasing_by exact stepS_mu h.1 h.2
theorem endS_step {p : TwoM} (hl : p.y.length = p.x.length) (h : (stepS p).2 = true) : endS p = endS (stepS p).1 := by rw [endS, dif_pos ⟨hl, h⟩]
theorem endS_done {p : TwoM} (h : (stepS p).2 = false) : endS p = p := by rw [endS, dif_neg (by simp [h])]
theorem endS_ind {P : TwoM → Prop} (hs : ∀ p, P p → P (stepS p).1) : ∀ (n : Nat) (p : TwoM), p.y.length = p.x.length → muS (p.x, p.y) ≤ n → P p → P (endS p) ∧ (stepS (endS p)).2 = false := by
  intro n
  induction n with
  | zero =>
    intro p hl hn hp
    cases h : (stepS p).2
    · rw [endS_done h]; exact ⟨hp, h⟩
    · have := stepS_mu hl h; omega
  | succ n ih =>
    intro p hl hn hp
    cases h : (stepS p).2
    · rw [endS_done h]; exact ⟨hp, h⟩
    · rw [endS_step hl h]; exact ih _ (stepS_lens hl) (by have := stepS_mu hl h; omega) (hs p hp)
theorem endS_keeps {P : TwoM → Prop} (hs : ∀ p, P p → P (stepS p).1) {p : TwoM} (hl : p.y.length = p.x.length) (hp : P p) : P (endS p) := (endS_ind hs _ p hl (Nat.le_refl _) hp).1
theorem endS_final {p : TwoM} (hl : p.y.length = p.x.length) : (stepS (endS p)).2 = false := (endS_ind (P := fun _ => True) (fun _ _ => trivial) _ p hl (Nat.le_refl _) trivial).2
theorem meet1_at {xy : List Bool × List Bool} {r : Int} {k : Nat} {a b : Bool} (h1 : xy.1[k]? = some a) (h2 : xy.2[k]? = some b) :
    (meet1 xy r).1[k]? = some (a || decide (r = (k : Int))) ∧ (meet1 xy r).2[k]? = some (b || (!a && decide (r = (k : Int)))) := by
  have hk := (List.getElem?_eq_some_iff.1 h1).1
  have hk2 := (List.getElem?_eq_some_iff.1 h2).1
  unfold meet1
  split
  · rename_i hw
    by_cases e : r.toNat = k
    · subst e
      rw [h1] at hw
      have ha : a = false := by have := hw.2; injection this
      have hr : r = (r.toNat : Int) := by omega
      subst ha
      rw [List.getElem?_set, List.getElem?_set, if_pos rfl, if_pos rfl, if_pos hk, if_pos hk2]
      simp [← hr]
    · have hr : ¬ r = (k : Int) := by omega
      rw [List.getElem?_set, List.getElem?_set, if_neg e, if_neg e, h1, h2]
      simp [hr]
  · rename_i hw
    rw [h1, h2]
    by_cases hr : r = (k : Int)
    · subst hr
      have ha : a = true := by
        cases a
        · exact absurd ⟨by omega, by simpa using h1⟩ hw
        · rfl
      simp [ha]
    · simp [hr]
theorem meetL_at (rs : List Int) : ∀ {xy : List Bool × List Bool} {k : Nat} {a b : Bool}, xy.1[k]? = some a → xy.2[k]? = some b →
    (meetL xy rs).1[k]? = some (a || decide ((k : Int) ∈ rs)) ∧ (meetL xy rs).2[k]? = some (b || (!a && decide ((k : Int) ∈ rs))) := by
  induction rs with
  | nil => intro xy k a b h1 h2; simp [meetL, h1, h2]
  | cons r rs ih =>
    intro xy k a b h1 h2
    obtain ⟨g1, g2⟩ := meet1_at (r := r) h1 h2
    obtain ⟨i1, i2⟩ := ih g1 g2
    show (meetL (meet1 xy r) rs).1[k]? = _ ∧ (meetL (meet1 xy r) rs).2[k]? = _
    rw [i1, i2]
    have e : decide ((k : Int) ∈ r :: rs) = (decide (r = (k : Int)) || decide ((k : Int) ∈ rs)) := by
      by_cases hr : r = (k : Int) <;> simp [hr]
      intro h; exact absurd h.symm hr
    rw [e]
    cases a <;> cases b <;> cases decide (r = (k : Int)) <;> simp
theorem snapM_iff {p : TwoM} : snapM p = true ↔ validM p.store = true ∧ p.x.length = p.store.cells.length ∧ p.y.length = p.store.cells.length ∧
    ∀ (k : Nat) (c : CellM) (a b : Bool), p.store.cells[k]? = some c → p.x[k]? = some a → p.y[k]? = some b → (b = true → a = true) ∧ (a = true → c.used = true) := by
  unfold snapM
  simp only [Bool.and_eq_true, decide_eq_true_eq, all_range]
  constructor
  · rintro ⟨⟨⟨h1, h2⟩, h3⟩, h4⟩
    refine ⟨h1, h2, h3, fun k c a b hc ha hb => ?_⟩
    have := h4 k (List.getElem?_eq_some_iff.1 hc).1
    unfold snapOk at this
    rw [getD_of ha, getD_of hb, usedN_at hc] at this
    cases a <;> cases b <;> simp_all
  · rintro ⟨h1, h2, h3, h4⟩
    refine ⟨⟨⟨h1, h2⟩, h3⟩, fun k hk => ?_⟩
    have hc := List.getElem?_eq_getElem (l := p.store.cells) (i := k) hk
    have ha := List.getElem?_eq_getElem (l := p.x) (i := k) (by omega)
    have hb := List.getElem?_eq_getElem (l := p.y) (i := k) (by omega)
    have := h4 k _ _ _ hc ha hb
    unfold snapOk
    rw [getD_of ha, getD_of hb, usedN_at hc]
    revert this
    cases p.x[k]'(by omega) <;> cases p.y[k]'(by omega) <;> simp
/-- A step of marking keeps a snapshot valid. -/
theorem snapM_step {p : TwoM} (h : snapM p = true) : snapM (stepS p).1 = true := by
  unfold stepS
  split
  · exact h
  · rename_i k hk
    obtain ⟨x, hx, hp, _⟩ := firstB_at hk
    obtain ⟨h1, h2, h3, h4⟩ := snapM_iff.1 h
    have hkl := (List.getElem?_eq_some_iff.1 hx).1
    obtain ⟨c, hc⟩ : ∃ c, p.store.cells[k]? = some c := ⟨_, List.getElem?_eq_getElem (by omega)⟩
    rw [refsAt_of hc]
    have hlead := (validM_leads h1).1 c (List.mem_of_getElem? hc)
    have hlen := meetL_len c.refs (p.x, p.y.set k false)
    refine snapM_iff.2 ⟨h1, by rw [← h2]; exact hlen.1, by rw [← h3]; exact hlen.2.trans (by simp), fun i d a b hd ha hb => ?_⟩
    have hil : i < p.store.cells.length := (List.getElem?_eq_some_iff.1 hd).1
    have ga := List.getElem?_eq_getElem (l := p.x) (i := i) (by omega)
    have gb := List.getElem?_eq_getElem (l := p.y.set k false) (i := i) (by simp; omega)
    obtain ⟨m1, m2⟩ := meetL_at c.refs (xy := (p.x, p.y.set k false)) ga gb
    have gy := List.getElem?_eq_getElem (l := p.y) (i := i) (by omega)
    obtain ⟨o1, o2⟩ := h4 i d _ _ hd ga gy
    simp only at ha hb
    rw [m1] at ha
    rw [m2] at hb
    injection ha with ha
    injection hb with hb
    have hsub : (p.y.set k false)[i]'(by simp; omega) = true → p.y[i]'(by omega) = true := by
      rw [List.getElem_set]
      split
      · intro h; cases h
      · exact id
    refine ⟨fun hb1 => ?_, fun ha1 => ?_⟩
    · subst ha hb
      cases hxi : p.x[i]'(by omega) <;> cases hyi : (p.y.set k false)[i]'(by simp; omega) <;> simp_all
    · subst ha
      cases hxi : p.x[i]'(by omega)
      · rw [hxi] at ha1
        have him : (i : Int) ∈ c.refs := by simpa using ha1
        obtain ⟨c2, hc2, hu2⟩ := valid_used (hlead _ him) (by omega)
        rw [show ((i : Int)).toNat = i by omega, hd] at hc2
        injection hc2 with hc2
        subst hc2
        exact hu2
      · exact o2 hxi

/-! ### Freeing -/
def freeCell : CellM := ⟨false, 0, []⟩
/-- The cells without those that are dead. -/
def dropCs (cs : List CellM) (dead : List Bool) : List CellM := List.zipWith (fun c d => if d then freeCell else c) cs dead
def dropM (h : HeapM) (dead : List Bool) : HeapM := ⟨dropCs h.cells dead, h.roots⟩
def freedN (cs : List CellM) (dead : List Bool) : Nat := ((List.zipWith (fun (c : CellM) d => d && c.used) cs dead).filter id).length
theorem dropCs_len {cs : List CellM} {dead : List Bool} (h : dead.length = cs.length) : (dropCs cs dead).length = cs.length := by simp [dropCs, h]
/-- What PaintFinish leads to, and how many cells it frees. -/
def finishP (p : PaintM) : PaintM × Int :=
  if p.active then (⟨dropM (endP p).store ((endP p).colours.map fun c => c == 0), List.replicate (endP p).colours.length 0, false⟩, freedN (endP p).store.cells ((endP p).colours.map fun c => c == 0)) else (p, 0)
def paintFinishM (p : PaintM) : PaintM × Int := if paintM p then finishP p else (zeroP, -1)
theorem endP_store (p : PaintM) : (endP p).store = p.store ∧ (endP p).active = p.active ∧ (endP p).colours.length = p.colours.length := by
  refine endP_keeps (P := fun q => q.store = p.store ∧ q.active = p.active ∧ q.colours.length = p.colours.length) (fun q ⟨h1, h2, h3⟩ => ?_) ⟨rfl, rfl, rfl⟩
  unfold stepP
  split
  · exact ⟨h1, h2, h3⟩
  · exact ⟨h1, h2, by simp [greyL_len, h3]⟩
theorem endP_valid {p : PaintM} (h : paintM p = true) : paintM (endP p) = true := endP_keeps (P := fun q => paintM q = true) (fun _ hq => paintM_step hq) h
end Go.Proofs.Ytbnokkdhanlhpaa

/- Valid heaps stay valid; sweeping; snapshots under instructions and brought to their ends, as plain functions. -/
namespace Go.Proofs.Ytbnokkdhanlhpaa
set_option linter.unusedVariables false
set_option linter.unusedSimpArgs false
theorem validM_iff {h : HeapM} : validM h = true ↔ (∀ c ∈ h.cells, cellOkM h.cells c = true) ∧ h.cells.length ≤ 40 ∧ h.roots.length = 4 ∧ ∀ r ∈ h.roots, leadsM h.cells r = true := by
  unfold validM refsM
  simp only [Bool.and_eq_true, decide_eq_true_eq, List.all_eq_true]
  constructor
  · rintro ⟨a, ⟨b, c⟩, d⟩; exact ⟨a, b, c, d⟩
  · rintro ⟨a, b, c, d⟩; exact ⟨a, ⟨b, c⟩, d⟩
theorem leadsM_iff {cs : List CellM} {r : Int} : leadsM cs r = true ↔ r = -1 ∨ (0 ≤ r ∧ ∃ c, cs[r.toNat]? = some c ∧ c.used = true) := by
  unfold leadsM usedAt
  cases hc : cs[r.toNat]? with
  | none => simp
  | some c => simp
theorem cellOk_iff {cs : List CellM} {c : CellM} : cellOkM cs c = true ↔ (c.used = true ∧ (∀ r ∈ c.refs, leadsM cs r = true) ∧ 0 ≤ c.data ∧ c.data ≤ 99 ∧ c.refs.length ≤ 3) ∨ (c.used = false ∧ c.data = 0 ∧ c.refs = []) := by
  unfold cellOkM refsM
  cases hu : c.used
  · simp [hu]
  · simp only [if_true, Bool.and_eq_true, decide_eq_true_eq, List.all_eq_true, inB_iff, hu]
    constructor
    · rintro ⟨a, ⟨b, c⟩, d⟩; exact .inl ⟨trivial, a, b, c, d⟩
    · rintro (⟨-, a, b, c, d⟩ | ⟨h, _⟩)
      · exact ⟨a, ⟨b, c⟩, d⟩
      · cases h
theorem leads_mono {cs cs' : List CellM} (h : ∀ (i : Nat) (c : CellM), cs[i]? = some c → c.used = true → ∃ c', cs'[i]? = some c' ∧ c'.used = true) {r : Int} (hr : leadsM cs r = true) : leadsM cs' r = true := by
  rcases leadsM_iff.1 hr with h1 | ⟨h0, c, hc, hu⟩
  · exact leadsM_iff.2 (.inl h1)
  · exact leadsM_iff.2 (.inr ⟨h0, h _ c hc hu⟩)
theorem cellOk_mono {cs cs' : List CellM} (h : ∀ (i : Nat) (c : CellM), cs[i]? = some c → c.used = true → ∃ c', cs'[i]? = some c' ∧ c'.used = true) {c : CellM} (hr : cellOkM cs c = true) : cellOkM cs' c = true := by
  rcases cellOk_iff.1 hr with ⟨a, b, c⟩ | h2
  · exact cellOk_iff.2 (.inl ⟨a, fun r hr => leads_mono h (b r hr), c⟩)
  · exact cellOk_iff.2 (.inr h2)
theorem set_used {cs : List CellM} {k : Nat} {x : CellM} (hx : x.used = true) : ∀ (i : Nat) (c : CellM), cs[i]? = some c → c.used = true → ∃ c', (cs.set k x)[i]? = some c' ∧ c'.used = true := by
  intro i c hc hu
  have hi := (List.getElem?_eq_some_iff.1 hc).1
  rw [List.getElem?_set]
  by_cases e : k = i
  · subst e; rw [if_pos rfl, if_pos hi]; exact ⟨x, rfl, hx⟩
  · rw [if_neg e]; exact ⟨c, hc, hu⟩
theorem rootAt_leads {h : HeapM} (hv : validM h = true) (r : Int) : leadsM h.cells (rootAt h r) = true := by
  unfold rootAt
  split
  · rename_i x hx
    exact (validM_leads hv).2 x (List.mem_of_getElem? hx)
  · exact leadsM_neg1 _
theorem refOf_leads {h : HeapM} (hv : validM h = true) (root c : Int) : leadsM h.cells (refOf h root c) = true := by
  unfold refOf refsAt
  split
  · rename_i x hx
    split at hx
    · rename_i d hd
      exact (validM_leads hv).1 d (List.mem_of_getElem? hd) x (List.mem_of_getElem? hx)
    · simp at hx
  · exact leadsM_neg1 _
theorem valid_roots {h : HeapM} (hv : validM h = true) {k : Nat} {x : Int} (hx : leadsM h.cells x = true) : validM ⟨h.cells, h.roots.set k x⟩ = true := by
  obtain ⟨a, b, c, d⟩ := validM_iff.1 hv
  refine validM_iff.2 ⟨a, b, by simpa using c, fun r hr => ?_⟩
  rcases List.mem_or_eq_of_mem_set hr with hr | rfl
  · exact d r hr
  · exact hx
theorem valid_set {h : HeapM} (hv : validM h = true) {k : Nat} {x : CellM} (hx : cellOkM h.cells x = true) (hu : x.used = true) : validM ⟨h.cells.set k x, h.roots⟩ = true := by
  obtain ⟨a, b, c, d⟩ := validM_iff.1 hv
  have hm := set_used (cs := h.cells) (k := k) hu
  refine validM_iff.2 ⟨fun y hy => ?_, by simpa using b, c, fun r hr => leads_mono hm (d r hr)⟩
  rcases List.mem_or_eq_of_mem_set hy with hy | rfl
  · exact cellOk_mono hm (a y hy)
  · exact cellOk_mono hm hx
theorem valid_push {h : HeapM} (hv : validM h = true) {x : CellM} (hx : cellOkM h.cells x = true) (hl : h.cells.length < 40) : validM ⟨h.cells ++ [x], h.roots⟩ = true := by
  obtain ⟨a, b, c, d⟩ := validM_iff.1 hv
  have hm : ∀ (i : Nat) (c : CellM), h.cells[i]? = some c → c.used = true → ∃ c', (h.cells ++ [x])[i]? = some c' ∧ c'.used = true := by
    intro i c hc hu
    exact ⟨c, by rw [List.getElem?_append_left (List.getElem?_eq_some_iff.1 hc).1]; exact hc, hu⟩
  refine validM_iff.2 ⟨fun y hy => ?_, by simp; omega, c, fun r hr => leads_mono hm (d r hr)⟩
  rcases List.mem_append.1 hy with hy | hy
  · exact cellOk_mono hm (a y hy)
  · rw [List.mem_singleton.1 hy]; exact cellOk_mono hm hx
theorem cmdOk_parts {o : CmdM} (h : cmdOk o = true) : 1 ≤ o.op ∧ o.op ≤ 6 ∧ 0 ≤ o.a ∧ o.a ≤ 3 ∧ 0 ≤ o.b ∧ o.b ≤ maxB o.op ∧ 0 ≤ o.c ∧ o.c ≤ maxC o.op := by
  unfold cmdOk at h
  simp only [Bool.and_eq_true, inB_iff] at h
  omega
theorem newCell_ok {cs : List CellM} {o : CmdM} (hc : cmdOk o = true) (h1 : o.op = 1) : cellOkM cs (newCell o) = true := by
  obtain ⟨-, -, -, -, b0, b1, c0, c1⟩ := cmdOk_parts hc
  have e1 : maxB o.op = 3 := by rw [h1]; rfl
  have e2 : maxC o.op = 99 := by rw [h1]; rfl
  refine cellOk_iff.2 (.inl ⟨rfl, fun r hr => ?_, c0, by rw [e2] at c1; exact c1, by simp [newCell]; omega⟩)
  have : r = -1 := (List.mem_replicate.1 hr).2
  subst this
  exact leadsM_neg1 _
/-- A possible instruction keeps a heap valid. -/
theorem valid_exec {h : HeapM} {o : CmdM} {at_ : Nat} (hv : validM h = true) (hc : cmdOk o = true) (hp : possO h o = true) (hat : at_ ≤ h.cells.length) (hn : o.op = 1 → at_ < 40) : validM (execM h o at_) = true := by
  obtain ⟨o1, o6, a0, a3, b0, b1, c0, c1⟩ := cmdOk_parts hc
  unfold execM
  split
  · rename_i h1
    have hnew := newCell_ok (cs := h.cells) hc h1
    have hat40 := hn h1
    unfold putCell
    split
    · rename_i he
      have h2 := valid_push hv hnew (by omega)
      refine valid_roots (h := ⟨h.cells ++ [newCell o], h.roots⟩) h2 (leadsM_iff.2 (.inr ⟨by omega, newCell o, ?_, rfl⟩))
      simp [he]
    · rename_i he
      have h2 := valid_set hv (k := at_) hnew rfl
      refine valid_roots (h := ⟨h.cells.set at_ (newCell o), h.roots⟩) h2 (leadsM_iff.2 (.inr ⟨by omega, newCell o, ?_, rfl⟩))
      show (h.cells.set at_ (newCell o))[((at_ : Int)).toNat]? = _
      rw [Int.toNat_natCast, List.getElem?_set, if_pos rfl, if_pos (by omega)]
  · split
    · exact valid_roots hv (refOf_leads hv _ _)
    · split
      · show validM ⟨setRef h.cells (rootAt h o.a).toNat o.c.toNat (rootAt h o.b), h.roots⟩ = true
        unfold setRef
        split
        · rename_i c hcc
          have hok := (validM_iff.1 hv).1 c (List.mem_of_getElem? hcc)
          rcases cellOk_iff.1 hok with ⟨u1, u2, u3⟩ | ⟨u1, u2, u3⟩
          · refine valid_set hv (cellOk_iff.2 (.inl ⟨u1, fun r hr => ?_, u3.1, u3.2.1, by simpa using u3.2.2⟩)) u1
            rcases List.mem_or_eq_of_mem_set hr with hr | rfl
            · exact u2 r hr
            · exact rootAt_leads hv _
          · have e : (⟨c.used, c.data, c.refs.set o.c.toNat (rootAt h o.b)⟩ : CellM) = c := by
              obtain ⟨cu, cd, cr⟩ := c
              simp only at u3
              subst u3
              simp
            rw [e]
            have e2 : h.cells.set (rootAt h o.a).toNat c = h.cells := by
              have h9 := (List.getElem?_eq_some_iff.1 hcc).2
              rw [← h9]
              exact List.set_getElem_self _
            rw [e2]
            exact hv
        · exact hv
      · split
        · exact valid_roots hv (rootAt_leads hv _)
        · split
          · exact valid_roots hv (leadsM_neg1 _)
          · rename_i n1 n2 n3 n4 n5
            have h6 : o.op = 6 := by omega
            show validM ⟨setData h.cells (rootAt h o.a).toNat o.b, h.roots⟩ = true
            unfold setData
            split
            · rename_i c hcc
              have hpos : 0 ≤ rootAt h o.a := by
                unfold possO at hp
                rw [if_neg n2, if_neg n3, if_pos h6] at hp
                exact of_decide_eq_true hp
              obtain ⟨c2, hc2, hu⟩ := valid_used (rootAt_leads hv o.a) hpos
              rw [hcc] at hc2
              injection hc2 with hc2
              subst hc2
              have hok := (validM_iff.1 hv).1 c (List.mem_of_getElem? hcc)
              have e1 : maxB o.op = 99 := by rw [h6]; rfl
              rcases cellOk_iff.1 hok with ⟨u1, u2, u3⟩ | ⟨u1, u2, u3⟩
              · exact valid_set hv (cellOk_iff.2 (.inl ⟨u1, u2, b0, by rw [e1] at b1; exact b1, u3.2.2⟩)) u1
              · rw [u1] at hu; cases hu
            · exact hv
theorem valid_step {h : HeapM} {o : CmdM} (hv : validM h = true) (hc : cmdOk o = true) : validM (stepM h o).1 = true := by
  unfold stepM
  rw [hv, hc]
  simp only [Bool.and_self, if_true]
  split
  · rename_i hp
    simp only [Bool.and_eq_true, Bool.not_eq_true', Bool.and_eq_false_iff, decide_eq_false_iff_not] at hp
    have hl := (validM_len hv).1
    exact valid_exec hv hc hp.1 (Nat.le_refl _) (fun h1 => by rcases hp.2 with h2 | h2 <;> omega)
  · exact hv
theorem valid_empty : validM emptyM = true := by decide
theorem valid_runFrom {l : List CmdM} : ∀ {h : HeapM}, validM h = true → (∀ o ∈ l, cmdOk o = true) → validM (runFrom h l) = true := by
  unfold runFrom
  induction l with
  | nil => intro h hv _; exact hv
  | cons o l ih => intro h hv hl; exact ih (valid_step hv (hl o (by simp))) (fun o ho => hl o (by simp [ho]))
theorem valid_run {l : List CmdM} (hl : cmdsOk l = true) : validM (runM l) = true := by
  unfold runM
  rw [hl, if_pos rfl]
  unfold cmdsOk at hl
  simp only [Bool.and_eq_true, List.all_eq_true] at hl
  exact valid_runFrom valid_empty hl.2

/-! ### Sweeping -/
def nots (l : List Bool) : List Bool := l.map (!·)
theorem nots_len (l : List Bool) : (nots l).length = l.length := by simp [nots]
theorem nots_at {l : List Bool} {i : Nat} {b : Bool} (h : l[i]? = some b) : (nots l)[i]? = some !b := by simp [nots, h]
/-- Does r lead to a used cell that is not marked? -/
def outRef (h : HeapM) (marks : List Bool) (r : Int) : Bool := decide (0 ≤ r) && (usedN h.cells r.toNat && !marks.getD r.toNat false)
def outAt (h : HeapM) (marks : List Bool) (i : Nat) : Bool := marks.getD i false && (refsAt h i).any (outRef h marks)
def outB (h : HeapM) (marks : List Bool) : Bool := h.roots.any (outRef h marks) || (List.range h.cells.length).any (outAt h marks)
def sweepM (h : HeapM) (marks : List Bool) : HeapM × Int :=
  if validM h && decide (marks.length = h.cells.length) && validM (dropM h (nots marks)) then (dropM h (nots marks), freedN h.cells (nots marks)) else (zeroH, -1)
theorem drop_at {cs : List CellM} {dead : List Bool} {i : Nat} {c : CellM} {d : Bool} (hc : cs[i]? = some c) (hd : dead[i]? = some d) : (dropCs cs dead)[i]? = some (if d then freeCell else c) := by
  unfold dropCs
  rw [List.getElem?_zipWith, hc, hd]
theorem drop_leads {h : HeapM} {marks : List Bool} (hl : marks.length = h.cells.length) {r : Int} (hr : leadsM h.cells r = true) : leadsM (dropCs h.cells (nots marks)) r = !outRef h marks r := by
  rcases leadsM_iff.1 hr with rfl | ⟨h0, c, hc, hu⟩
  · rw [leadsM_neg1]; rfl
  · have hi := (List.getElem?_eq_some_iff.1 hc).1
    have hm := List.getElem?_eq_getElem (l := marks) (i := r.toNat) (by omega)
    have hd := drop_at hc (nots_at hm)
    unfold outRef
    rw [usedN_at hc, hu, getD_of hm]
    rw [leadsM_at hd h0]
    cases marks[r.toNat]'(by omega) <;> simp [freeCell, hu, h0]
theorem sweep_out {h : HeapM} {marks : List Bool} (hv : validM h = true) (hl : marks.length = h.cells.length) : validM (dropM h (nots marks)) = !outB h marks := by
  obtain ⟨v1, v2, v3, v4⟩ := validM_iff.1 hv
  obtain ⟨l1, l2⟩ := validM_leads hv
  have hdl : (dropCs h.cells (nots marks)).length = h.cells.length := dropCs_len (by rw [nots_len, hl])
  rw [Bool.eq_iff_iff, validM_iff]
  unfold outB dropM
  simp only [Bool.not_eq_true', Bool.or_eq_false_iff, List.any_eq_false, List.mem_range, Bool.not_eq_true]
  constructor
  · rintro ⟨a, b, c, d⟩
    refine ⟨fun r hr => ?_, fun i hi => ?_⟩
    · have h1 := d r hr
      rw [drop_leads hl (l2 r hr)] at h1
      simpa using h1
    · unfold outAt
      have hm := List.getElem?_eq_getElem (l := marks) (i := i) (by omega)
      have hc := List.getElem?_eq_getElem (l := h.cells) (i := i) hi
      rw [getD_of hm, refsAt_of hc]
      cases hmi : marks[i]'(by omega)
      · rfl
      · rw [hmi] at hm
        have hd := drop_at hc (nots_at hm)
        simp only [Bool.not_true, Bool.false_eq_true, if_false] at hd
        have hok := a _ (List.mem_of_getElem? hd)
        simp only [Bool.true_and, List.any_eq_false, Bool.not_eq_true]
        intro r hr
        have h1 := l1 _ (List.mem_of_getElem? hc) r hr
        have h2 : leadsM (dropCs h.cells (nots marks)) r = true := by
          rcases cellOk_iff.1 hok with ⟨_, u2, _⟩ | ⟨_, _, u3⟩
          · exact u2 r hr
          · rw [u3] at hr; cases hr
        rw [drop_leads hl h1] at h2
        simpa using h2
  · rintro ⟨a, b⟩
    refine ⟨fun c hc => ?_, by rw [hdl]; exact v2, v3, fun r hr => by rw [drop_leads hl (l2 r hr), a r hr]; rfl⟩
    obtain ⟨i, hi⟩ := List.mem_iff_getElem?.1 hc
    have hil : i < h.cells.length := by rw [← hdl]; exact (List.getElem?_eq_some_iff.1 hi).1
    have hm := List.getElem?_eq_getElem (l := marks) (i := i) (by omega)
    have hcc := List.getElem?_eq_getElem (l := h.cells) (i := i) hil
    have hd := drop_at hcc (nots_at hm)
    rw [hi] at hd
    injection hd with hd
    cases hmi : marks[i]'(by omega)
    · rw [hmi] at hd
      simp at hd
      rw [hd]
      exact cellOk_iff.2 (.inr ⟨rfl, rfl, rfl⟩)
    · rw [hmi] at hd hm
      simp at hd
      subst hd
      have hb := b i hil
      unfold outAt at hb
      rw [getD_of hm, refsAt_of hcc] at hb
      simp only [Bool.true_and, List.any_eq_false, Bool.not_eq_true] at hb
      have hok := v1 _ (List.mem_of_getElem? hcc)
      rcases cellOk_iff.1 hok with ⟨u1, u2, u3⟩ | u
      · exact cellOk_iff.2 (.inl ⟨u1, fun r hr => by rw [drop_leads hl (u2 r hr), hb r hr]; rfl, u3⟩)
      · exact cellOk_iff.2 (.inr u)
theorem sweep_yes {h : HeapM} {marks : List Bool} (hv : validM h = true) (hl : marks.length = h.cells.length) (ho : outB h marks = false) : sweepM h marks = (dropM h (nots marks), (freedN h.cells (nots marks) : Int)) := by
  unfold sweepM
  rw [sweep_out hv hl, hv, ho]
  simp [hl]
theorem sweep_no {h : HeapM} {marks : List Bool} (hn : ¬ (validM h = true ∧ marks.length = h.cells.length ∧ outB h marks = false)) : sweepM h marks = (zeroH, -1) := by
  unfold sweepM
  cases hv : validM h
  · simp
  · by_cases hl : marks.length = h.cells.length
    · rw [sweep_out hv hl]
      cases ho : outB h marks
      · exact absurd ⟨hv, hl, ho⟩ hn
      · simp
    · simp [hl]

/-! ### Snapshots -/
def canM (h : HeapM) (o : CmdM) : Bool := possO h o && !(decide (o.op = 1) && decide (h.cells.length = 40))
def preS (p : TwoM) (o : CmdM) : List Bool × List Bool := if o.op = 3 then meet1 (p.x, p.y) (refOf p.store o.a o.c) else (p.x, p.y)
def snapDo (p : TwoM) (o : CmdM) : TwoM :=
  if o.op = 1 then ⟨execM p.store o p.store.cells.length, p.x ++ [true], p.y ++ [false]⟩ else ⟨execM p.store o p.store.cells.length, (preS p o).1, (preS p o).2⟩
def snapCmdM (p : TwoM) (o : CmdM) : TwoM × Bool := if snapM p && cmdOk o then (if canM p.store o then (snapDo p o, true) else (p, false)) else (zeroT, false)
def snapFinM (p : TwoM) : HeapM × Int := if snapM p then sweepM (endS p).store (endS p).x else (zeroH, -1)
/-- A number of steps. -/
def stepsS : Nat → TwoM → TwoM
  | 0, p => p
  | n + 1, p => (snapStepM (stepsS n p)).1
def runS (n : Nat) (p : TwoM) (l : List CmdM) : TwoM := l.foldl (fun p o => (snapCmdM (stepsS n p) o).1) p
def runSnapM (h : HeapM) (l : List CmdM) (n : Int) : HeapM := if validM h && cmdsOk l && inB 0 n 5 then (snapFinM (runS n.toNat (snapStartM h) l)).1 else zeroH
theorem runS_snoc {n : Nat} {p : TwoM} {l : List CmdM} {k : Nat} {o : CmdM} (ho : l[k]? = some o) : runS n p (l.take (k + 1)) = (snapCmdM (stepsS n (runS n p (l.take k))) o).1 := by
  rw [take_snoc_of ho]; simp [runS]
theorem endS_store {p : TwoM} (hl : p.y.length = p.x.length) : (endS p).store = p.store ∧ (endS p).x.length = p.x.length := by
  refine endS_keeps (P := fun q => q.store = p.store ∧ q.x.length = p.x.length) (fun q ⟨h1, h2⟩ => ?_) hl ⟨rfl, rfl⟩
  unfold stepS
  split
  · exact ⟨h1, h2⟩
  · exact ⟨h1, by rw [← h2]; exact (meetL_len _ _).1⟩
end Go.Proofs.Ytbnokkdhanlhpaa

/- Cells that can be reached: closures, in any order of work, as plain functions. -/
namespace Go.Proofs.Ytbnokkdhanlhpaa
set_option linter.unusedVariables false
set_option linter.unusedSimpArgs false
/-- Cells that can be reached from the numbers fr by the references rf, if ok lets a number through. -/
inductive Rch (rf : Nat → List Int) (ok : Int → Bool) (fr : List Int) : Nat → Prop
  | start {r : Int} : r ∈ fr → ok r = true → Rch rf ok fr r.toNat
  | next {k : Nat} {r : Int} : Rch rf ok fr k → r ∈ rf k → ok r = true → Rch rf ok fr r.toNat
/-- A number is met, and waits. -/
def vis1 (ok : Int → Bool) (st : (Nat → Bool) × List Int) (r : Int) : (Nat → Bool) × List Int :=
  if ok r && !st.1 r.toNat then (fun k => if k = r.toNat then true else st.1 k, st.2 ++ [r]) else st
def visL (ok : Int → Bool) (st : (Nat → Bool) × List Int) (rs : List Int) : (Nat → Bool) × List Int := rs.foldl (vis1 ok) st
theorem visL_snoc {ok : Int → Bool} {st : (Nat → Bool) × List Int} {rs : List Int} {k : Nat} {r : Int} (h : rs[k]? = some r) : visL ok st (rs.take (k + 1)) = vis1 ok (visL ok st (rs.take k)) r := by
  unfold visL; rw [take_snoc_of h, List.foldl_append]; rfl
theorem vis1_no {ok : Int → Bool} {st : (Nat → Bool) × List Int} {r : Int} (h : ok r = false ∨ st.1 r.toNat = true) : vis1 ok st r = st := by
  unfold vis1; rw [if_neg]; rcases h with h | h <;> simp [h]
theorem vis1_yes {ok : Int → Bool} {st : (Nat → Bool) × List Int} {r : Int} (h : ok r = true) (h2 : st.1 r.toNat = false) : vis1 ok st r = (fun k => if k = r.toNat then true else st.1 k, st.2 ++ [r]) := by
  unfold vis1; rw [if_pos (by simp [h, h2])]
theorem vis1_mono {ok : Int → Bool} (st : (Nat → Bool) × List Int) (r : Int) {k : Nat} (h : st.1 k = true) : (vis1 ok st r).1 k = true := by
  unfold vis1; split
  · simp only; split <;> simp [h]
  · exact h
theorem visL_mono {ok : Int → Bool} (rs : List Int) : ∀ (st : (Nat → Bool) × List Int) {k : Nat}, st.1 k = true → (visL ok st rs).1 k = true := by
  induction rs with
  | nil => intro st k h; exact h
  | cons r rs ih => intro st k h; exact ih _ (vis1_mono st r h)
theorem visL_has {ok : Int → Bool} (rs : List Int) : ∀ (st : (Nat → Bool) × List Int), ∀ r ∈ rs, ok r = true → (visL ok st rs).1 r.toNat = true := by
  induction rs with
  | nil => intro st r hr; simp at hr
  | cons r rs ih =>
    intro st r' hr ho
    rcases List.mem_cons.1 hr with rfl | hr
    · refine visL_mono rs _ ?_
      unfold vis1
      split
      · simp
      · next h => simp [ho] at h; exact h
    · exact ih _ r' hr ho
/-- What is met afterwards was met, or is one of these numbers. -/
theorem visL_only {ok : Int → Bool} (rs : List Int) : ∀ (st : (Nat → Bool) × List Int) {k : Nat}, (visL ok st rs).1 k = true → st.1 k = true ∨ ∃ r ∈ rs, ok r = true ∧ r.toNat = k := by
  induction rs with
  | nil => intro st k h; exact .inl h
  | cons r rs ih =>
    intro st k h
    rcases ih _ h with h1 | ⟨r', hr', ho, hk⟩
    · unfold vis1 at h1
      split at h1
      · next hc =>
        simp only at h1
        split at h1
        · next hk => simp at hc; exact .inr ⟨r, by simp, hc.1, hk.symm⟩
        · exact .inl h1
      · exact .inl h1
    · exact .inr ⟨r', by simp [hr'], ho, hk⟩
/-- What waits afterwards waited, or is a number that was let through and is met now. -/
theorem visL_work {ok : Int → Bool} (rs : List Int) : ∀ (st : (Nat → Bool) × List Int), ∃ ns, (visL ok st rs).2 = st.2 ++ ns ∧ (∀ r ∈ ns, ok r = true ∧ r ∈ rs ∧ st.1 r.toNat = false) ∧ ∀ k, (visL ok st rs).1 k = true → st.1 k = true ∨ ∃ r ∈ ns, r.toNat = k := by
  induction rs with
  | nil => intro st; exact ⟨[], by simp [visL], by simp, fun k h => .inl h⟩
  | cons r rs ih =>
    intro st
    obtain ⟨ns, h1, h2, h3⟩ := ih (vis1 ok st r)
    by_cases hc : (ok r && !st.1 r.toNat) = true
    · simp at hc
      have e := vis1_yes hc.1 hc.2
      refine ⟨r :: ns, ?_, ?_, ?_⟩
      · show (visL ok (vis1 ok st r) rs).2 = _
        rw [h1, e]; simp
      · intro x hx
        rcases List.mem_cons.1 hx with rfl | hx
        · exact ⟨hc.1, by simp, hc.2⟩
        · obtain ⟨a, b, c⟩ := h2 x hx
          refine ⟨a, by simp [b], ?_⟩
          rw [e] at c
          simp only at c
          split at c
          · cases c
          · exact c
      · intro k hk
        rcases h3 k hk with h | ⟨x, hx, rfl⟩
        · rw [e] at h
          simp only at h
          split at h
          · next hk => exact .inr ⟨r, by simp, hk.symm⟩
          · exact .inl h
        · exact .inr ⟨x, by simp [hx], rfl⟩
    · have e : vis1 ok st r = st := by unfold vis1; rw [if_neg hc]
      refine ⟨ns, ?_, ?_, ?_⟩
      · show (visL ok (vis1 ok st r) rs).2 = _
        rw [h1, e]
      · intro x hx
        obtain ⟨a, b, c⟩ := h2 x hx
        exact ⟨a, by simp [b], by rw [e] at c; exact c⟩
      · intro k hk
        have hk' : (visL ok (vis1 ok st r) rs).1 k = true := hk
        rw [e] at h3 hk'
        exact h3 k hk'
/-- What holds while cells are met: wk waits. -/
structure CloI (rf : Nat → List Int) (ok : Int → Bool) (fr : List Int) (M : Nat → Bool) (wk : List Int) : Prop where
  sound : ∀ k, M k = true → Rch rf ok fr k
  met : ∀ r ∈ wk, ok r = true ∧ M r.toNat = true
  closed : ∀ k, M k = true → (∃ r ∈ wk, r.toNat = k) ∨ ∀ r ∈ rf k, ok r = true → M r.toNat = true
  start : ∀ r ∈ fr, ok r = true → M r.toNat = true
theorem CloI.init {rf : Nat → List Int} {ok : Int → Bool} {fr : List Int} : CloI rf ok fr (visL ok (fun _ => false, []) fr).1 (visL ok (fun _ => false, []) fr).2 := by
  obtain ⟨ns, h1, h2, h3⟩ := visL_work (ok := ok) fr (fun _ => false, [])
  refine ⟨fun k hk => ?_, fun r hr => ?_, fun k hk => ?_, fun r hr ho => visL_has fr _ r hr ho⟩
  · rcases visL_only fr _ hk with h | ⟨r, hr, ho, rfl⟩
    · cases h
    · exact .start hr ho
  · rw [h1] at hr
    have hn : r ∈ ns := by simpa using hr
    exact ⟨(h2 r hn).1, visL_has fr _ r (h2 r hn).2.1 (h2 r hn).1⟩
  · rcases h3 k hk with h | ⟨r, hr, rfl⟩
    · cases h
    · exact .inl ⟨r, by rw [h1]; simp [hr], rfl⟩
/-- One that waits is worked off: it is taken out, and what it refers to is met. -/
theorem CloI.step {rf : Nat → List Int} {ok : Int → Bool} {fr : List Int} {M : Nat → Bool} {wk wk' : List Int} {r : Int} (h : CloI rf ok fr M wk) (hw : ∀ x ∈ wk, x = r ∨ x ∈ wk') (hw2 : ∀ x ∈ wk', x ∈ wk) (hr : r ∈ wk) :
    CloI rf ok fr (visL ok (M, wk') (rf r.toNat)).1 (visL ok (M, wk') (rf r.toNat)).2 := by
  obtain ⟨ns, h1, h2, h3⟩ := visL_work (ok := ok) (rf r.toNat) (M, wk')
  refine ⟨fun k hk => ?_, fun x hx => ?_, fun k hk => ?_, fun x hx ho => visL_mono _ _ (h.start x hx ho)⟩
  · rcases visL_only _ _ hk with h4 | ⟨x, hx, ho, rfl⟩
    · exact h.sound k h4
    · exact .next (h.sound _ (h.met r hr).2) hx ho
  · rw [h1] at hx
    rcases List.mem_append.1 hx with hx | hx
    · exact ⟨(h.met x (hw2 x hx)).1, visL_mono _ _ (h.met x (hw2 x hx)).2⟩
    · exact ⟨(h2 x hx).1, visL_has _ _ x (h2 x hx).2.1 (h2 x hx).1⟩
  · rcases h3 k hk with h4 | ⟨x, hx, rfl⟩
    · rcases h.closed k h4 with ⟨x, hx, rfl⟩ | h5
      · rcases hw x hx with rfl | hx
        · exact .inr fun y hy ho => visL_has _ _ y hy ho
        · exact .inl ⟨x, by rw [h1]; simp [hx], rfl⟩
      · exact .inr fun y hy ho => visL_mono _ _ (h5 y hy ho)
    · exact .inl ⟨x, by rw [h1]; simp [hx], rfl⟩
/-- Nothing waits: exactly what can be reached is met. -/
theorem CloI.done {rf : Nat → List Int} {ok : Int → Bool} {fr : List Int} {M : Nat → Bool} (h : CloI rf ok fr M []) (k : Nat) : M k = true ↔ Rch rf ok fr k := by
  refine ⟨h.sound k, fun hr => ?_⟩
  induction hr with
  | start hr ho => exact h.start _ hr ho
  | next _ hr ho ih =>
    rcases h.closed _ ih with ⟨x, hx, -⟩ | h5
    · simp at hx
    · exact h5 _ hr ho
/-! ### How much is still to be done -/
def unmet (n : Nat) (M : Nat → Bool) : Nat := ((List.range n).filter fun k => !M k).length
theorem filter_imp {α : Type} {p q : α → Bool} (h : ∀ x, p x = true → q x = true) (l : List α) : (l.filter p).length ≤ (l.filter q).length := by
  induction l with
  | nil => simp
  | cons x l ih =>
    rw [List.filter_cons, List.filter_cons]
    rcases bool_ft (p x) with h1 | h1
    · rcases bool_ft (q x) with h2 | h2
      · simp [h1, h2]; exact ih
      · simp [h1, h2]; omega
    · simp [h1, h x h1]; exact ih
theorem filter_lt {α : Type} {p q : α → Bool} (h : ∀ x, p x = true → q x = true) {l : List α} {a : α} (ha : a ∈ l) (h1 : p a = false) (h2 : q a = true) : (l.filter p).length < (l.filter q).length := by
  induction l with
  | nil => simp at ha
  | cons x l ih =>
    have hle := filter_imp h l
    rw [List.filter_cons, List.filter_cons]
    rcases List.mem_cons.1 ha with rfl | ha
    · simp [h1, h2]; omega
    · have := ih ha
      rcases bool_ft (p x) with h3 | h3
      · rcases bool_ft (q x) with h4 | h4
        · simp [h3, h4]; exact this
        · simp [h3, h4]; omega
      · simp [h3, h x h3]; exact this
theorem vis1_mu {ok : Int → Bool} {n : Nat} (st : (Nat → Bool) × List Int) {r : Int} (hr : ok r = true → r.toNat < n) : unmet n (vis1 ok st r).1 + (vis1 ok st r).2.length ≤ unmet n st.1 + st.2.length := by
  by_cases hc : (ok r && !st.1 r.toNat) = true
  · simp at hc
    rw [vis1_yes hc.1 hc.2]
    have : unmet n (fun k => if k = r.toNat then true else st.1 k) < unmet n st.1 := by
      unfold unmet
      refine filter_lt (fun k hk => ?_) (a := r.toNat) (by simp [hr hc.1]) (by simp) (by simp [hc.2])
      simp only at hk
      split at hk
      · cases hk
      · exact hk
    simp only [List.length_append, List.length_singleton]; omega
  · have e : vis1 ok st r = st := by unfold vis1; rw [if_neg hc]
    rw [e]; omega
theorem visL_mu {ok : Int → Bool} {n : Nat} (rs : List Int) : ∀ st : (Nat → Bool) × List Int, (∀ r ∈ rs, ok r = true → r.toNat < n) → unmet n (visL ok st rs).1 + (visL ok st rs).2.length ≤ unmet n st.1 + st.2.length := by
  induction rs with
  | nil => intro st _; exact Nat.le_refl _
  | cons r rs ih => intro st h; exact Nat.le_trans (ih _ fun x hx => h x (by simp [hx])) (vis1_mu st (h r (by simp)))
theorem unmet_le (n : Nat) (M : Nat → Bool) : unmet n M ≤ n := by unfold unmet; exact Nat.le_trans (List.length_filter_le _ _) (by simp)
open Classical in
/-- The list of what can be reached. -/
noncomputable def rchL (n : Nat) (rf : Nat → List Int) (ok : Int → Bool) (fr : List Int) : List Bool := (List.range n).map fun k => decide (Rch rf ok fr k)
theorem rchL_len (n : Nat) (rf : Nat → List Int) (ok : Int → Bool) (fr : List Int) : (rchL n rf ok fr).length = n := by simp [rchL]
theorem rchL_at {n : Nat} {rf : Nat → List Int} {ok : Int → Bool} {fr : List Int} {k : Nat} (h : k < n) : (rchL n rf ok fr).getD k false = true ↔ Rch rf ok fr k := by simp [rchL, List.getD, h]
theorem rchL_of {n : Nat} {rf : Nat → List Int} {ok : Int → Bool} {fr : List Int} {M : Nat → Bool} {l : List Bool} (hl : l.length = n) (hM : ∀ k, l.getD k false = M k) (h : CloI rf ok fr M []) : l = rchL n rf ok fr := by
  apply List.ext_getElem?
  intro k
  by_cases hk : k < n
  · have h1 := hM k
    have h2 := h.done k
    have h3 := rchL_at (rf := rf) (ok := ok) (fr := fr) hk
    have e : l.getD k false = (rchL n rf ok fr).getD k false := by
      rw [Bool.eq_iff_iff, h1, h2, h3]
    have a : l[k]? = some (l.getD k false) := by rw [List.getD, List.getElem?_eq_getElem (by omega)]; rfl
    have b : (rchL n rf ok fr)[k]? = some ((rchL n rf ok fr).getD k false) := by rw [List.getD, List.getElem?_eq_getElem (by rw [rchL_len]; omega)]; rfl
    rw [a, b, e]
  · rw [List.getElem?_eq_none (by omega), List.getElem?_eq_none (by rw [rchL_len]; omega)]
end Go.Proofs.Ytbnokkdhanlhpaa

/- Painted heaps under instructions and programs, as plain functions; that they stay valid. -/
namespace Go.Proofs.Ytbnokkdhanlhpaa
set_option linter.unusedVariables false
set_option linter.unusedSimpArgs false
def notUsed (c : CellM) : Bool := !c.used
/-- The first cell that is not used, or the number of cells. -/
def freeAt (cs : List CellM) : Nat := match firstB notUsed cs with | some k => k | none => cs.length
theorem freeAt_none {cs : List CellM} (h : noneB notUsed cs cs.length) : freeAt cs = cs.length := by unfold freeAt; rw [firstB_none h]
theorem freeAt_some {cs : List CellM} {k : Nat} {c : CellM} (h : noneB notUsed cs k) (hc : cs[k]? = some c) (hu : c.used = false) : freeAt cs = k := by unfold freeAt; rw [firstB_some h hc (by simp [notUsed, hu])]
theorem freeAt_le (cs : List CellM) : freeAt cs ≤ cs.length := by
  unfold freeAt
  split
  · rename_i k hk
    obtain ⟨x, hx, -⟩ := firstB_at hk
    have := (List.getElem?_eq_some_iff.1 hx).1
    omega
  · exact Nat.le_refl _
theorem freeAt_free {cs : List CellM} {c : CellM} (hc : cs[freeAt cs]? = some c) : c.used = false := by
  unfold freeAt at hc
  split at hc
  · rename_i k hk
    obtain ⟨x, hx, hp, -⟩ := firstB_at hk
    rw [hx] at hc
    injection hc with hc
    subst hc
    simpa [notUsed] using hp
  · simp at hc
def canF (h : HeapM) (o : CmdM) : Bool := possO h o && !(decide (o.op = 1) && decide (freeAt h.cells = 40))
theorem set_leads {h : HeapM} {r : Int} (hr : leadsM h.cells r = true) : r = -1 ∨ (0 ≤ r ∧ ∃ c, h.cells[r.toNat]? = some c ∧ c.used = true) := leadsM_iff.1 hr
/-- The cells after an instruction. -/
theorem exec_cells {h : HeapM} {o : CmdM} {at_ : Nat} (hat : at_ ≤ h.cells.length) {i : Nat} {c' : CellM} (hc : (execM h o at_).cells[i]? = some c') :
    (o.op = 1 ∧ i = at_ ∧ c' = newCell o) ∨ (∃ c, h.cells[i]? = some c ∧ (o.op = 1 → i ≠ at_) ∧ c'.used = c.used ∧ ∀ r ∈ c'.refs, r ∈ c.refs ∨ (o.op = 3 ∧ r = rootAt h o.b)) := by
  unfold execM at hc
  split at hc
  · rename_i h1
    unfold putCell at hc
    simp only at hc
    split at hc
    · rename_i he
      subst he
      rcases Nat.lt_trichotomy i h.cells.length with hi | hi | hi
      · rw [List.getElem?_append_left hi] at hc
        exact .inr ⟨c', hc, fun _ => by omega, rfl, fun r hr => .inl hr⟩
      · subst hi
        rw [List.getElem?_append_right (Nat.le_refl _)] at hc
        simp at hc
        exact .inl ⟨h1, rfl, hc.symm⟩
      · rw [List.getElem?_eq_none (by simp; omega)] at hc
        cases hc
    · rw [List.getElem?_set] at hc
      split at hc
      · rename_i he
        split at hc
        · injection hc with hc
          exact .inl ⟨h1, he.symm, hc.symm⟩
        · cases hc
      · rename_i he
        exact .inr ⟨c', hc, fun _ e => he e.symm, rfl, fun r hr => .inl hr⟩
  · rename_i n1
    split at hc
    · exact .inr ⟨c', hc, fun e => absurd e n1, rfl, fun r hr => .inl hr⟩
    · split at hc
      · rename_i h3
        simp only at hc
        unfold setRef at hc
        split at hc
        · rename_i d hd
          rw [List.getElem?_set] at hc
          split at hc
          · rename_i he
            split at hc
            · injection hc with hc
              subst he
              subst hc
              refine .inr ⟨d, hd, fun e => absurd e n1, rfl, fun r hr => ?_⟩
              rcases List.mem_or_eq_of_mem_set hr with hr | rfl
              · exact .inl hr
              · exact .inr ⟨h3, rfl⟩
            · cases hc
          · exact .inr ⟨c', hc, fun e => absurd e n1, rfl, fun r hr => .inl hr⟩
        · exact .inr ⟨c', hc, fun e => absurd e n1, rfl, fun r hr => .inl hr⟩
      · split at hc
        · exact .inr ⟨c', hc, fun e => absurd e n1, rfl, fun r hr => .inl hr⟩
        · split at hc
          · exact .inr ⟨c', hc, fun e => absurd e n1, rfl, fun r hr => .inl hr⟩
          · simp only at hc
            unfold setData at hc
            split at hc
            · rename_i d hd
              rw [List.getElem?_set] at hc
              split at hc
              · rename_i he
                split at hc
                · injection hc with hc
                  subst he
                  subst hc
                  exact .inr ⟨d, hd, fun e => absurd e n1, rfl, fun r hr => .inl hr⟩
                · cases hc
              · exact .inr ⟨c', hc, fun e => absurd e n1, rfl, fun r hr => .inl hr⟩
            · exact .inr ⟨c', hc, fun e => absurd e n1, rfl, fun r hr => .inl hr⟩
theorem exec_len (h : HeapM) (o : CmdM) (at_ : Nat) : (execM h o at_).cells.length = if o.op = 1 ∧ at_ = h.cells.length then h.cells.length + 1 else h.cells.length := by
  unfold execM putCell setRef setData
  by_cases h1 : o.op = 1
  · rw [if_pos h1]
    by_cases h2 : at_ = h.cells.length <;> simp [h1, h2]
  · have h9 : ¬ (o.op = 1 ∧ at_ = h.cells.length) := fun a => h1 a.1
    rw [if_neg h1, if_neg h9]
    clear h9
    repeat' split
    all_goals simp
theorem exec_rootsLen (h : HeapM) (o : CmdM) (at_ : Nat) : (execM h o at_).roots.length = h.roots.length := by
  unfold execM
  repeat' split
  all_goals simp
theorem exec_roots {h : HeapM} {o : CmdM} {at_ : Nat} {r : Int} (hr : r ∈ (execM h o at_).roots) : r ∈ h.roots ∨ r = -1 ∨ ((o.op = 1 ∨ o.op = 2 ∨ o.op = 4) ∧ r = rootAt (execM h o at_) o.a) := by
  have key : ∀ (cs : List CellM) (x : Int), r ∈ h.roots.set o.a.toNat x → r ∈ h.roots ∨ r = rootAt ⟨cs, h.roots.set o.a.toNat x⟩ o.a := by
    intro cs x hm
    obtain ⟨i, hi⟩ := List.mem_iff_getElem?.1 hm
    rw [List.getElem?_set] at hi
    split at hi
    · rename_i he
      split at hi
      · injection hi with hi
        right
        unfold rootAt
        simp only
        rw [List.getElem?_set, if_pos rfl, if_pos (by omega)]
        exact hi.symm
      · cases hi
    · exact .inl (List.mem_of_getElem? hi)
  unfold execM at hr ⊢
  split at hr
  · rename_i h1
    rw [if_pos h1]
    rcases key _ _ hr with h9 | h9
    · exact .inl h9
    · exact .inr (.inr ⟨.inl h1, h9⟩)
  · rename_i n1
    rw [if_neg n1]
    split at hr
    · rename_i h2
      rw [if_pos h2]
      rcases key _ _ hr with h9 | h9
      · exact .inl h9
      · exact .inr (.inr ⟨.inr (.inl h2), h9⟩)
    · rename_i n2
      rw [if_neg n2]
      split at hr
      · exact .inl hr
      · rename_i n3
        rw [if_neg n3]
        split at hr
        · rename_i h4
          rw [if_pos h4]
          rcases key _ _ hr with h9 | h9
          · exact .inl h9
          · exact .inr (.inr ⟨.inr (.inr h4), h9⟩)
        · split at hr
          · rcases List.mem_or_eq_of_mem_set hr with hr | hr
            · exact .inl hr
            · exact .inr (.inl hr)
          · exact .inl hr
theorem exec_root3 {h : HeapM} {o : CmdM} {at_ : Nat} (h3 : o.op = 3) : (execM h o at_).roots = h.roots := by
  unfold execM
  rw [if_neg (by omega), if_neg (by omega), if_pos h3]

/-! ### Instructions on painted heaps -/
/-- What becomes grey by an instruction. -/
def barM (h' : HeapM) (o : CmdM) : List Int := if o.op = 1 ∨ o.op = 2 ∨ o.op = 4 then [rootAt h' o.a] else if o.op = 3 then [rootAt h' o.b] else []
def colsP (p : PaintM) (o : CmdM) : List Int := if o.op = 1 ∧ freeAt p.store.cells = p.store.cells.length then p.colours ++ [0] else p.colours
def paintDo (p : PaintM) (o : CmdM) : PaintM :=
  ⟨execM p.store o (freeAt p.store.cells), if p.active then greyL (colsP p o) (barM (execM p.store o (freeAt p.store.cells)) o) else colsP p o, p.active⟩
def paintCmdM (p : PaintM) (o : CmdM) : PaintM × Bool := if paintM p && cmdOk o then (if canF p.store o then (paintDo p o, true) else (p, false)) else (zeroP, false)
theorem colsP_len {p : PaintM} (h : p.colours.length = p.store.cells.length) (o : CmdM) : (colsP p o).length = (execM p.store o (freeAt p.store.cells)).cells.length := by
  rw [exec_len]
  unfold colsP
  split <;> simp [h]
theorem colsP_at {p : PaintM} (h : p.colours.length = p.store.cells.length) {o : CmdM} {k : Nat} {c : Int} (hc : (colsP p o)[k]? = some c) : p.colours[k]? = some c ∨ (o.op = 1 ∧ k = p.store.cells.length ∧ k = freeAt p.store.cells ∧ c = 0) := by
  unfold colsP at hc
  split at hc
  · rename_i h1
    rcases Nat.lt_trichotomy k p.colours.length with hi | hi | hi
    · rw [List.getElem?_append_left hi] at hc
      exact .inl hc
    · subst hi
      rw [List.getElem?_append_right (Nat.le_refl _)] at hc
      simp at hc
      exact .inr ⟨h1.1, h, by rw [h1.2]; exact h, hc.symm⟩
    · rw [List.getElem?_eq_none (by simp; omega)] at hc
      cases hc
  · exact .inl hc
theorem bar_leads {h' : HeapM} (hv : validM h' = true) {o : CmdM} : ∀ r ∈ barM h' o, leadsM h'.cells r = true := by
  intro r hr
  unfold barM at hr
  split at hr
  · rw [List.mem_singleton.1 hr]; exact rootAt_leads hv _
  · split at hr
    · rw [List.mem_singleton.1 hr]; exact rootAt_leads hv _
    · cases hr
/-- Instructions keep painted heaps valid. -/
theorem paintM_do {p : PaintM} {o : CmdM} (h : paintM p = true) (hc : cmdOk o = true) (hp : canF p.store o = true) : paintM (paintDo p o) = true := by
  obtain ⟨h1, h2, h3, h4⟩ := paintM_iff.1 h
  have hfl := freeAt_le p.store.cells
  have hcan : possO p.store o = true ∧ (o.op = 1 → freeAt p.store.cells < 40) := by
    unfold canF at hp
    simp only [Bool.and_eq_true, Bool.not_eq_true', Bool.and_eq_false_iff, decide_eq_false_iff_not] at hp
    have := (validM_len h1).1
    exact ⟨hp.1, fun e => by rcases hp.2 with h9 | h9 <;> omega⟩
  have hv' : validM (execM p.store o (freeAt p.store.cells)) = true := valid_exec h1 hc hcan.1 hfl hcan.2
  have hbl := bar_leads hv' (o := o)
  have hlen := colsP_len h2 o
  have hec : ∀ {i : Nat} {c' : CellM}, (execM p.store o (freeAt p.store.cells)).cells[i]? = some c' → _ := fun {i c'} h9 => exec_cells (h := p.store) (o := o) hfl (i := i) (c' := c') h9
  have hero : ∀ {r : Int}, r ∈ (execM p.store o (freeAt p.store.cells)).roots → _ := fun {r} h9 => exec_roots (h := p.store) (o := o) (at_ := freeAt p.store.cells) (r := r) h9
  have hr3 : o.op = 3 → rootAt (execM p.store o (freeAt p.store.cells)) o.b = rootAt p.store o.b := fun e => by unfold rootAt; rw [exec_root3 e]
  obtain ⟨lt1, lt2⟩ := validM_lt h1
  unfold paintDo
  generalize hh' : execM p.store o (freeAt p.store.cells) = h' at *
  cases ha : p.active
  · have hz : ∀ (k : Nat) (c : Int), (colsP p o)[k]? = some c → c = 0 := by
      intro k c hk
      rcases colsP_at h2 hk with h9 | ⟨_, _, _, h9⟩
      · have hkl := (List.getElem?_eq_some_iff.1 h9).1
        obtain ⟨-, g, -⟩ := h3 k c _ h9 (List.getElem?_eq_getElem (by omega))
        rw [ha] at g
        apply Classical.byContradiction
        intro hne
        have := (g hne).2
        cases this
      · exact h9
    refine paintM_iff.2 ⟨hv', ?_, ?_, ?_⟩
    · simp only [Bool.false_eq_true, if_false]; exact hlen
    · intro k col c hk hcc
      simp only [Bool.false_eq_true, if_false] at hk
      have := hz k col hk
      subst this
      exact ⟨by omega, fun e => absurd rfl e, fun e => by omega⟩
    · intro e; cases e
  · rw [ha] at h3 h4
    have h4' := h4 rfl
    simp only [if_true]
    have old : ∀ {i : Nat} {c' : Int}, (greyL (colsP p o) (barM h' o))[i]? = some c' → ∃ c, (colsP p o)[i]? = some c ∧ c' = (if c = 0 ∧ (i : Int) ∈ barM h' o then 1 else c) := by
      intro i c' hi
      have hil : i < (colsP p o).length := by rw [← greyL_len (barM h' o)]; exact (List.getElem?_eq_some_iff.1 hi).1
      refine ⟨_, List.getElem?_eq_getElem hil, ?_⟩
      rw [greyL_at _ (List.getElem?_eq_getElem hil)] at hi
      injection hi with hi
      exact hi.symm
    have white : ∀ {i : Nat}, (greyL (colsP p o) (barM h' o))[i]? = some 0 → (p.colours[i]? = some 0 ∨ i = p.store.cells.length) ∧ (i : Int) ∉ barM h' o := by
      intro i hi
      obtain ⟨c, hc1, hc2⟩ := old hi
      have hc0 : c = 0 ∧ (i : Int) ∉ barM h' o := by grind
      refine ⟨?_, hc0.2⟩
      rw [hc0.1] at hc1
      rcases colsP_at h2 hc1 with h9 | h9
      · exact .inl h9
      · exact .inr h9.2.1
    refine paintM_iff.2 ⟨hv', by rw [greyL_len]; exact hlen, ?_, ?_⟩
    · intro k col c hk hcc
      simp only at hk hcc
      obtain ⟨c0, g1, g2⟩ := old hk
      have hcol0 : 0 ≤ c0 ∧ c0 ≤ 2 := by
        rcases colsP_at h2 g1 with h9 | ⟨_, _, _, h9⟩
        · have hkl := (List.getElem?_eq_some_iff.1 h9).1
          exact (h3 k c0 _ h9 (List.getElem?_eq_getElem (by omega))).1
        · omega
      refine ⟨by subst g2; split <;> omega, ?_, ?_⟩
      · intro hne
        refine ⟨?_, rfl⟩
        by_cases e0 : c0 = 0 ∧ (k : Int) ∈ barM h' o
        · have hl := hbl _ e0.2
          rcases leadsM_iff.1 hl with h9 | ⟨_, d, hd, hu⟩
          · omega
          · rw [Int.toNat_natCast, hcc] at hd
            injection hd with hd
            rw [hd]; exact hu
        · rw [if_neg e0] at g2
          subst g2
          rcases colsP_at h2 g1 with h9 | ⟨_, _, _, h9⟩
          · rcases hec hcc with ⟨_, _, h8⟩ | ⟨d, hd, _, hu, _⟩
            · rw [h8]; rfl
            · rw [hu]; exact ((h3 k col d h9 hd).2.1 hne).1
          · exact absurd h9 hne
      · intro hb r hr h0 hw
        obtain ⟨w1, w2⟩ := white hw
        have hc2 : c0 = 2 := by grind
        subst hc2
        rcases colsP_at h2 g1 with h9 | ⟨_, _, _, h9⟩
        · rcases hec hcc with ⟨_, hat, h8⟩ | ⟨d, hd, _, _, hrf⟩
          · subst h8
            have : r = -1 := (List.mem_replicate.1 hr).2
            omega
          · rcases hrf r hr with h7 | ⟨h7, rfl⟩
            · have hlt := lt1 d (List.mem_of_getElem? hd) r h7
              have := (h3 k 2 d h9 hd).2.2 rfl r h7 h0
              rcases w1 with w1 | w1
              · exact this w1
              · omega
            · apply w2
              unfold barM
              rw [if_neg (by omega), if_pos h7, hr3 h7]
              simp; omega
        · omega
    · intro _ r hr h0 hw
      obtain ⟨w1, w2⟩ := white hw
      rcases hero hr with h7 | h7 | ⟨h7, h8⟩
      · have := h4' r h7 h0
        have := lt2 r h7
        rcases w1 with w1 | w1
        · contradiction
        · omega
      · omega
      · apply w2
        unfold barM
        rw [if_pos h7, ← h8]
        simp; omega
theorem paintM_cmd {p : PaintM} {o : CmdM} (h : paintM p = true) (hc : cmdOk o = true) : paintM (paintCmdM p o).1 = true := by
  unfold paintCmdM
  rw [h, hc]
  simp only [Bool.and_self, if_true]
  split
  · exact paintM_do h hc ‹_›
  · exact h
theorem paintM_start {p : PaintM} (h : paintM p = true) : paintM (startP p) = true := by
  unfold startP
  split
  · exact h
  · rename_i ha
    obtain ⟨h1, h2, h3, h4⟩ := paintM_iff.1 h
    obtain ⟨lt1, lt2⟩ := validM_lt h1
    have hz : ∀ (k : Nat) (c : Int), p.colours[k]? = some c → c = 0 := by
      intro k c hk
      have hkl := (List.getElem?_eq_some_iff.1 hk).1
      obtain ⟨-, g, -⟩ := h3 k c _ hk (List.getElem?_eq_getElem (by omega))
      apply Classical.byContradiction
      intro hne
      exact ha (g hne).2
    have old : ∀ {i : Nat} {c' : Int}, (greyL p.colours p.store.roots)[i]? = some c' → p.colours[i]? = some 0 ∧ c' = (if (i : Int) ∈ p.store.roots then 1 else 0) := by
      intro i c' hi
      have hil : i < p.colours.length := by rw [← greyL_len p.store.roots]; exact (List.getElem?_eq_some_iff.1 hi).1
      have hg := List.getElem?_eq_getElem hil
      have hz0 := hz i _ hg
      rw [hz0] at hg
      refine ⟨hg, ?_⟩
      rw [greyL_at _ hg] at hi
      injection hi with hi
      rw [← hi]
      simp
    refine paintM_iff.2 ⟨h1, by rw [greyL_len]; exact h2, ?_, ?_⟩
    · intro k col c hk hc
      obtain ⟨g1, g2⟩ := old hk
      refine ⟨by subst g2; split <;> omega, fun hne => ⟨?_, rfl⟩, fun e => by subst g2; split at e <;> omega⟩
      have hm : (k : Int) ∈ p.store.roots := by grind
      obtain ⟨d, hd, hu⟩ := valid_used ((validM_leads h1).2 _ hm) (by omega)
      rw [Int.toNat_natCast] at hd
      have hc' : p.store.cells[k]? = some c := hc
      rw [hc'] at hd
      injection hd with hd
      rw [hd]; exact hu
    · intro _ r hr h0 hw
      obtain ⟨g1, g2⟩ := old hw
      rw [show ((r.toNat : Nat) : Int) = r by omega, if_pos hr] at g2
      omega
theorem paintM_finish {p : PaintM} (h : paintM p = true) : paintM (finishP p).1 = true := by
  unfold finishP
  split
  · rename_i ha
    have hq := endP_valid h
    obtain ⟨e1, e2, e3⟩ := endP_store p
    have hfin := endP_final p
    generalize hqq : endP p = q at *
    obtain ⟨h1, h2, h3, h4⟩ := paintM_iff.1 hq
    have hqa : q.active = true := by rw [e2, ha]
    have h4' := h4 hqa
    have hng : ∀ (k : Nat) (c : Int), q.colours[k]? = some c → c ≠ 1 := by
      intro k c hk e
      have hn : firstB isGrey q.colours = none := by
        unfold stepP at hfin
        split at hfin
        · assumption
        · cases hfin
      have := firstB_none_all hn c (List.mem_of_getElem? hk)
      rw [e] at this
      cases this
    have hmm : ∀ {i : Nat} {c : Int}, q.colours[i]? = some c → (q.colours.map fun c => c == 0)[i]? = some (c == 0) := fun h9 => by simp [h9]
    have hmarks : (q.colours.map fun c => c == 0) = nots (q.colours.map fun c => !(c == 0)) := by simp [nots]
    have hml : (q.colours.map fun c => !(c == 0)).length = q.store.cells.length := by simp [h2]
    have hout : outB q.store (q.colours.map fun c => !(c == 0)) = false := by
      unfold outB
      rw [Bool.or_eq_false_iff]
      have notWhite : ∀ r : Int, 0 ≤ r → q.colours[r.toNat]? ≠ some 0 → r.toNat < q.colours.length → outRef q.store (q.colours.map fun c => !(c == 0)) r = false := by
        intro r h0 hne hl
        unfold outRef
        have hg := List.getElem?_eq_getElem hl
        have : (q.colours.map fun c => !(c == 0))[r.toNat]? = some (!(q.colours[r.toNat] == 0)) := by simp [hg]
        rw [getD_of this]
        have h9 : q.colours[r.toNat] ≠ 0 := fun e => hne (by rw [hg, e])
        simp [h9]
      have neg : ∀ r : Int, r < 0 → outRef q.store (q.colours.map fun c => !(c == 0)) r = false := fun r hr => by unfold outRef; simp; omega
      obtain ⟨lt1, lt2⟩ := validM_lt h1
      constructor
      · rw [List.any_eq_false]
        intro r hr
        rw [Bool.not_eq_true]
        by_cases h0 : r < 0
        · exact neg r h0
        · have := lt2 r hr
          exact notWhite r (by omega) (h4' r hr (by omega)) (by omega)
      · rw [List.any_eq_false]
        intro i hi
        rw [List.mem_range] at hi
        rw [Bool.not_eq_true]
        unfold outAt
        have hg := List.getElem?_eq_getElem (l := q.colours) (i := i) (by omega)
        have hgm : (q.colours.map fun c => !(c == 0))[i]? = some (!(q.colours[i]'(by omega) == 0)) := by simp [hg]
        have hcc := List.getElem?_eq_getElem (l := q.store.cells) (i := i) hi
        rw [getD_of hgm, refsAt_of hcc]
        obtain ⟨g1, g2, g3⟩ := h3 i _ _ hg hcc
        have g4 := hng i _ hg
        by_cases h0 : q.colours[i]'(by omega) = 0
        · simp [h0]
        · have h2' : q.colours[i]'(by omega) = 2 := by omega
          rw [Bool.and_eq_false_iff]
          right
          rw [List.any_eq_false]
          intro r hr
          rw [Bool.not_eq_true]
          by_cases h0 : r < 0
          · exact neg r h0
          · have := lt1 _ (List.mem_of_getElem? hcc) r hr
            exact notWhite r (by omega) (g3 h2' r hr (by omega)) (by omega)
    have hv2 : validM (dropM q.store (q.colours.map fun c => c == 0)) = true := by rw [hmarks, sweep_out h1 hml, hout]; rfl
    have hdl : (dropM q.store (q.colours.map fun c => c == 0)).cells.length = q.store.cells.length := dropCs_len (by simp [h2])
    refine paintM_iff.2 ⟨hv2, by simp [hdl, h2], ?_, fun e => by cases e⟩
    intro k col c hk _
    have : col = 0 := (List.mem_replicate.1 (List.mem_of_getElem? hk)).2
    subst this
    exact ⟨by omega, fun e => absurd rfl e, fun e => by omega⟩
  · exact h
/-! ### Programs on painted heaps -/
def stepsP : Nat → PaintM → PaintM
  | 0, p => p
  | n + 1, p => (stepP (stepsP n p)).1
def preP (p : PaintM) (n : Int) : PaintM := if n < 0 then (finishP p).1 else stepsP n.toNat (startP p)
def emptyP : PaintM := ⟨emptyM, [], false⟩
def scriptOk (s : List Int) : Bool := decide (1 ≤ s.length) && (decide (s.length ≤ 40) && s.all fun n => inB (-1) n 5)
def runP (s : List Int) (p : PaintM) (l : List CmdM) (k : Nat) : PaintM := match l with
  | [] => p
  | o :: l => runP s (paintCmdM (preP p ((s[k % s.length]?).getD 0)) o).1 l (k + 1)
def runPaintM (l : List CmdM) (s : List Int) : HeapM := if cmdsOk l && scriptOk s then (finishP (runP s emptyP l 0)).1.store else zeroH
theorem paintM_steps {p : PaintM} (h : paintM p = true) : ∀ n, paintM (stepsP n p) = true
  | 0 => h
  | n + 1 => paintM_step (paintM_steps h n)
theorem paintM_pre {p : PaintM} (h : paintM p = true) (n : Int) : paintM (preP p n) = true := by
  unfold preP
  split
  · exact paintM_finish h
  · exact paintM_steps (paintM_start h) _
theorem paintM_empty : paintM emptyP = true := by decide
end Go.Proofs.Ytbnokkdhanlhpaa

/- Sweeping what cannot be reached: CollectSweep, StepSweep, RunSweep, CollectAged, as plain functions. -/
namespace Go.Proofs.Ytbnokkdhanlhpaa
set_option linter.unusedVariables false
set_option linter.unusedSimpArgs false
def nonneg (r : Int) : Bool := decide (0 ≤ r)
noncomputable def reachM (h : HeapM) : List Bool := rchL h.cells.length (refsAt h) nonneg h.roots
noncomputable def reachableM (h : HeapM) : List Bool := if validM h then reachM h else []
theorem reachM_len (h : HeapM) : (reachM h).length = h.cells.length := rchL_len _ _ _ _
theorem Rch.congr {rf : Nat → List Int} {ok ok' : Int → Bool} {fr : List Int} (h1 : ∀ r ∈ fr, ok r = ok' r) (h2 : ∀ k, ∀ r ∈ rf k, ok r = ok' r) {k : Nat} (h : Rch rf ok fr k) : Rch rf ok' fr k := by
  induction h with
  | start hr ho => exact .start hr (by rw [← h1 _ hr]; exact ho)
  | next _ hr ho ih => exact .next ih hr (by rw [← h2 _ _ hr]; exact ho)
theorem rchL_congr {n : Nat} {rf : Nat → List Int} {ok ok' : Int → Bool} {fr : List Int} (h1 : ∀ r ∈ fr, ok r = ok' r) (h2 : ∀ k, ∀ r ∈ rf k, ok r = ok' r) : rchL n rf ok fr = rchL n rf ok' fr := by
  unfold rchL
  congr 1
  funext k
  have : Rch rf ok fr k ↔ Rch rf ok' fr k := ⟨fun h => h.congr h1 h2, fun h => h.congr (fun r hr => (h1 r hr).symm) (fun k r hr => (h2 k r hr).symm)⟩
  simp [this]
theorem refsAt_leads {h : HeapM} (hv : validM h = true) : ∀ k, ∀ r ∈ refsAt h k, leadsM h.cells r = true := by
  intro k r hr
  unfold refsAt at hr
  cases hc : h.cells[k]? with
  | none => rw [hc] at hr; simp at hr
  | some c => rw [hc] at hr; exact (validM_leads hv).1 c (List.mem_of_getElem? hc) r hr
theorem reach_leads {h : HeapM} (hv : validM h = true) {k : Nat} (hk : Rch (refsAt h) nonneg h.roots k) : ∃ c, h.cells[k]? = some c ∧ c.used = true := by
  have key : ∀ r : Int, leadsM h.cells r = true → nonneg r = true → ∃ c, h.cells[r.toNat]? = some c ∧ c.used = true := fun r h1 h2 => valid_used h1 (by simpa [nonneg] using h2)
  cases hk with
  | start hr ho => exact key _ ((validM_leads hv).2 _ hr) ho
  | next _ hr ho => exact key _ (refsAt_leads hv _ _ hr) ho
theorem reach_iff {h : HeapM} (hv : validM h = true) (k : Nat) : (reachM h).getD k false = true ↔ Rch (refsAt h) nonneg h.roots k := by
  by_cases hk : k < h.cells.length
  · exact rchL_at hk
  · refine ⟨fun h1 => ?_, fun h1 => ?_⟩
    · rw [getD_len (by rw [reachM_len]; omega)] at h1; cases h1
    · obtain ⟨c, hc, -⟩ := reach_leads hv h1
      have := (List.getElem?_eq_some_iff.1 hc).1
      omega
theorem reach_out {h : HeapM} (hv : validM h = true) : outB h (reachM h) = false := by
  have key : ∀ r : Int, (nonneg r = true → Rch (refsAt h) nonneg h.roots r.toNat) → outRef h (reachM h) r = false := by
    intro r hr
    unfold outRef
    by_cases h0 : 0 ≤ r
    · have h1 := (reach_iff hv r.toNat).2 (hr (by simp [nonneg, h0]))
      rw [h1]; simp
    · simp [h0]
  unfold outB
  simp only [Bool.or_eq_false_iff, List.any_eq_false, List.mem_range, Bool.not_eq_true]
  refine ⟨fun r hr => key r fun ho => .start hr ho, fun i hi => ?_⟩
  unfold outAt
  rcases bool_ft ((reachM h).getD i false) with h1 | h1
  · simp only [h1, Bool.false_and]
  · simp only [h1, Bool.true_and, List.any_eq_false, Bool.not_eq_true]
    exact fun r hr => key r fun ho => .next ((reach_iff hv i).1 h1) hr ho
theorem nots_getD {l : List Bool} {i : Nat} (h : i < l.length) : (nots l).getD i false = !l.getD i false := by
  simp [nots, List.getD, h]
theorem drop_refs {h : HeapM} {marks : List Bool} (hl : marks.length = h.cells.length) (k : Nat) : refsAt (dropM h (nots marks)) k = if marks.getD k false then refsAt h k else [] := by
  by_cases hk : k < h.cells.length
  · have hc := List.getElem?_eq_getElem hk
    have hd : (nots marks)[k]? = some (!marks.getD k false) := nots_at (by rw [List.getD, List.getElem?_eq_getElem (by omega)]; rfl)
    have e := drop_at hc hd
    have e2 : refsAt (dropM h (nots marks)) k = (if (!marks.getD k false) = true then freeCell else h.cells[k]).refs := refsAt_of (h := dropM h (nots marks)) e
    rw [e2, refsAt_of hc]
    rcases bool_ft (marks.getD k false) with h1 | h1
    · rw [h1]; simp [freeCell]
    · rw [h1]; simp
  · rw [getD_len (by omega), if_neg (by simp)]
    have : (dropM h (nots marks)).cells[k]? = none := List.getElem?_eq_none (by show (dropCs h.cells (nots marks)).length ≤ k; rw [dropCs_len (by rw [nots_len]; exact hl)]; omega)
    unfold refsAt; rw [this]
theorem reach_drop {h : HeapM} (hv : validM h = true) : reachM (dropM h (nots (reachM h))) = reachM h := by
  have hl := reachM_len h
  have hn : (dropM h (nots (reachM h))).cells.length = h.cells.length := dropCs_len (by rw [nots_len]; exact hl)
  show rchL (dropM h (nots (reachM h))).cells.length (refsAt (dropM h (nots (reachM h)))) nonneg h.roots = rchL h.cells.length (refsAt h) nonneg h.roots
  rw [hn]
  unfold rchL
  congr 1
  funext k
  have hr := drop_refs hl
  have : Rch (refsAt (dropM h (nots (reachM h)))) nonneg h.roots k ↔ Rch (refsAt h) nonneg h.roots k := by
    refine ⟨fun h1 => ?_, fun h1 => ?_⟩
    · induction h1 with
      | start hr ho => exact .start hr ho
      | next _ hm ho ih =>
        rw [hr] at hm
        split at hm
        · exact .next ih hm ho
        · simp at hm
    · induction h1 with
      | start hr ho => exact .start hr ho
      | next h2 hm ho ih => exact .next ih (by rw [hr, if_pos ((reach_iff hv _).2 h2)]; exact hm) ho
  simp [this]
/-! ### CollectSweep, StepSweep, RunSweep -/
noncomputable def collectSweepM (h : HeapM) : HeapM × Int := sweepM h (reachableM h)
theorem collectSweep_ok {h : HeapM} (hv : validM h = true) : collectSweepM h = (dropM h (nots (reachM h)), (freedN h.cells (nots (reachM h)) : Int)) := by
  unfold collectSweepM reachableM; rw [if_pos hv]; exact sweep_yes hv (reachM_len h) (reach_out hv)
theorem collectSweep_no {h : HeapM} (hv : validM h = false) : collectSweepM h = (zeroH, -1) := sweep_no (fun hh => by rw [hv] at hh; cases hh.1)
theorem collectSweep_valid {h : HeapM} (hv : validM h = true) : validM (collectSweepM h).1 = true := by
  rw [collectSweep_ok hv]; show validM (dropM h (nots (reachM h))) = true
  rw [sweep_out hv (reachM_len h), reach_out hv]; rfl
noncomputable def stepSweepM (h : HeapM) (limit : Int) (o : CmdM) : HeapM × Bool :=
  if validM h && cmdOk o && inB 1 limit 40 then
    (if possO h o then
      (if o.op = 1 ∧ limit ≤ (freeAt h.cells : Int) then
        (if limit ≤ (freeAt (collectSweepM h).1.cells : Int) then ((collectSweepM h).1, false) else (execM (collectSweepM h).1 o (freeAt (collectSweepM h).1.cells), true))
      else (execM h o (freeAt h.cells), true))
    else (h, false))
  else (zeroH, false)
theorem exec_place {h : HeapM} {o : CmdM} (h1 : o.op ≠ 1) (a b : Nat) : execM h o a = execM h o b := by unfold execM; simp [h1]
theorem poss_new {h : HeapM} {o : CmdM} (h1 : o.op = 1) : possO h o = true := by unfold possO; simp [h1]
theorem stepSweep_no {h : HeapM} {limit : Int} {o : CmdM} (hb : (validM h && cmdOk o && inB 1 limit 40) = false) : stepSweepM h limit o = (zeroH, false) := by unfold stepSweepM; rw [hb]; rfl
theorem stepSweep_poss {h : HeapM} {limit : Int} {o : CmdM} (hb : (validM h && cmdOk o && inB 1 limit 40) = true) (hp : possO h o = false) : stepSweepM h limit o = (h, false) := by unfold stepSweepM; rw [hb, hp]; rfl
theorem stepSweep_old {h : HeapM} {limit : Int} {o : CmdM} (hb : (validM h && cmdOk o && inB 1 limit 40) = true) (hp : possO h o = true) (hn : ¬ (o.op = 1 ∧ limit ≤ (freeAt h.cells : Int))) : stepSweepM h limit o = (execM h o (freeAt h.cells), true) := by unfold stepSweepM; rw [hb, hp, if_pos rfl, if_pos rfl, if_neg hn]
theorem stepSweep_full {h : HeapM} {limit : Int} {o : CmdM} (hb : (validM h && cmdOk o && inB 1 limit 40) = true) (h1 : o.op = 1) (hn : limit ≤ (freeAt h.cells : Int)) (hf : limit ≤ (freeAt (collectSweepM h).1.cells : Int)) : stepSweepM h limit o = ((collectSweepM h).1, false) := by
  unfold stepSweepM; rw [hb, poss_new h1, if_pos rfl, if_pos rfl, if_pos ⟨h1, hn⟩, if_pos hf]
theorem stepSweep_room {h : HeapM} {limit : Int} {o : CmdM} (hb : (validM h && cmdOk o && inB 1 limit 40) = true) (h1 : o.op = 1) (hn : limit ≤ (freeAt h.cells : Int)) (hf : ¬ limit ≤ (freeAt (collectSweepM h).1.cells : Int)) : stepSweepM h limit o = (execM (collectSweepM h).1 o (freeAt (collectSweepM h).1.cells), true) := by
  unfold stepSweepM; rw [hb, poss_new h1, if_pos rfl, if_pos rfl, if_pos ⟨h1, hn⟩, if_neg hf]
theorem stepSweep_valid {h : HeapM} {limit : Int} {o : CmdM} (hv : validM h = true) (hc : cmdOk o = true) (hl : inB 1 limit 40 = true) : validM (stepSweepM h limit o).1 = true := by
  have hb : (validM h && cmdOk o && inB 1 limit 40) = true := by simp [hv, hc, hl]
  have hl2 := inB_iff.1 hl
  rcases bool_ft (possO h o) with hp | hp
  · rw [stepSweep_poss hb hp]; exact hv
  by_cases hn : o.op = 1 ∧ limit ≤ (freeAt h.cells : Int)
  · by_cases hf : limit ≤ (freeAt (collectSweepM h).1.cells : Int)
    · rw [stepSweep_full hb hn.1 hn.2 hf]; exact collectSweep_valid hv
    · rw [stepSweep_room hb hn.1 hn.2 hf]; exact valid_exec (collectSweep_valid hv) hc (poss_new hn.1) (freeAt_le _) (fun _ => by omega)
  · rw [stepSweep_old hb hp hn]
    refine valid_exec hv hc hp (freeAt_le _) (fun h1 => ?_)
    have : ¬ limit ≤ (freeAt h.cells : Int) := fun h2 => hn ⟨h1, h2⟩
    omega
/-- It fails only at instructions that are not possible, and at OpNew. -/
theorem stepSweep_fail {h : HeapM} {limit : Int} {o : CmdM} (hv : validM h = true) (hc : cmdOk o = true) (hl : inB 1 limit 40 = true) : (possO h o && !(stepSweepM h limit o).2) = (!(stepSweepM h limit o).2 && decide (o.op = 1)) := by
  have hb : (validM h && cmdOk o && inB 1 limit 40) = true := by simp [hv, hc, hl]
  by_cases h1 : o.op = 1
  · rw [poss_new h1]; simp [h1]
  · rcases bool_ft (possO h o) with hp | hp
    · simp [hp, h1]
    · rw [stepSweep_old hb hp (fun hn => h1 hn.1)]; simp
/-- A program with sweeping: at a stop the rest is not run. -/
noncomputable def sweepFrom (limit : Int) : HeapM → List CmdM → HeapM × Bool
  | h, [] => (h, true)
  | h, o :: l => if !(stepSweepM h limit o).2 && decide (o.op = 1) then ((stepSweepM h limit o).1, false) else sweepFrom limit (stepSweepM h limit o).1 l
noncomputable def runSweepM (l : List CmdM) (limit : Int) : HeapM × Bool := if cmdsOk l && inB 1 limit 40 then sweepFrom limit emptyM l else (zeroH, false)
theorem sweepFrom_stop {limit : Int} {h : HeapM} {l : List CmdM} {k : Nat} {o : CmdM} (ho : l[k]? = some o) (hs : (!(stepSweepM h limit o).2 && decide (o.op = 1)) = true) : sweepFrom limit h (l.drop k) = ((stepSweepM h limit o).1, false) := by
  rw [drop_cons_of ho]; unfold sweepFrom; rw [if_pos hs]
theorem sweepFrom_go {limit : Int} {h : HeapM} {l : List CmdM} {k : Nat} {o : CmdM} (ho : l[k]? = some o) (hs : (!(stepSweepM h limit o).2 && decide (o.op = 1)) = false) : sweepFrom limit h (l.drop k) = sweepFrom limit (stepSweepM h limit o).1 (l.drop (k + 1)) := by
  rw [drop_cons_of ho, sweepFrom, if_neg (by rw [hs]; simp)]
/-! ### CollectAged -/
noncomputable def collectAgedM (p : TwoM) : TwoM × Int := if agedM p then (⟨(collectSweepM p.store).1, reachM p.store, List.replicate p.store.cells.length false⟩, (collectSweepM p.store).2) else (zeroT, -1)
end Go.Proofs.Ytbnokkdhanlhpaa

/- The order in which cells are met; moved heaps; programs that move, as plain functions. -/
namespace Go.Proofs.Ytbnokkdhanlhpaa
set_option linter.unusedVariables false
set_option linter.unusedSimpArgs false
/-- A round: what cell number i of those that were met refers to is met. -/
def ordStep (rf : Nat → List Int) (ok : Int → Bool) (i : Nat) (st : (Nat → Bool) × List Int) : (Nat → Bool) × List Int := match st.2[i]? with | some r => visL ok st (rf r.toNat) | none => st
def ordIt (rf : Nat → List Int) (ok : Int → Bool) (fr : List Int) : Nat → (Nat → Bool) × List Int
  | 0 => visL ok (fun _ => false, []) fr
  | i + 1 => ordStep rf ok i (ordIt rf ok fr i)
theorem ordIt_next {rf : Nat → List Int} {ok : Int → Bool} {fr : List Int} {i : Nat} {r : Int} (h : (ordIt rf ok fr i).2[i]? = some r) : ordIt rf ok fr (i + 1) = visL ok (ordIt rf ok fr i) (rf r.toNat) := by
  show ordStep rf ok i (ordIt rf ok fr i) = _
  unfold ordStep; rw [h]
theorem ordIt_stay {rf : Nat → List Int} {ok : Int → Bool} {fr : List Int} {i : Nat} (h : (ordIt rf ok fr i).2.length ≤ i) : ∀ d, ordIt rf ok fr (i + d) = ordIt rf ok fr i := by
  intro d
  induction d with
  | zero => rfl
  | succ d ih =>
    show ordStep rf ok (i + d) (ordIt rf ok fr (i + d)) = _
    rw [ih]; unfold ordStep
    rw [List.getElem?_eq_none (by omega)]
/-- What is met is listed, once each. -/
structure OrdI (ok : Int → Bool) (n : Nat) (st : (Nat → Bool) × List Int) : Prop where
  le : unmet n st.1 + st.2.length ≤ n
  met : ∀ r ∈ st.2, ok r = true ∧ st.1 r.toNat = true
  nd : st.2.Pairwise fun a b => a.toNat ≠ b.toNat
theorem OrdI.vis1 {ok : Int → Bool} {n : Nat} {st : (Nat → Bool) × List Int} (h : OrdI ok n st) {r : Int} (hr : ok r = true → r.toNat < n) : OrdI ok n (vis1 ok st r) := by
  by_cases hc : (ok r && !st.1 r.toNat) = true
  · have hmu := vis1_mu st hr
    simp at hc
    have e := vis1_yes hc.1 hc.2
    refine ⟨Nat.le_trans hmu h.le, ?_, ?_⟩
    · intro x hx
      rw [e] at hx
      rcases List.mem_append.1 hx with hx | hx
      · exact ⟨(h.met x hx).1, vis1_mono st r (h.met x hx).2⟩
      · obtain rfl : x = r := by simpa using hx
        exact ⟨hc.1, by rw [e]; simp⟩
    · rw [e]
      refine List.pairwise_append.2 ⟨h.nd, by simp, fun a ha b hb hk => ?_⟩
      obtain rfl : b = r := by simpa using hb
      have h1 := (h.met a ha).2
      rw [hk, hc.2] at h1; cases h1
  · have e : Proofs.Ytbnokkdhanlhpaa.vis1 ok st r = st := by unfold Proofs.Ytbnokkdhanlhpaa.vis1; rw [if_neg hc]
    rw [e]; exact h
theorem OrdI.visL {ok : Int → Bool} {n : Nat} (rs : List Int) : ∀ {st : (Nat → Bool) × List Int}, OrdI ok n st → (∀ r ∈ rs, ok r = true → r.toNat < n) → OrdI ok n (visL ok st rs) := by
  induction rs with
  | nil => intro st h _; exact h
  | cons r rs ih => intro st h hr; exact ih (h.vis1 (hr r (by simp))) fun x hx => hr x (by simp [hx])
theorem OrdI.start (ok : Int → Bool) (n : Nat) : OrdI ok n (fun _ => false, []) := ⟨by have := unmet_le n (fun _ => false); simpa using this, by simp, by simp⟩
theorem ordIt_ok {rf : Nat → List Int} {ok : Int → Bool} {fr : List Int} {n : Nat} (h1 : ∀ r ∈ fr, ok r = true → r.toNat < n) (h2 : ∀ k, ∀ r ∈ rf k, ok r = true → r.toNat < n) : ∀ i, OrdI ok n (ordIt rf ok fr i)
  | 0 => (OrdI.start ok n).visL fr h1
  | i + 1 => by
    show OrdI ok n (ordStep rf ok i (ordIt rf ok fr i))
    unfold ordStep
    split
    · exact (ordIt_ok h1 h2 i).visL _ (h2 _)
    · exact ordIt_ok h1 h2 i
def orderM (h : HeapM) : List Int := (ordIt (refsAt h) nonneg h.roots h.cells.length).2
theorem nonneg_lt {h : HeapM} (hv : validM h = true) {r : Int} (hr : leadsM h.cells r = true) (h0 : nonneg r = true) : r.toNat < h.cells.length := by
  have h1 := leadsM_lt hr
  have h2 : 0 ≤ r := by simpa [nonneg] using h0
  omega
theorem ord_ok {h : HeapM} (hv : validM h = true) (i : Nat) : OrdI nonneg h.cells.length (ordIt (refsAt h) nonneg h.roots i) :=
  ordIt_ok (fun r hr h0 => nonneg_lt hv ((validM_leads hv).2 r hr) h0) (fun k r hr h0 => nonneg_lt hv (refsAt_leads hv k r hr) h0) i
theorem ord_end {h : HeapM} (hv : validM h = true) {i : Nat} (hi : (ordIt (refsAt h) nonneg h.roots i).2.length = i) : (ordIt (refsAt h) nonneg h.roots i).2 = orderM h := by
  have hle : i ≤ h.cells.length := by have := (ord_ok hv i).le; omega
  unfold orderM
  have := ordIt_stay (rf := refsAt h) (ok := nonneg) (fr := h.roots) (i := i) (by omega) (h.cells.length - i)
  rw [show i + (h.cells.length - i) = h.cells.length by omega] at this
  rw [this]
/-- Numbers of cells of a heap, each once. -/
structure OrdOk (h : HeapM) (order : List Int) : Prop where
  lt : ∀ r ∈ order, 0 ≤ r ∧ r < h.cells.length
  nd : order.Pairwise fun a b => a ≠ b
  len : order.length ≤ h.cells.length
theorem order_ok {h : HeapM} (hv : validM h = true) : OrdOk h (orderM h) := by
  have hi := ord_ok hv h.cells.length
  refine ⟨fun r hr => ?_, hi.nd.imp fun hab e => hab (by rw [e]), by have := hi.le; unfold orderM; omega⟩
  have h1 := hi.met r hr
  have h0 : 0 ≤ r := by simpa [nonneg] using h1.1
  refine ⟨h0, ?_⟩
  -- a number that is met lies in the heap
  have key : ∀ i, ∀ r ∈ (ordIt (refsAt h) nonneg h.roots i).2, leadsM h.cells r = true := by
    intro i
    induction i with
    | zero =>
      intro r hr
      obtain ⟨ns, e, h2, -⟩ := visL_work (ok := nonneg) h.roots (fun _ => false, [])
      have hr2 : r ∈ (visL nonneg (fun _ => false, []) h.roots).2 := hr
      rw [e] at hr2
      exact (validM_leads hv).2 r (h2 r (by simpa using hr2)).2.1
    | succ i ih =>
      intro r hr
      have hr2 : r ∈ (ordStep (refsAt h) nonneg i (ordIt (refsAt h) nonneg h.roots i)).2 := hr
      unfold ordStep at hr2
      split at hr2
      · next x hx =>
        obtain ⟨ns, e, h2, -⟩ := visL_work (ok := nonneg) (refsAt h x.toNat) (ordIt (refsAt h) nonneg h.roots i)
        rw [e] at hr2
        rcases List.mem_append.1 hr2 with h3 | h3
        · exact ih r h3
        · exact refsAt_leads hv _ r (h2 r h3).2.1
      · exact ih r hr2
  exact leadsM_lt (key _ r hr)
/-! ### New numbers -/
def isR (r x : Int) : Bool := x == r
/-- The place of a number in an order, or -1. -/
def nameM (order : List Int) (r : Int) : Int := match firstB (isR r) order with | some k => (k : Int) | none => -1
theorem nameM_some {order : List Int} {r : Int} {k : Nat} (h : noneB (isR r) order k) (hk : order[k]? = some r) : nameM order r = k := by unfold nameM; rw [firstB_some h hk (by simp [isR])]
theorem nameM_none {order : List Int} {r : Int} (h : noneB (isR r) order order.length) : nameM order r = -1 := by unfold nameM; rw [firstB_none h]
theorem nameM_out {order : List Int} {r : Int} (h : r ∉ order) : nameM order r = -1 := nameM_none fun i hi y hy => by
  unfold isR; simp; intro e; subst e; exact h (List.mem_of_getElem? hy)
theorem nameM_snoc {order : List Int} {r : Int} {k : Nat} {x : Int} (hx : order[k]? = some x) (hnd : order.Pairwise fun a b => a ≠ b) : nameM (order.take (k + 1)) r = if x = r then (k : Int) else nameM (order.take k) r := by
  have hlt := (List.getElem?_eq_some_iff.1 hx).1
  have hx2 := (List.getElem?_eq_some_iff.1 hx).2
  have hp := List.pairwise_iff_getElem.1 hnd
  by_cases e : x = r
  · subst e
    rw [if_pos rfl]
    refine nameM_some (fun i hi y hy => ?_) (by rw [List.getElem?_take_of_lt (by omega)]; exact hx)
    rw [List.getElem?_take_of_lt (by omega)] at hy
    have hy2 := (List.getElem?_eq_some_iff.1 hy)
    obtain ⟨hil, rfl⟩ := hy2
    have := hp i k hil hlt hi
    rw [hx2] at this
    unfold isR; simpa using this
  · rw [if_neg e, take_snoc_of hx]
    unfold nameM
    have : firstB (isR r) (order.take k ++ [x]) = firstB (isR r) (order.take k) := by
      generalize order.take k = l
      induction l with
      | nil => simp [firstB, isR, e]
      | cons y l ih =>
        simp only [List.cons_append, firstB]
        split
        · rfl
        · rw [ih]
    rw [this]
def namesM (order : List Int) (n : Nat) (j : Nat) : List Int := (List.range n).map fun k : Nat => nameM (order.take j) (k : Int)
theorem namesM_len (order : List Int) (n j : Nat) : (namesM order n j).length = n := by simp [namesM]
theorem namesM_at {order : List Int} {n j k : Nat} (h : k < n) : (namesM order n j)[k]? = some (nameM (order.take j) (k : Int)) := by simp [namesM, h]
theorem namesM_zero (order : List Int) (n : Nat) : namesM order n 0 = List.replicate n (-1) := by
  apply List.ext_getElem? ; intro k
  by_cases hk : k < n
  · rw [namesM_at hk]; simp [hk, nameM, firstB]
  · simp [namesM, hk]
theorem namesM_succ {order : List Int} {n j : Nat} {x : Int} (hx : order[j]? = some x) (h0 : 0 ≤ x) (hnd : order.Pairwise fun a b => a ≠ b) : namesM order n (j + 1) = (namesM order n j).set x.toNat (j : Int) := by
  apply List.ext_getElem? ; intro k
  by_cases hk : k < n
  · rw [namesM_at hk, nameM_snoc hx hnd, List.getElem?_set]
    by_cases e : x = (k : Int)
    · have e2 : x.toNat = k := by omega
      rw [if_pos e, if_pos e2, if_pos (by rw [namesM_len]; omega)]
    · have e2 : ¬ x.toNat = k := by omega
      rw [if_neg e, if_neg e2, namesM_at hk]
  · rw [List.getElem?_eq_none (by rw [namesM_len]; omega), List.getElem?_eq_none (by simp [namesM_len]; omega)]
def newName (order : List Int) (n : Nat) (r : Int) : Int := if 0 ≤ r then ((namesM order n order.length)[r.toNat]?).getD (-1) else r
/-- References of a valid heap: by the table, or by looking for them. -/
theorem newName_eq {h : HeapM} {order : List Int} (ho : OrdOk h order) {r : Int} (hr : leadsM h.cells r = true) : newName order h.cells.length r = nameM order r := by
  unfold newName
  by_cases h0 : 0 ≤ r
  · rw [if_pos h0, namesM_at (by have := leadsM_lt hr; omega), List.take_length]
    simp [Int.toNat_of_nonneg h0]
  · rw [if_neg h0]
    rcases leadsM_iff.1 hr with rfl | ⟨h1, -⟩
    · exact (nameM_out fun hm => by have := (ho.lt _ hm).1; omega).symm
    · omega
/-! ### Moved heaps -/
def movedC (h : HeapM) (order : List Int) (r : Int) : CellM := match h.cells[r.toNat]? with | some c => ⟨true, c.data, c.refs.map (nameM order)⟩ | none => ⟨true, 0, []⟩
theorem movedC_of {h : HeapM} {order : List Int} {r : Int} {c : CellM} (hc : h.cells[r.toNat]? = some c) : movedC h order r = ⟨true, c.data, c.refs.map (nameM order)⟩ := by unfold movedC; rw [hc]
def gathM (h : HeapM) (order : List Int) : HeapM := ⟨order.map (movedC h order), h.roots.map (nameM order)⟩
def copyHeapM (h : HeapM) : HeapM := if validM h then gathM h (orderM h) else zeroH
/-- The cells that can be reached, in ascending order: those below j. -/
noncomputable def slideN (h : HeapM) (j : Nat) : List Int := ((List.range j).filter fun k => (reachM h).getD k false).map fun k : Nat => (k : Int)
noncomputable def slideM (h : HeapM) : List Int := slideN h h.cells.length
noncomputable def slideHeapM (h : HeapM) : HeapM := if validM h then gathM h (slideM h) else zeroH
theorem slideN_succ (h : HeapM) (j : Nat) : slideN h (j + 1) = if (reachM h).getD j false then slideN h j ++ [(j : Int)] else slideN h j := by
  unfold slideN
  rw [List.range_succ, List.filter_append, List.map_append]
  rcases bool_ft ((reachM h).getD j false) with e | e
  · rw [e]; simp only [List.filter_cons, e, List.filter_nil]; simp
  · rw [e]; simp only [List.filter_cons, e, List.filter_nil]; simp
theorem slideN_len (h : HeapM) (j : Nat) : (slideN h j).length ≤ j := by
  unfold slideN; rw [List.length_map]; exact Nat.le_trans (List.length_filter_le _ _) (by simp)
theorem slide_ok (h : HeapM) : OrdOk h (slideM h) := by
  refine ⟨fun r hr => ?_, ?_, slideN_len h _⟩
  · unfold slideM slideN at hr
    simp only [List.mem_map, List.mem_filter, List.mem_range] at hr
    obtain ⟨k, ⟨hk, -⟩, rfl⟩ := hr
    omega
  · unfold slideM slideN
    rw [List.pairwise_map]
    refine (List.Pairwise.filter _ List.nodup_range).imp fun hab e => hab (by omega)
/-- A program that moves its cells together before it needs a new one. -/
noncomputable def moveFrom (mv : HeapM → HeapM) (limit : Int) : HeapM → List CmdM → HeapM × Bool
  | h, [] => (h, true)
  | h, o :: l =>
    if o.op = 1 ∧ limit ≤ (h.cells.length : Int) then
      (if limit ≤ ((mv h).cells.length : Int) then (mv h, false) else moveFrom mv limit (stepM (mv h) o).1 l)
    else moveFrom mv limit (stepM h o).1 l
noncomputable def runMoveM (mv : HeapM → HeapM) (l : List CmdM) (limit : Int) : HeapM × Bool := if cmdsOk l && inB 1 limit 40 then moveFrom mv limit emptyM l else (zeroH, false)
theorem moveFrom_stop {mv : HeapM → HeapM} {limit : Int} {h : HeapM} {l : List CmdM} {k : Nat} {o : CmdM} (ho : l[k]? = some o) (h1 : o.op = 1 ∧ limit ≤ (h.cells.length : Int)) (h2 : limit ≤ ((mv h).cells.length : Int)) : moveFrom mv limit h (l.drop k) = (mv h, false) := by
  rw [drop_cons_of ho, moveFrom, if_pos h1, if_pos h2]
theorem moveFrom_move {mv : HeapM → HeapM} {limit : Int} {h : HeapM} {l : List CmdM} {k : Nat} {o : CmdM} (ho : l[k]? = some o) (h1 : o.op = 1 ∧ limit ≤ (h.cells.length : Int)) (h2 : ¬ limit ≤ ((mv h).cells.length : Int)) : moveFrom mv limit h (l.drop k) = moveFrom mv limit (stepM (mv h) o).1 (l.drop (k + 1)) := by
  rw [drop_cons_of ho, moveFrom, if_pos h1, if_neg h2]
theorem moveFrom_go {mv : HeapM → HeapM} {limit : Int} {h : HeapM} {l : List CmdM} {k : Nat} {o : CmdM} (ho : l[k]? = some o) (h1 : ¬ (o.op = 1 ∧ limit ≤ (h.cells.length : Int))) : moveFrom mv limit h (l.drop k) = moveFrom mv limit (stepM h o).1 (l.drop (k + 1)) := by
  rw [drop_cons_of ho, moveFrom, if_neg h1]
end Go.Proofs.Ytbnokkdhanlhpaa

/- Generations: instructions, young collections, programs, as plain functions. -/
namespace Go.Proofs.Ytbnokkdhanlhpaa
set_option linter.unusedVariables false
set_option linter.unusedSimpArgs false
/-- The cell of root A is noted, if it is old and that of root B is young. -/
def noteB (p : TwoM) (o : CmdM) : Bool := p.x.getD (rootAt p.store o.a).toNat false && youngRef p.x (rootAt p.store o.b)
def noteM (p : TwoM) (o : CmdM) : List Bool := if o.op = 3 ∧ noteB p o = true then p.y.set (rootAt p.store o.a).toNat true else p.y
def growB (p : TwoM) (o : CmdM) : Bool := decide (o.op = 1) && decide (freeAt p.store.cells = p.store.cells.length)
def agedDo (p : TwoM) (o : CmdM) : TwoM :=
  if growB p o then ⟨execM p.store o (freeAt p.store.cells), p.x ++ [false], p.y ++ [false]⟩ else ⟨execM p.store o (freeAt p.store.cells), p.x, noteM p o⟩
def agedCmdM (p : TwoM) (o : CmdM) : TwoM × Bool := if agedM p && cmdOk o then (if canF p.store o then (agedDo p o, true) else (p, false)) else (zeroT, false)
/-! ### Young collections -/
/-- From where the young cells are reached: the roots, and the references of the noted cells below j. -/
def fromM (p : TwoM) (j : Nat) : List Int := p.store.roots ++ ((List.range j).filter fun k => p.y.getD k false).flatMap (refsAt p.store)
theorem fromM_zero (p : TwoM) : fromM p 0 = p.store.roots := by simp [fromM]
theorem fromM_succ (p : TwoM) (j : Nat) : fromM p (j + 1) = if p.y.getD j false then fromM p j ++ refsAt p.store j else fromM p j := by
  unfold fromM
  rw [List.range_succ, List.filter_append, List.flatMap_append]
  rcases bool_ft (p.y.getD j false) with e | e
  · simp only [List.filter_cons, e, List.filter_nil]; simp
  · simp only [List.filter_cons, e, List.filter_nil]; simp
noncomputable def youngL (p : TwoM) : List Bool := rchL p.store.cells.length (refsAt p.store) (youngRef p.x) (fromM p p.store.cells.length)
noncomputable def keepM (p : TwoM) : List Bool := List.zipWith (fun a b => a || b) p.x (youngL p)
theorem keepM_len {p : TwoM} (h : p.x.length = p.store.cells.length) : (keepM p).length = p.store.cells.length := by simp [keepM, youngL, rchL_len, h]
theorem keepM_at {p : TwoM} (h : p.x.length = p.store.cells.length) {k : Nat} (hk : k < p.store.cells.length) : (keepM p).getD k false = (p.x.getD k false || (youngL p).getD k false) := by
  unfold keepM
  have h1 : k < (youngL p).length := by unfold youngL; rw [rchL_len]; exact hk
  rw [List.getD, List.getElem?_zipWith, List.getElem?_eq_getElem (by omega), List.getElem?_eq_getElem h1]
  simp [List.getD, List.getElem?_eq_getElem (show k < p.x.length by omega), List.getElem?_eq_getElem h1]
noncomputable def collectYoungM (p : TwoM) : TwoM × Int := if agedM p then (⟨dropM p.store (nots (keepM p)), keepM p, List.replicate p.store.cells.length false⟩, (freedN p.store.cells (nots (keepM p)) : Int)) else (zeroT, -1)
/-- What holds while the reference collects: K is kept, lst.drop i is still to be looked at. -/
structure YouI (rf : Nat → List Int) (old : Nat → Bool) (ok : Int → Bool) (fr : List Int) (K : Nat → Bool) (lst : List Int) (i : Nat) : Prop where
  base : ∀ k, old k = true → K k = true
  sound : ∀ k, K k = true → old k = true ∨ Rch rf ok fr k
  list : ∀ r ∈ lst, ok r = true ∧ Rch rf ok fr r.toNat
  closed : ∀ k, K k = true → old k = false → ∀ r ∈ rf k, ok r = true → K r.toNat = true ∨ r ∈ lst.drop i
  start : ∀ r ∈ fr, ok r = true → K r.toNat = true ∨ r ∈ lst.drop i
def newsM (K : Nat → Bool) (rs : List Int) : List Int := rs.filter fun m => nonneg m && !K m.toNat
theorem newsM_snoc {K : Nat → Bool} {rs : List Int} {k : Nat} {r : Int} (h : rs[k]? = some r) : newsM K (rs.take (k + 1)) = if nonneg r && !K r.toNat then newsM K (rs.take k) ++ [r] else newsM K (rs.take k) := by
  rw [take_snoc_of h]; unfold newsM; rw [List.filter_append, List.filter_cons]; split <;> simp
theorem newsM_len (K : Nat → Bool) (rs : List Int) : (newsM K rs).length ≤ rs.length := List.length_filter_le _ _
def okRef (ok : Int → Bool) (old : Nat → Bool) : Prop := ∀ r, ok r = (nonneg r && !old r.toNat)
theorem YouI.init {rf : Nat → List Int} {old : Nat → Bool} {ok : Int → Bool} {fr : List Int} : YouI rf old ok fr old (fr.filter ok) 0 := by
  refine ⟨fun k h => h, fun k h => .inl h, fun r hr => ?_, fun k h1 h2 => (by rw [h1] at h2; cases h2), fun r hr ho => .inr (by simp [hr, ho])⟩
  have h2 := List.mem_filter.1 hr
  exact ⟨h2.2, .start h2.1 h2.2⟩
theorem YouI.skip {rf : Nat → List Int} {old : Nat → Bool} {ok : Int → Bool} {fr : List Int} {K : Nat → Bool} {lst : List Int} {i : Nat} (h : YouI rf old ok fr K lst i) {r : Int} (hr : lst[i]? = some r) (hK : K r.toNat = true) : YouI rf old ok fr K lst (i + 1) := by
  have hd := drop_cons_of hr
  have key : ∀ x, x ∈ lst.drop i → K x.toNat = true ∨ x ∈ lst.drop (i + 1) := fun x hx => by
    rw [hd] at hx
    rcases List.mem_cons.1 hx with rfl | hx
    · exact .inl hK
    · exact .inr hx
  refine ⟨h.base, h.sound, h.list, fun k h1 h2 x hx ho => ?_, fun x hx ho => ?_⟩
  · rcases h.closed k h1 h2 x hx ho with h3 | h3
    · exact .inl h3
    · exact key x h3
  · rcases h.start x hx ho with h3 | h3
    · exact .inl h3
    · exact key x h3
def setK (K : Nat → Bool) (n : Nat) : Nat → Bool := fun k => if k = n then true else K k
theorem YouI.take {rf : Nat → List Int} {old : Nat → Bool} {ok : Int → Bool} {fr : List Int} {K : Nat → Bool} {lst : List Int} {i : Nat} (h : YouI rf old ok fr K lst i) (hok : okRef ok old) {r : Int} (hr : lst[i]? = some r) (hK : K r.toNat = false) : YouI rf old ok fr (setK K r.toNat) (lst ++ newsM (setK K r.toNat) (rf r.toNat)) (i + 1) := by
  have hd := drop_cons_of hr
  have hi := (List.getElem?_eq_some_iff.1 hr).1
  have hrl := h.list r (List.mem_of_getElem? hr)
  have mono : ∀ k, K k = true → setK K r.toNat k = true := fun k hk => by unfold setK; split <;> simp [hk]
  have key : ∀ x, x ∈ lst.drop i → setK K r.toNat x.toNat = true ∨ x ∈ (lst ++ newsM (setK K r.toNat) (rf r.toNat)).drop (i + 1) := fun x hx => by
    rw [hd] at hx
    rcases List.mem_cons.1 hx with rfl | hx
    · exact .inl (by simp [setK])
    · exact .inr (by rw [List.drop_append_of_le_length (by omega)]; simp [hx])
  have hnew : ∀ x ∈ newsM (setK K r.toNat) (rf r.toNat), ok x = true ∧ x ∈ rf r.toNat := fun x hx => by
    obtain ⟨h1, h2⟩ := List.mem_filter.1 hx
    simp at h2
    refine ⟨?_, h1⟩
    rw [hok x, h2.1]
    rcases bool_ft (old x.toNat) with e | e
    · simp [e]
    · have := mono _ (h.base _ e); rw [h2.2] at this; cases this
  refine ⟨fun k hk => mono k (h.base k hk), fun k hk => ?_, fun x hx => ?_, fun k h1 h2 x hx ho => ?_, fun x hx ho => ?_⟩
  · unfold setK at hk
    split at hk
    · next e => subst e; exact .inr hrl.2
    · exact h.sound k hk
  · rcases List.mem_append.1 hx with hx | hx
    · exact h.list x hx
    · obtain ⟨h1, h2⟩ := hnew x hx
      exact ⟨h1, .next hrl.2 h2 h1⟩
  · by_cases e : k = r.toNat
    · subst e
      rcases bool_ft (setK K r.toNat x.toNat) with e2 | e2
      · refine .inr ?_
        rw [List.drop_append_of_le_length (by omega)]
        refine List.mem_append.2 (.inr (List.mem_filter.2 ⟨hx, ?_⟩))
        have := hok x; rw [ho] at this
        have h3 : (nonneg x && !old x.toNat) = true := this.symm
        simp at h3
        simp [h3.1, e2]
      · exact .inl e2
    · have h3 : K k = true := by unfold setK at h1; rw [if_neg e] at h1; exact h1
      rcases h.closed k h3 h2 x hx ho with h4 | h4
      · exact .inl (mono _ h4)
      · exact key x h4
  · rcases h.start x hx ho with h4 | h4
    · exact .inl (mono _ h4)
    · exact key x h4
theorem YouI.done {rf : Nat → List Int} {old : Nat → Bool} {ok : Int → Bool} {fr : List Int} {K : Nat → Bool} {lst : List Int} {i : Nat} (h : YouI rf old ok fr K lst i) (hok : okRef ok old) (hi : lst.length ≤ i) (k : Nat) : K k = true ↔ old k = true ∨ Rch rf ok fr k := by
  have hd : lst.drop i = [] := List.drop_eq_nil_of_le hi
  refine ⟨h.sound k, fun h1 => ?_⟩
  rcases h1 with h1 | h1
  · exact h.base k h1
  · induction h1 with
    | start hr ho =>
      rcases h.start _ hr ho with h2 | h2
      · exact h2
      · rw [hd] at h2; simp at h2
    | next hk hr ho ih =>
      rename_i k r
      rcases bool_ft (old k) with e | e
      · rcases h.closed _ ih e _ hr ho with h2 | h2
        · exact h2
        · rw [hd] at h2; simp at h2
      · -- an old cell that is reached: it was let through, so it is not old
        exfalso
        have : ∀ j, Rch rf ok fr j → old j = false := fun j hj => by
          cases hj with
          | start _ ho => have := hok ‹_›; rw [ho] at this; have h3 : (nonneg _ && !old _) = true := this.symm; simp at h3; exact h3.2
          | next _ _ ho => have := hok ‹_›; rw [ho] at this; have h3 : (nonneg _ && !old _) = true := this.symm; simp at h3; exact h3.2
        rw [this _ hk] at e; cases e
theorem unmet_setK {n k : Nat} {K : Nat → Bool} (hk : k < n) (hK : K k = false) : unmet n (setK K k) < unmet n K := by
  unfold unmet
  refine filter_lt (fun x hx => ?_) (a := k) (by simp [hk]) (by simp [setK]) (by simp [hK])
  unfold setK at hx
  split at hx
  · simp at hx
  · exact hx
theorem keepM_of {p : TwoM} (h : p.x.length = p.store.cells.length) {K : Nat → Bool} {l : List Bool} (hl : l.length = p.store.cells.length) (hK : ∀ k, l.getD k false = K k) (hd : ∀ k, K k = true ↔ p.x.getD k false = true ∨ Rch (refsAt p.store) (youngRef p.x) (fromM p p.store.cells.length) k) : l = keepM p := by
  apply List.ext_getElem?
  intro k
  by_cases hk : k < p.store.cells.length
  · have a : l[k]? = some (l.getD k false) := by rw [List.getD, List.getElem?_eq_getElem (by omega)]; rfl
    have b : (keepM p)[k]? = some ((keepM p).getD k false) := by rw [List.getD, List.getElem?_eq_getElem (by rw [keepM_len h]; omega)]; rfl
    rw [a, b, hK k, keepM_at h hk]
    have h2 := hd k
    have h3 : (youngL p).getD k false = true ↔ _ := rchL_at hk
    congr 1
    rw [Bool.eq_iff_iff, h2, Bool.or_eq_true, h3]
  · rw [List.getElem?_eq_none (by omega), List.getElem?_eq_none (by rw [keepM_len h]; omega)]
/-! ### Programs -/
def emptyT : TwoM := ⟨emptyM, [], []⟩
noncomputable def agedTick (every : Int) (k : Nat) (p : TwoM) : TwoM := if ((k : Int) + 1) % every = 0 then (collectYoungM p).1 else p
noncomputable def runAgedN (every : Int) (l : List CmdM) : Nat → TwoM
  | 0 => emptyT
  | k + 1 => match l[k]? with | some o => agedTick every k (agedCmdM (runAgedN every l k) o).1 | none => runAgedN every l k
noncomputable def runAgedM (l : List CmdM) (every : Int) : TwoM := if cmdsOk l && inB 1 every 40 then runAgedN every l l.length else zeroT
theorem runAgedN_succ {every : Int} {l : List CmdM} {k : Nat} {o : CmdM} (ho : l[k]? = some o) : runAgedN every l (k + 1) = agedTick every k (agedCmdM (runAgedN every l k) o).1 := by rw [runAgedN, ho]
end Go.Proofs.Ytbnokkdhanlhpaa
