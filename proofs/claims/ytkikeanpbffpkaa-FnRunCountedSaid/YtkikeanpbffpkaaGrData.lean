/- Texts of one family, one behind the other: Data, DataS, DataF, DataG, DataH, DataR, DataP, DataW, DataV, DataY. -/
/- The data that this program computes with, and what its functions compute, as plain functions. -/
namespace Go.Proofs.Ytkikeanpbffpkaa

/-- A cell: used or not, a number, the numbers of the cells to which it refers. -/
structure CellM where
  used : Bool
  data : Int
  refs : List Int
  deriving DecidableEq
structure HeapM where
  cells : List CellM
  roots : List Int
  deriving DecidableEq
structure CmdM where
  op : Int
  a : Int
  b : Int
  c : Int
  deriving DecidableEq
structure PaintM where
  store : HeapM
  colours : List Int
  active : Bool
  deriving DecidableEq
/-- A snapshot (what was met, what waits), or a heap with generations (what is old, what is noted). -/
structure TwoM where
  store : HeapM
  x : List Bool
  y : List Bool
  deriving DecidableEq
structure CountM where
  store : HeapM
  counts : List Int
  deriving DecidableEq

/-- Are both the same? (A name that the walk does not open.) -/
def eqB {α : Type} [DecidableEq α] (a b : α) : Bool := decide (a = b)
theorem eqB_iff {α : Type} [DecidableEq α] {a b : α} : eqB a b = true ↔ a = b := by simp [eqB]
theorem eqB_of {α : Type} [DecidableEq α] {a b : α} (h : a = b) : eqB a b = true := eqB_iff.2 h
theorem eqB_ne {α : Type} [DecidableEq α] {a b : α} (h : a ≠ b) : eqB a b = false := by simp [eqB, h]
theorem eqB_false {α : Type} [DecidableEq α] {a b : α} (h : eqB a b = false) : a ≠ b := by simpa [eqB] using h
theorem bool_ft (b : Bool) : b = false ∨ b = true := by cases b <;> simp

def inB (lo n hi : Int) : Bool := decide (lo ≤ n) && decide (n ≤ hi)
theorem inB_iff {lo n hi : Int} : inB lo n hi = true ↔ lo ≤ n ∧ n ≤ hi := by simp [inB]
theorem inB_false {lo n hi : Int} : inB lo n hi = false ↔ ¬ (lo ≤ n ∧ n ≤ hi) := by
  rw [← Bool.not_eq_true, inB_iff]
/-- Is cell number r a used one? -/
def usedAt (cs : List CellM) (r : Int) : Bool := match cs[r.toNat]? with | some c => c.used | none => false
/-- A reference is -1 or leads to a used cell. -/
def leadsM (cs : List CellM) (r : Int) : Bool := r == -1 || (decide (0 ≤ r) && usedAt cs r)
def refsM (cs : List CellM) (rs : List Int) : Bool := rs.all (leadsM cs)
def cellOkM (cs : List CellM) (c : CellM) : Bool := if c.used then refsM cs c.refs && (inB 0 c.data 99 && decide (c.refs.length ≤ 3)) else decide (c.data = 0) && decide (c.refs.length = 0)
def validM (h : HeapM) : Bool := h.cells.all (cellOkM h.cells) && (decide (h.cells.length ≤ 40) && decide (h.roots.length = 4) && refsM h.cells h.roots)

theorem leadsM_neg1 (cs : List CellM) : leadsM cs (-1) = true := by simp [leadsM]
theorem leadsM_low {cs : List CellM} {r : Int} (h : r ≠ -1) (h2 : r < 0) : leadsM cs r = false := by
  simp [leadsM, h]; omega
theorem leadsM_high {cs : List CellM} {r : Int} (h2 : (cs.length : Int) ≤ r) : leadsM cs r = false := by
  have h4 : cs[r.toNat]? = none := by rw [List.getElem?_eq_none]; omega
  have h5 : r ≠ -1 := by omega
  simp [leadsM, usedAt, h4, h5]
theorem leadsM_at {cs : List CellM} {r : Int} {c : CellM} (h : cs[r.toNat]? = some c) (h2 : 0 ≤ r) : leadsM cs r = c.used := by
  have h5 : r ≠ -1 := by omega
  simp [leadsM, usedAt, h, h5, h2]
theorem cellOk_free {cs : List CellM} {d : Int} {rs : List Int} : cellOkM cs ⟨false, d, rs⟩ = (decide (d = 0) && decide (rs.length = 0)) := rfl
theorem cellOk_used {cs : List CellM} {d : Int} {rs : List Int} : cellOkM cs ⟨true, d, rs⟩ = (refsM cs rs && (inB 0 d 99 && decide (rs.length ≤ 3))) := rfl
theorem leadsM_lt {cs : List CellM} {r : Int} (h : leadsM cs r = true) : r < cs.length := by
  rcases Classical.em (r < cs.length) with h1 | h1
  · exact h1
  · rw [leadsM_high (by omega)] at h
    cases h
theorem refsM_lt {cs : List CellM} {rs : List Int} (h : refsM cs rs = true) : ∀ r ∈ rs, r < cs.length := fun r hr => leadsM_lt (List.all_eq_true.1 h r hr)
theorem cellOk_lt {cs : List CellM} {c : CellM} (h : cellOkM cs c = true) : ∀ r ∈ c.refs, r < cs.length := by
  unfold cellOkM at h
  split at h
  · exact refsM_lt (Bool.and_eq_true_iff.1 h).1
  · have h2 := of_decide_eq_true (Bool.and_eq_true_iff.1 h).2
    have h3 : c.refs = [] := List.eq_nil_of_length_eq_zero h2
    rw [h3]; simp
theorem validM_lt {h : HeapM} (hv : validM h = true) : (∀ c ∈ h.cells, ∀ r ∈ c.refs, r < h.cells.length) ∧ ∀ r ∈ h.roots, r < h.cells.length := by
  unfold validM at hv
  simp only [Bool.and_eq_true] at hv
  exact ⟨fun c hc => cellOk_lt (List.all_eq_true.1 hv.1 c hc), refsM_lt hv.2.2⟩
theorem validM_len {h : HeapM} (hv : validM h = true) : h.cells.length ≤ 40 ∧ h.roots.length = 4 := by
  unfold validM at hv
  simp only [Bool.and_eq_true, decide_eq_true_eq] at hv
  exact hv.2.1
theorem validM_leads {h : HeapM} (hv : validM h = true) : (∀ c ∈ h.cells, ∀ r ∈ c.refs, leadsM h.cells r = true) ∧ ∀ r ∈ h.roots, leadsM h.cells r = true := by
  unfold validM at hv
  simp only [Bool.and_eq_true] at hv
  refine ⟨fun c hc r hr => ?_, fun r hr => List.all_eq_true.1 hv.2.2 r hr⟩
  have h1 := List.all_eq_true.1 hv.1 c hc
  unfold cellOkM at h1
  split at h1
  · exact List.all_eq_true.1 (Bool.and_eq_true_iff.1 h1).1 r hr
  · have h2 := of_decide_eq_true (Bool.and_eq_true_iff.1 h1).2
    rw [List.eq_nil_of_length_eq_zero h2] at hr
    cases hr
theorem all_drop {α : Type} (f : α → Bool) {xs : List α} {k : Nat} {x : α} (h : xs[k]? = some x) : (xs.drop k).all f = (f x && (xs.drop (k + 1)).all f) := by
  obtain ⟨hk, rfl⟩ := List.getElem?_eq_some_iff.1 h
  rw [List.drop_eq_getElem_cons hk]; rfl
theorem drop_cons_of {α : Type} {xs : List α} {k : Nat} {x : α} (h : xs[k]? = some x) : xs.drop k = x :: xs.drop (k + 1) := by
  obtain ⟨hk, rfl⟩ := List.getElem?_eq_some_iff.1 h
  exact List.drop_eq_getElem_cons hk
theorem take_snoc_of {α : Type} {xs : List α} {k : Nat} {x : α} (h : xs[k]? = some x) : xs.take (k + 1) = xs.take k ++ [x] := by
  obtain ⟨hk, rfl⟩ := List.getElem?_eq_some_iff.1 h
  rw [List.take_succ_eq_append_getElem hk]
theorem getD_len {l : List Bool} {i : Nat} (h : l.length ≤ i) : l.getD i false = false := by
  simp [List.getD, List.getElem?_eq_none h]
theorem getD_of {l : List Bool} {i : Nat} {b : Bool} (h : l[i]? = some b) : l.getD i false = b := by simp [List.getD, h]

/-! ### Painted heaps, snapshots, generations -/
def whiteM (cols : List Int) (r : Int) : Bool := decide (0 ≤ r) && (match cols[r.toNat]? with | some c => c == 0 | none => false)
def anyWhite (cols : List Int) (rs : List Int) : Bool := rs.any (whiteM cols)
def cellPaint (cols : List Int) (act : Bool) (x : Int × CellM) : Bool :=
  inB 0 x.1 2 && (x.1 == 0 || (x.2.used && act)) && !(x.1 == 2 && anyWhite cols x.2.refs)
def paintM (p : PaintM) : Bool := validM p.store && decide (p.colours.length = p.store.cells.length) && (p.colours.zip p.store.cells).all (cellPaint p.colours p.active) &&
  (!p.active || !anyWhite p.colours p.store.roots)
def usedN (cs : List CellM) (i : Nat) : Bool := (cs.map (·.used)).getD i false
theorem usedN_at {cs : List CellM} {i : Nat} {c : CellM} (h : cs[i]? = some c) : usedN cs i = c.used := by simp [usedN, h]
def snapOk (p : TwoM) (i : Nat) : Bool := (!p.y.getD i false || p.x.getD i false) && (!p.x.getD i false || usedN p.store.cells i)
/-- A snapshot is valid: what waits has been met, what has been met is used. -/
def snapM (p : TwoM) : Bool := validM p.store && decide (p.x.length = p.store.cells.length) && decide (p.y.length = p.store.cells.length) && (List.range p.store.cells.length).all (snapOk p)
end Go.Proofs.Ytkikeanpbffpkaa

/- Snapshots, marking and programs step by step, as plain functions, with their small laws. -/
namespace Go.Proofs.Ytkikeanpbffpkaa
/-- No element before k meets p. -/
def noneB {α : Type} (p : α → Bool) (l : List α) (k : Nat) : Prop := ∀ i, i < k → ∀ y, l[i]? = some y → p y = false
theorem noneB_zero {α : Type} (p : α → Bool) (l : List α) : noneB p l 0 := fun i h => by omega
theorem noneB_succ {α : Type} {p : α → Bool} {l : List α} {k : Nat} {x : α} (h : noneB p l k) (hx : l[k]? = some x) (hp : p x = false) : noneB p l (k + 1) := by
  intro i hi y hy
  rcases Nat.lt_or_ge i k with h1 | h1
  · exact h i h1 y hy
  · obtain rfl : i = k := by omega
    rw [hx] at hy; injection hy with hy; rw [← hy]; exact hp
def firstB {α : Type} (p : α → Bool) : List α → Option Nat
  | [] => none
  | x :: xs => if p x then some 0 else (firstB p xs).map (· + 1)
theorem firstB_some {α : Type} {p : α → Bool} : ∀ {l : List α} {k : Nat} {x : α}, noneB p l k → l[k]? = some x → p x = true → firstB p l = some k
  | [], k, x, _, hx, _ => by simp at hx
  | a :: l, 0, x, h, hx, hp => by simp at hx; subst hx; simp [firstB, hp]
  | a :: l, k + 1, x, h, hx, hp => by
    have h0 : p a = false := h 0 (by omega) a (by simp)
    have h1 : firstB p l = some k := firstB_some (fun i hi y hy => h (i + 1) (by omega) y (by simpa using hy)) (by simpa using hx) hp
    simp [firstB, h0, h1]
theorem firstB_none {α : Type} {p : α → Bool} : ∀ {l : List α}, noneB p l l.length → firstB p l = none
  | [], _ => rfl
  | a :: l, h => by
    have h0 : p a = false := h 0 (by simp) a (by simp)
    have h1 : firstB p l = none := firstB_none (fun i hi y hy => h (i + 1) (by simp; omega) y (by simpa using hy))
    simp [firstB, h0, h1]
theorem firstB_at {α : Type} {p : α → Bool} : ∀ {l : List α} {k : Nat}, firstB p l = some k → ∃ x, l[k]? = some x ∧ p x = true ∧ noneB p l k
  | [], k, h => by simp [firstB] at h
  | a :: l, k, h => by
    cases h0 : p a
    · simp only [firstB, h0, Bool.false_eq_true, if_false, Option.map_eq_some_iff] at h
      obtain ⟨j, hj, rfl⟩ := h
      obtain ⟨x, hx, hp, hn⟩ := firstB_at hj
      refine ⟨x, by simpa using hx, hp, fun i hi y hy => ?_⟩
      cases i with
      | zero => simp at hy; rw [← hy]; exact h0
      | succ i => exact hn i (by omega) y (by simpa using hy)
    · simp only [firstB, h0, if_true, Option.some.injEq] at h
      subst h
      exact ⟨a, by simp, h0, noneB_zero _ _⟩
theorem firstB_none_all {α : Type} {p : α → Bool} {l : List α} (h : firstB p l = none) : ∀ x ∈ l, p x = false := by
  induction l with
  | nil => intro x hx; cases hx
  | cons a l ih =>
    cases h0 : p a
    · simp only [firstB, h0, Bool.false_eq_true, if_false, Option.map_eq_none_iff] at h
      intro x hx
      rcases List.mem_cons.1 hx with rfl | hx
      · exact h0
      · exact ih h x hx
    · simp [firstB, h0] at h

theorem valid_small {h : HeapM} (hv : validM h = true) : h.cells.length ≤ 40 ∧ h.roots.length = 4 ∧ ∀ d ∈ h.cells, d.refs.length ≤ 3 := by
  refine ⟨(validM_len hv).1, (validM_len hv).2, fun d hd => ?_⟩
  unfold validM at hv
  simp only [Bool.and_eq_true] at hv
  have h1 := List.all_eq_true.1 hv.1 d hd
  unfold cellOkM at h1
  split at h1
  · simp only [Bool.and_eq_true, decide_eq_true_eq] at h1
    exact h1.2.2
  · simp only [Bool.and_eq_true, decide_eq_true_eq] at h1
    omega
/-! ### Zero values -/
def zeroH : HeapM := ⟨[], []⟩
def zeroT : TwoM := ⟨zeroH, [], []⟩
def zeroP : PaintM := ⟨zeroH, [], false⟩
def refsAt (h : HeapM) (k : Nat) : List Int := match h.cells[k]? with | some c => c.refs | none => []
theorem refsAt_of {h : HeapM} {k : Nat} {c : CellM} (hc : h.cells[k]? = some c) : refsAt h k = c.refs := by simp [refsAt, hc]

/-! ### Snapshots -/
/-- Met and waiting cells after r has been met. -/
def meet1 (xy : List Bool × List Bool) (r : Int) : List Bool × List Bool :=
  if 0 ≤ r ∧ xy.1[r.toNat]? = some false then (xy.1.set r.toNat true, xy.2.set r.toNat true) else xy
def meetL (xy : List Bool × List Bool) (rs : List Int) : List Bool × List Bool := rs.foldl meet1 xy
def snapStartM (h : HeapM) : TwoM :=
  if validM h then ⟨h, (meetL (List.replicate h.cells.length false, List.replicate h.cells.length false) h.roots).1, (meetL (List.replicate h.cells.length false, List.replicate h.cells.length false) h.roots).2⟩ else zeroT
/-! ### Marking with colours -/
def grey1 (cols : List Int) (r : Int) : List Int := if whiteM cols r then cols.set r.toNat 1 else cols
def greyL (cols : List Int) (rs : List Int) : List Int := rs.foldl grey1 cols
def startP (p : PaintM) : PaintM := if p.active then p else ⟨p.store, greyL p.colours p.store.roots, true⟩
def paintStartM (p : PaintM) : PaintM := if paintM p then startP p else zeroP
/-! ### Instructions -/
def maxB (op : Int) : Int := if op = 1 then 3 else if op = 2 then 3 else if op = 3 then 3 else if op = 4 then 3 else if op = 5 then 0 else 99
def maxC (op : Int) : Int := if op = 1 then 99 else if op = 2 then 2 else if op = 3 then 2 else 0
def cmdOk (o : CmdM) : Bool := inB 1 o.op 6 && (inB 0 o.a 3 && (inB 0 o.b (maxB o.op) && inB 0 o.c (maxC o.op)))
def cmdsOk (l : List CmdM) : Bool := decide (l.length ≤ 40) && l.all cmdOk
def rootAt (h : HeapM) (r : Int) : Int := match h.roots[r.toNat]? with | some x => x | none => -1
def placeOk (h : HeapM) (root c : Int) : Bool := decide (0 ≤ rootAt h root) && decide (c < ((refsAt h (rootAt h root).toNat).length : Int))
def possO (h : HeapM) (o : CmdM) : Bool := if o.op = 2 then placeOk h o.b o.c else if o.op = 3 then placeOk h o.a o.c else if o.op = 6 then decide (0 ≤ rootAt h o.a) else true
def possM (h : HeapM) (o : CmdM) : Bool := validM h && cmdOk o && possO h o
def newCell (o : CmdM) : CellM := ⟨true, o.c, List.replicate o.b.toNat (-1)⟩
def putCell (cs : List CellM) (at_ : Nat) (c : CellM) : List CellM := if at_ = cs.length then cs ++ [c] else cs.set at_ c
def setRef (cs : List CellM) (k : Nat) (j : Nat) (r : Int) : List CellM := match cs[k]? with | some c => cs.set k ⟨c.used, c.data, c.refs.set j r⟩ | none => cs
def setData (cs : List CellM) (k : Nat) (d : Int) : List CellM := match cs[k]? with | some c => cs.set k ⟨c.used, d, c.refs⟩ | none => cs
def refOf (h : HeapM) (root c : Int) : Int := match (refsAt h (rootAt h root).toNat)[c.toNat]? with | some x => x | none => -1
/-- The heap after a possible instruction; a new cell is put at a place. -/
def execM (h : HeapM) (o : CmdM) (at_ : Nat) : HeapM :=
  if o.op = 1 then ⟨putCell h.cells at_ (newCell o), h.roots.set o.a.toNat (at_ : Int)⟩
  else if o.op = 2 then ⟨h.cells, h.roots.set o.a.toNat (refOf h o.b o.c)⟩
  else if o.op = 3 then ⟨setRef h.cells (rootAt h o.a).toNat o.c.toNat (rootAt h o.b), h.roots⟩
  else if o.op = 4 then ⟨h.cells, h.roots.set o.a.toNat (rootAt h o.b)⟩
  else if o.op = 5 then ⟨h.cells, h.roots.set o.a.toNat (-1)⟩
  else ⟨setData h.cells (rootAt h o.a).toNat o.b, h.roots⟩
def stepM (h : HeapM) (o : CmdM) : HeapM × Bool :=
  if validM h && cmdOk o then (if possO h o && !(decide (o.op = 1) && decide (h.cells.length = 40)) then (execM h o h.cells.length, true) else (h, false)) else (zeroH, false)
def emptyM : HeapM := ⟨[], [-1, -1, -1, -1]⟩
def runFrom (h : HeapM) (l : List CmdM) : HeapM := l.foldl (fun h o => (stepM h o).1) h
def runM (l : List CmdM) : HeapM := if cmdsOk l then runFrom emptyM l else zeroH
theorem runFrom_snoc {h : HeapM} {l : List CmdM} {k : Nat} {o : CmdM} (ho : l[k]? = some o) : runFrom h (l.take (k + 1)) = (stepM (runFrom h (l.take k)) o).1 := by
  rw [take_snoc_of ho]; simp [runFrom]
end Go.Proofs.Ytkikeanpbffpkaa

/- Marking and snapshots brought to their ends, and freeing, as plain functions; that steps keep painted heaps and snapshots valid. -/
namespace Go.Proofs.Ytkikeanpbffpkaa
set_option linter.unusedVariables false
/-! ### Colours -/
theorem valid_used {h : HeapM} {r : Int} (hr : leadsM h.cells r = true) (h0 : 0 ≤ r) : ∃ c, h.cells[r.toNat]? = some c ∧ c.used = true := by
  unfold leadsM usedAt at hr
  cases hc : h.cells[r.toNat]? with
  | none => simp [hc] at hr; omega
  | some c =>
    rw [hc] at hr
    simp at hr
    rcases hr with hr | hr
    · omega
    · exact ⟨c, rfl, hr.2⟩
end Go.Proofs.Ytkikeanpbffpkaa

/- Snapshots brought to their ends, and freeing, as plain functions. -/
namespace Go.Proofs.Ytkikeanpbffpkaa
set_option linter.unusedVariables false
def wx (b : Bool) : Nat := if b then 0 else 2
/-! ### Freeing -/
def freeCell : CellM := ⟨false, 0, []⟩
/-- The cells without those that are dead. -/
def dropCs (cs : List CellM) (dead : List Bool) : List CellM := List.zipWith (fun c d => if d then freeCell else c) cs dead
def dropM (h : HeapM) (dead : List Bool) : HeapM := ⟨dropCs h.cells dead, h.roots⟩
def freedN (cs : List CellM) (dead : List Bool) : Nat := ((List.zipWith (fun (c : CellM) d => d && c.used) cs dead).filter id).length
theorem dropCs_len {cs : List CellM} {dead : List Bool} (h : dead.length = cs.length) : (dropCs cs dead).length = cs.length := by simp [dropCs, h]
end Go.Proofs.Ytkikeanpbffpkaa

/- Valid heaps stay valid; sweeping; snapshots under instructions and brought to their ends, as plain functions. -/
namespace Go.Proofs.Ytkikeanpbffpkaa
set_option linter.unusedVariables false
set_option linter.unusedSimpArgs false
theorem validM_iff {h : HeapM} : validM h = true ↔ (∀ c ∈ h.cells, cellOkM h.cells c = true) ∧ h.cells.length ≤ 40 ∧ h.roots.length = 4 ∧ ∀ r ∈ h.roots, leadsM h.cells r = true := by
  unfold validM refsM
  simp only [Bool.and_eq_true, decide_eq_true_eq, List.all_eq_true]
  constructor
  · rintro ⟨a, ⟨b, c⟩, d⟩; exact ⟨a, b, c, d⟩
  · rintro ⟨a, b, c, d⟩; exact ⟨a, ⟨b, c⟩, d⟩
theorem leadsM_iff {cs : List CellM} {r : Int} : leadsM cs r = true ↔ r = -1 ∨ (0 ≤ r ∧ ∃ c, cs[r.toNat]? = some c ∧ c.used = true) := by
  unfold leadsM usedAt
  cases hc : cs[r.toNat]? with
  | none => simp
  | some c => simp
theorem cellOk_iff {cs : List CellM} {c : CellM} : cellOkM cs c = true ↔ (c.used = true ∧ (∀ r ∈ c.refs, leadsM cs r = true) ∧ 0 ≤ c.data ∧ c.data ≤ 99 ∧ c.refs.length ≤ 3) ∨ (c.used = false ∧ c.data = 0 ∧ c.refs = []) := by
  unfold cellOkM refsM
  cases hu : c.used
  · simp [hu]
  · simp only [if_true, Bool.and_eq_true, decide_eq_true_eq, List.all_eq_true, inB_iff, hu]
    constructor
    · rintro ⟨a, ⟨b, c⟩, d⟩; exact .inl ⟨trivial, a, b, c, d⟩
    · rintro (⟨-, a, b, c, d⟩ | ⟨h, _⟩)
      · exact ⟨a, ⟨b, c⟩, d⟩
      · cases h
theorem leads_mono {cs cs' : List CellM} (h : ∀ (i : Nat) (c : CellM), cs[i]? = some c → c.used = true → ∃ c', cs'[i]? = some c' ∧ c'.used = true) {r : Int} (hr : leadsM cs r = true) : leadsM cs' r = true := by
  rcases leadsM_iff.1 hr with h1 | ⟨h0, c, hc, hu⟩
  · exact leadsM_iff.2 (.inl h1)
  · exact leadsM_iff.2 (.inr ⟨h0, h _ c hc hu⟩)
theorem cellOk_mono {cs cs' : List CellM} (h : ∀ (i : Nat) (c : CellM), cs[i]? = some c → c.used = true → ∃ c', cs'[i]? = some c' ∧ c'.used = true) {c : CellM} (hr : cellOkM cs c = true) : cellOkM cs' c = true := by
  rcases cellOk_iff.1 hr with ⟨a, b, c⟩ | h2
  · exact cellOk_iff.2 (.inl ⟨a, fun r hr => leads_mono h (b r hr), c⟩)
  · exact cellOk_iff.2 (.inr h2)
theorem set_used {cs : List CellM} {k : Nat} {x : CellM} (hx : x.used = true) : ∀ (i : Nat) (c : CellM), cs[i]? = some c → c.used = true → ∃ c', (cs.set k x)[i]? = some c' ∧ c'.used = true := by
  intro i c hc hu
  have hi := (List.getElem?_eq_some_iff.1 hc).1
  rw [List.getElem?_set]
  by_cases e : k = i
  · subst e; rw [if_pos rfl, if_pos hi]; exact ⟨x, rfl, hx⟩
  · rw [if_neg e]; exact ⟨c, hc, hu⟩
theorem rootAt_leads {h : HeapM} (hv : validM h = true) (r : Int) : leadsM h.cells (rootAt h r) = true := by
  unfold rootAt
  split
  · rename_i x hx
    exact (validM_leads hv).2 x (List.mem_of_getElem? hx)
  · exact leadsM_neg1 _
theorem refOf_leads {h : HeapM} (hv : validM h = true) (root c : Int) : leadsM h.cells (refOf h root c) = true := by
  unfold refOf refsAt
  split
  · rename_i x hx
    split at hx
    · rename_i d hd
      exact (validM_leads hv).1 d (List.mem_of_getElem? hd) x (List.mem_of_getElem? hx)
    · simp at hx
  · exact leadsM_neg1 _
theorem valid_roots {h : HeapM} (hv : validM h = true) {k : Nat} {x : Int} (hx : leadsM h.cells x = true) : validM ⟨h.cells, h.roots.set k x⟩ = true := by
  obtain ⟨a, b, c, d⟩ := validM_iff.1 hv
  refine validM_iff.2 ⟨a, b, by simpa using c, fun r hr => ?_⟩
  rcases List.mem_or_eq_of_mem_set hr with hr | rfl
  · exact d r hr
  · exact hx
theorem valid_set {h : HeapM} (hv : validM h = true) {k : Nat} {x : CellM} (hx : cellOkM h.cells x = true) (hu : x.used = true) : validM ⟨h.cells.set k x, h.roots⟩ = true := by
  obtain ⟨a, b, c, d⟩ := validM_iff.1 hv
  have hm := set_used (cs := h.cells) (k := k) hu
  refine validM_iff.2 ⟨fun y hy => ?_, by simpa using b, c, fun r hr => leads_mono hm (d r hr)⟩
  rcases List.mem_or_eq_of_mem_set hy with hy | rfl
  · exact cellOk_mono hm (a y hy)
  · exact cellOk_mono hm hx
theorem valid_push {h : HeapM} (hv : validM h = true) {x : CellM} (hx : cellOkM h.cells x = true) (hl : h.cells.length < 40) : validM ⟨h.cells ++ [x], h.roots⟩ = true := by
  obtain ⟨a, b, c, d⟩ := validM_iff.1 hv
  have hm : ∀ (i : Nat) (c : CellM), h.cells[i]? = some c → c.used = true → ∃ c', (h.cells ++ [x])[i]? = some c' ∧ c'.used = true := by
    intro i c hc hu
    exact ⟨c, by rw [List.getElem?_append_left (List.getElem?_eq_some_iff.1 hc).1]; exact hc, hu⟩
  refine validM_iff.2 ⟨fun y hy => ?_, by simp; omega, c, fun r hr => leads_mono hm (d r hr)⟩
  rcases List.mem_append.1 hy with hy | hy
  · exact cellOk_mono hm (a y hy)
  · rw [List.mem_singleton.1 hy]; exact cellOk_mono hm hx
theorem cmdOk_parts {o : CmdM} (h : cmdOk o = true) : 1 ≤ o.op ∧ o.op ≤ 6 ∧ 0 ≤ o.a ∧ o.a ≤ 3 ∧ 0 ≤ o.b ∧ o.b ≤ maxB o.op ∧ 0 ≤ o.c ∧ o.c ≤ maxC o.op := by
  unfold cmdOk at h
  simp only [Bool.and_eq_true, inB_iff] at h
  omega
theorem newCell_ok {cs : List CellM} {o : CmdM} (hc : cmdOk o = true) (h1 : o.op = 1) : cellOkM cs (newCell o) = true := by
  obtain ⟨-, -, -, -, b0, b1, c0, c1⟩ := cmdOk_parts hc
  have e1 : maxB o.op = 3 := by rw [h1]; rfl
  have e2 : maxC o.op = 99 := by rw [h1]; rfl
  refine cellOk_iff.2 (.inl ⟨rfl, fun r hr => ?_, c0, by rw [e2] at c1; exact c1, by simp [newCell]; omega⟩)
  have : r = -1 := (List.mem_replicate.1 hr).2
  subst this
  exact leadsM_neg1 _
/-- A possible instruction keeps a heap valid. -/
theorem valid_exec {h : HeapM} {o : CmdM} {at_ : Nat} (hv : validM h = true) (hc : cmdOk o = true) (hp : possO h o = true) (hat : at_ ≤ h.cells.length) (hn : o.op = 1 → at_ < 40) : validM (execM h o at_) = true := by
  obtain ⟨o1, o6, a0, a3, b0, b1, c0, c1⟩ := cmdOk_parts hc
  unfold execM
  split
  · rename_i h1
    have hnew := newCell_ok (cs := h.cells) hc h1
    have hat40 := hn h1
    unfold putCell
    split
    · rename_i he
      have h2 := valid_push hv hnew (by omega)
      refine valid_roots (h := ⟨h.cells ++ [newCell o], h.roots⟩) h2 (leadsM_iff.2 (.inr ⟨by omega, newCell o, ?_, rfl⟩))
      simp [he]
    · rename_i he
      have h2 := valid_set hv (k := at_) hnew rfl
      refine valid_roots (h := ⟨h.cells.set at_ (newCell o), h.roots⟩) h2 (leadsM_iff.2 (.inr ⟨by omega, newCell o, ?_, rfl⟩))
      show (h.cells.set at_ (newCell o))[((at_ : Int)).toNat]? = _
      rw [Int.toNat_natCast, List.getElem?_set, if_pos rfl, if_pos (by omega)]
  · split
    · exact valid_roots hv (refOf_leads hv _ _)
    · split
      · show validM ⟨setRef h.cells (rootAt h o.a).toNat o.c.toNat (rootAt h o.b), h.roots⟩ = true
        unfold setRef
        split
        · rename_i c hcc
          have hok := (validM_iff.1 hv).1 c (List.mem_of_getElem? hcc)
          rcases cellOk_iff.1 hok with ⟨u1, u2, u3⟩ | ⟨u1, u2, u3⟩
          · refine valid_set hv (cellOk_iff.2 (.inl ⟨u1, fun r hr => ?_, u3.1, u3.2.1, by simpa using u3.2.2⟩)) u1
            rcases List.mem_or_eq_of_mem_set hr with hr | rfl
            · exact u2 r hr
            · exact rootAt_leads hv _
          · have e : (⟨c.used, c.data, c.refs.set o.c.toNat (rootAt h o.b)⟩ : CellM) = c := by
              obtain ⟨cu, cd, cr⟩ := c
              simp only at u3
              subst u3
              simp
            rw [e]
            have e2 : h.cells.set (rootAt h o.a).toNat c = h.cells := by
              have h9 := (List.getElem?_eq_some_iff.1 hcc).2
              rw [← h9]
              exact List.set_getElem_self _
            rw [e2]
            exact hv
        · exact hv
      · split
        · exact valid_roots hv (rootAt_leads hv _)
        · split
          · exact valid_roots hv (leadsM_neg1 _)
          · rename_i n1 n2 n3 n4 n5
            have h6 : o.op = 6 := by omega
            show validM ⟨setData h.cells (rootAt h o.a).toNat o.b, h.roots⟩ = true
            unfold setData
            split
            · rename_i c hcc
              have hpos : 0 ≤ rootAt h o.a := by
                unfold possO at hp
                rw [if_neg n2, if_neg n3, if_pos h6] at hp
                exact of_decide_eq_true hp
              obtain ⟨c2, hc2, hu⟩ := valid_used (rootAt_leads hv o.a) hpos
              rw [hcc] at hc2
              injection hc2 with hc2
              subst hc2
              have hok := (validM_iff.1 hv).1 c (List.mem_of_getElem? hcc)
              have e1 : maxB o.op = 99 := by rw [h6]; rfl
              rcases cellOk_iff.1 hok with ⟨u1, u2, u3⟩ | ⟨u1, u2, u3⟩
              · exact valid_set hv (cellOk_iff.2 (.inl ⟨u1, u2, b0, by rw [e1] at b1; exact b1, u3.2.2⟩)) u1
              · rw [u1] at hu; cases hu
            · exact hv
theorem valid_step {h : HeapM} {o : CmdM} (hv : validM h = true) (hc : cmdOk o = true) : validM (stepM h o).1 = true := by
  unfold stepM
  rw [hv, hc]
  simp only [Bool.and_self, if_true]
  split
  · rename_i hp
    simp only [Bool.and_eq_true, Bool.not_eq_true', Bool.and_eq_false_iff, decide_eq_false_iff_not] at hp
    have hl := (validM_len hv).1
    exact valid_exec hv hc hp.1 (Nat.le_refl _) (fun h1 => by rcases hp.2 with h2 | h2 <;> omega)
  · exact hv
theorem valid_empty : validM emptyM = true := by decide
theorem valid_runFrom {l : List CmdM} : ∀ {h : HeapM}, validM h = true → (∀ o ∈ l, cmdOk o = true) → validM (runFrom h l) = true := by
  unfold runFrom
  induction l with
  | nil => intro h hv _; exact hv
  | cons o l ih => intro h hv hl; exact ih (valid_step hv (hl o (by simp))) (fun o ho => hl o (by simp [ho]))
theorem valid_run {l : List CmdM} (hl : cmdsOk l = true) : validM (runM l) = true := by
  unfold runM
  rw [hl, if_pos rfl]
  unfold cmdsOk at hl
  simp only [Bool.and_eq_true, List.all_eq_true] at hl
  exact valid_runFrom valid_empty hl.2

/-! ### Sweeping -/
def nots (l : List Bool) : List Bool := l.map (!·)
theorem nots_len (l : List Bool) : (nots l).length = l.length := by simp [nots]
theorem nots_at {l : List Bool} {i : Nat} {b : Bool} (h : l[i]? = some b) : (nots l)[i]? = some !b := by simp [nots, h]
/-- Does r lead to a used cell that is not marked? -/
def outRef (h : HeapM) (marks : List Bool) (r : Int) : Bool := decide (0 ≤ r) && (usedN h.cells r.toNat && !marks.getD r.toNat false)
def outAt (h : HeapM) (marks : List Bool) (i : Nat) : Bool := marks.getD i false && (refsAt h i).any (outRef h marks)
def outB (h : HeapM) (marks : List Bool) : Bool := h.roots.any (outRef h marks) || (List.range h.cells.length).any (outAt h marks)
def sweepM (h : HeapM) (marks : List Bool) : HeapM × Int :=
  if validM h && decide (marks.length = h.cells.length) && validM (dropM h (nots marks)) then (dropM h (nots marks), freedN h.cells (nots marks)) else (zeroH, -1)
theorem drop_at {cs : List CellM} {dead : List Bool} {i : Nat} {c : CellM} {d : Bool} (hc : cs[i]? = some c) (hd : dead[i]? = some d) : (dropCs cs dead)[i]? = some (if d then freeCell else c) := by
  unfold dropCs
  rw [List.getElem?_zipWith, hc, hd]
theorem drop_leads {h : HeapM} {marks : List Bool} (hl : marks.length = h.cells.length) {r : Int} (hr : leadsM h.cells r = true) : leadsM (dropCs h.cells (nots marks)) r = !outRef h marks r := by
  rcases leadsM_iff.1 hr with rfl | ⟨h0, c, hc, hu⟩
  · rw [leadsM_neg1]; rfl
  · have hi := (List.getElem?_eq_some_iff.1 hc).1
    have hm := List.getElem?_eq_getElem (l := marks) (i := r.toNat) (by omega)
    have hd := drop_at hc (nots_at hm)
    unfold outRef
    rw [usedN_at hc, hu, getD_of hm]
    rw [leadsM_at hd h0]
    cases marks[r.toNat]'(by omega) <;> simp [freeCell, hu, h0]
theorem sweep_out {h : HeapM} {marks : List Bool} (hv : validM h = true) (hl : marks.length = h.cells.length) : validM (dropM h (nots marks)) = !outB h marks := by
  obtain ⟨v1, v2, v3, v4⟩ := validM_iff.1 hv
  obtain ⟨l1, l2⟩ := validM_leads hv
  have hdl : (dropCs h.cells (nots marks)).length = h.cells.length := dropCs_len (by rw [nots_len, hl])
  rw [Bool.eq_iff_iff, validM_iff]
  unfold outB dropM
  simp only [Bool.not_eq_true', Bool.or_eq_false_iff, List.any_eq_false, List.mem_range, Bool.not_eq_true]
  constructor
  · rintro ⟨a, b, c, d⟩
    refine ⟨fun r hr => ?_, fun i hi => ?_⟩
    · have h1 := d r hr
      rw [drop_leads hl (l2 r hr)] at h1
      simpa using h1
    · unfold outAt
      have hm := List.getElem?_eq_getElem (l := marks) (i := i) (by omega)
      have hc := List.getElem?_eq_getElem (l := h.cells) (i := i) hi
      rw [getD_of hm, refsAt_of hc]
      cases hmi : marks[i]'(by omega)
      · rfl
      · rw [hmi] at hm
        have hd := drop_at hc (nots_at hm)
        simp only [Bool.not_true, Bool.false_eq_true, if_false] at hd
        have hok := a _ (List.mem_of_getElem? hd)
        simp only [Bool.true_and, List.any_eq_false, Bool.not_eq_true]
        intro r hr
        have h1 := l1 _ (List.mem_of_getElem? hc) r hr
        have h2 : leadsM (dropCs h.cells (nots marks)) r = true := by
          rcases cellOk_iff.1 hok with ⟨_, u2, _⟩ | ⟨_, _, u3⟩
          · exact u2 r hr
          · rw [u3] at hr; cases hr
        rw [drop_leads hl h1] at h2
        simpa using h2
  · rintro ⟨a, b⟩
    refine ⟨fun c hc => ?_, by rw [hdl]; exact v2, v3, fun r hr => by rw [drop_leads hl (l2 r hr), a r hr]; rfl⟩
    obtain ⟨i, hi⟩ := List.mem_iff_getElem?.1 hc
    have hil : i < h.cells.length := by rw [← hdl]; exact (List.getElem?_eq_some_iff.1 hi).1
    have hm := List.getElem?_eq_getElem (l := marks) (i := i) (by omega)
    have hcc := List.getElem?_eq_getElem (l := h.cells) (i := i) hil
    have hd := drop_at hcc (nots_at hm)
    rw [hi] at hd
    injection hd with hd
    cases hmi : marks[i]'(by omega)
    · rw [hmi] at hd
      simp at hd
      rw [hd]
      exact cellOk_iff.2 (.inr ⟨rfl, rfl, rfl⟩)
    · rw [hmi] at hd hm
      simp at hd
      subst hd
      have hb := b i hil
      unfold outAt at hb
      rw [getD_of hm, refsAt_of hcc] at hb
      simp only [Bool.true_and, List.any_eq_false, Bool.not_eq_true] at hb
      have hok := v1 _ (List.mem_of_getElem? hcc)
      rcases cellOk_iff.1 hok with ⟨u1, u2, u3⟩ | u
      · exact cellOk_iff.2 (.inl ⟨u1, fun r hr => by rw [drop_leads hl (u2 r hr), hb r hr]; rfl, u3⟩)
      · exact cellOk_iff.2 (.inr u)
theorem sweep_yes {h : HeapM} {marks : List Bool} (hv : validM h = true) (hl : marks.length = h.cells.length) (ho : outB h marks = false) : sweepM h marks = (dropM h (nots marks), (freedN h.cells (nots marks) : Int)) := by
  unfold sweepM
  rw [sweep_out hv hl, hv, ho]
  simp [hl]
theorem sweep_no {h : HeapM} {marks : List Bool} (hn : ¬ (validM h = true ∧ marks.length = h.cells.length ∧ outB h marks = false)) : sweepM h marks = (zeroH, -1) := by
  unfold sweepM
  cases hv : validM h
  · simp
  · by_cases hl : marks.length = h.cells.length
    · rw [sweep_out hv hl]
      cases ho : outB h marks
      · exact absurd ⟨hv, hl, ho⟩ hn
      · simp
    · simp [hl]

/-! ### Snapshots -/
end Go.Proofs.Ytkikeanpbffpkaa

/- Cells that can be reached: closures, in any order of work, as plain functions. -/
namespace Go.Proofs.Ytkikeanpbffpkaa
set_option linter.unusedVariables false
set_option linter.unusedSimpArgs false
/-- Cells that can be reached from the numbers fr by the references rf, if ok lets a number through. -/
inductive Rch (rf : Nat → List Int) (ok : Int → Bool) (fr : List Int) : Nat → Prop
  | start {r : Int} : r ∈ fr → ok r = true → Rch rf ok fr r.toNat
  | next {k : Nat} {r : Int} : Rch rf ok fr k → r ∈ rf k → ok r = true → Rch rf ok fr r.toNat
/-- A number is met, and waits. -/
def vis1 (ok : Int → Bool) (st : (Nat → Bool) × List Int) (r : Int) : (Nat → Bool) × List Int :=
  if ok r && !st.1 r.toNat then (fun k => if k = r.toNat then true else st.1 k, st.2 ++ [r]) else st
def visL (ok : Int → Bool) (st : (Nat → Bool) × List Int) (rs : List Int) : (Nat → Bool) × List Int := rs.foldl (vis1 ok) st
theorem vis1_no {ok : Int → Bool} {st : (Nat → Bool) × List Int} {r : Int} (h : ok r = false ∨ st.1 r.toNat = true) : vis1 ok st r = st := by
  unfold vis1; rw [if_neg]; rcases h with h | h <;> simp [h]
theorem vis1_yes {ok : Int → Bool} {st : (Nat → Bool) × List Int} {r : Int} (h : ok r = true) (h2 : st.1 r.toNat = false) : vis1 ok st r = (fun k => if k = r.toNat then true else st.1 k, st.2 ++ [r]) := by
  unfold vis1; rw [if_pos (by simp [h, h2])]
theorem vis1_mono {ok : Int → Bool} (st : (Nat → Bool) × List Int) (r : Int) {k : Nat} (h : st.1 k = true) : (vis1 ok st r).1 k = true := by
  unfold vis1; split
  · simp only; split <;> simp [h]
  · exact h
theorem visL_mono {ok : Int → Bool} (rs : List Int) : ∀ (st : (Nat → Bool) × List Int) {k : Nat}, st.1 k = true → (visL ok st rs).1 k = true := by
  induction rs with
  | nil => intro st k h; exact h
  | cons r rs ih => intro st k h; exact ih _ (vis1_mono st r h)
theorem visL_has {ok : Int → Bool} (rs : List Int) : ∀ (st : (Nat → Bool) × List Int), ∀ r ∈ rs, ok r = true → (visL ok st rs).1 r.toNat = true := by
  induction rs with
  | nil => intro st r hr; simp at hr
  | cons r rs ih =>
    intro st r' hr ho
    rcases List.mem_cons.1 hr with rfl | hr
    · refine visL_mono rs _ ?_
      unfold vis1
      split
      · simp
      · next h => simp [ho] at h; exact h
    · exact ih _ r' hr ho
/-- What is met afterwards was met, or is one of these numbers. -/
theorem visL_only {ok : Int → Bool} (rs : List Int) : ∀ (st : (Nat → Bool) × List Int) {k : Nat}, (visL ok st rs).1 k = true → st.1 k = true ∨ ∃ r ∈ rs, ok r = true ∧ r.toNat = k := by
  induction rs with
  | nil => intro st k h; exact .inl h
  | cons r rs ih =>
    intro st k h
    rcases ih _ h with h1 | ⟨r', hr', ho, hk⟩
    · unfold vis1 at h1
      split at h1
      · next hc =>
        simp only at h1
        split at h1
        · next hk => simp at hc; exact .inr ⟨r, by simp, hc.1, hk.symm⟩
        · exact .inl h1
      · exact .inl h1
    · exact .inr ⟨r', by simp [hr'], ho, hk⟩
/-- What waits afterwards waited, or is a number that was let through and is met now. -/
theorem visL_work {ok : Int → Bool} (rs : List Int) : ∀ (st : (Nat → Bool) × List Int), ∃ ns, (visL ok st rs).2 = st.2 ++ ns ∧ (∀ r ∈ ns, ok r = true ∧ r ∈ rs ∧ st.1 r.toNat = false) ∧ ∀ k, (visL ok st rs).1 k = true → st.1 k = true ∨ ∃ r ∈ ns, r.toNat = k := by
  induction rs with
  | nil => intro st; exact ⟨[], by simp [visL], by simp, fun k h => .inl h⟩
  | cons r rs ih =>
    intro st
    obtain ⟨ns, h1, h2, h3⟩ := ih (vis1 ok st r)
    by_cases hc : (ok r && !st.1 r.toNat) = true
    · simp at hc
      have e := vis1_yes hc.1 hc.2
      refine ⟨r :: ns, ?_, ?_, ?_⟩
      · show (visL ok (vis1 ok st r) rs).2 = _
        rw [h1, e]; simp
      · intro x hx
        rcases List.mem_cons.1 hx with rfl | hx
        · exact ⟨hc.1, by simp, hc.2⟩
        · obtain ⟨a, b, c⟩ := h2 x hx
          refine ⟨a, by simp [b], ?_⟩
          rw [e] at c
          simp only at c
          split at c
          · cases c
          · exact c
      · intro k hk
        rcases h3 k hk with h | ⟨x, hx, rfl⟩
        · rw [e] at h
          simp only at h
          split at h
          · next hk => exact .inr ⟨r, by simp, hk.symm⟩
          · exact .inl h
        · exact .inr ⟨x, by simp [hx], rfl⟩
    · have e : vis1 ok st r = st := by unfold vis1; rw [if_neg hc]
      refine ⟨ns, ?_, ?_, ?_⟩
      · show (visL ok (vis1 ok st r) rs).2 = _
        rw [h1, e]
      · intro x hx
        obtain ⟨a, b, c⟩ := h2 x hx
        exact ⟨a, by simp [b], by rw [e] at c; exact c⟩
      · intro k hk
        have hk' : (visL ok (vis1 ok st r) rs).1 k = true := hk
        rw [e] at h3 hk'
        exact h3 k hk'
/-- What holds while cells are met: wk waits. -/
structure CloI (rf : Nat → List Int) (ok : Int → Bool) (fr : List Int) (M : Nat → Bool) (wk : List Int) : Prop where
  sound : ∀ k, M k = true → Rch rf ok fr k
  met : ∀ r ∈ wk, ok r = true ∧ M r.toNat = true
  closed : ∀ k, M k = true → (∃ r ∈ wk, r.toNat = k) ∨ ∀ r ∈ rf k, ok r = true → M r.toNat = true
  start : ∀ r ∈ fr, ok r = true → M r.toNat = true
theorem CloI.init {rf : Nat → List Int} {ok : Int → Bool} {fr : List Int} : CloI rf ok fr (visL ok (fun _ => false, []) fr).1 (visL ok (fun _ => false, []) fr).2 := by
  obtain ⟨ns, h1, h2, h3⟩ := visL_work (ok := ok) fr (fun _ => false, [])
  refine ⟨fun k hk => ?_, fun r hr => ?_, fun k hk => ?_, fun r hr ho => visL_has fr _ r hr ho⟩
  · rcases visL_only fr _ hk with h | ⟨r, hr, ho, rfl⟩
    · cases h
    · exact .start hr ho
  · rw [h1] at hr
    have hn : r ∈ ns := by simpa using hr
    exact ⟨(h2 r hn).1, visL_has fr _ r (h2 r hn).2.1 (h2 r hn).1⟩
  · rcases h3 k hk with h | ⟨r, hr, rfl⟩
    · cases h
    · exact .inl ⟨r, by rw [h1]; simp [hr], rfl⟩
/-- One that waits is worked off: it is taken out, and what it refers to is met. -/
theorem CloI.step {rf : Nat → List Int} {ok : Int → Bool} {fr : List Int} {M : Nat → Bool} {wk wk' : List Int} {r : Int} (h : CloI rf ok fr M wk) (hw : ∀ x ∈ wk, x = r ∨ x ∈ wk') (hw2 : ∀ x ∈ wk', x ∈ wk) (hr : r ∈ wk) :
    CloI rf ok fr (visL ok (M, wk') (rf r.toNat)).1 (visL ok (M, wk') (rf r.toNat)).2 := by
  obtain ⟨ns, h1, h2, h3⟩ := visL_work (ok := ok) (rf r.toNat) (M, wk')
  refine ⟨fun k hk => ?_, fun x hx => ?_, fun k hk => ?_, fun x hx ho => visL_mono _ _ (h.start x hx ho)⟩
  · rcases visL_only _ _ hk with h4 | ⟨x, hx, ho, rfl⟩
    · exact h.sound k h4
    · exact .next (h.sound _ (h.met r hr).2) hx ho
  · rw [h1] at hx
    rcases List.mem_append.1 hx with hx | hx
    · exact ⟨(h.met x (hw2 x hx)).1, visL_mono _ _ (h.met x (hw2 x hx)).2⟩
    · exact ⟨(h2 x hx).1, visL_has _ _ x (h2 x hx).2.1 (h2 x hx).1⟩
  · rcases h3 k hk with h4 | ⟨x, hx, rfl⟩
    · rcases h.closed k h4 with ⟨x, hx, rfl⟩ | h5
      · rcases hw x hx with rfl | hx
        · exact .inr fun y hy ho => visL_has _ _ y hy ho
        · exact .inl ⟨x, by rw [h1]; simp [hx], rfl⟩
      · exact .inr fun y hy ho => visL_mono _ _ (h5 y hy ho)
    · exact .inl ⟨x, by rw [h1]; simp [hx], rfl⟩
/-- Nothing waits: exactly what can be reached is met. -/
theorem CloI.done {rf : Nat → List Int} {ok : Int → Bool} {fr : List Int} {M : Nat → Bool} (h : CloI rf ok fr M []) (k : Nat) : M k = true ↔ Rch rf ok fr k := by
  refine ⟨h.sound k, fun hr => ?_⟩
  induction hr with
  | start hr ho => exact h.start _ hr ho
  | next _ hr ho ih =>
    rcases h.closed _ ih with ⟨x, hx, -⟩ | h5
    · simp at hx
    · exact h5 _ hr ho
/-! ### How much is still to be done -/
def unmet (n : Nat) (M : Nat → Bool) : Nat := ((List.range n).filter fun k => !M k).length
theorem filter_imp {α : Type} {p q : α → Bool} (h : ∀ x, p x = true → q x = true) (l : List α) : (l.filter p).length ≤ (l.filter q).length := by
  induction l with
  | nil => simp
  | cons x l ih =>
    rw [List.filter_cons, List.filter_cons]
    rcases bool_ft (p x) with h1 | h1
    · rcases bool_ft (q x) with h2 | h2
      · simp [h1, h2]; exact ih
      · simp [h1, h2]; omega
    · simp [h1, h x h1]; exact ih
theorem filter_lt {α : Type} {p q : α → Bool} (h : ∀ x, p x = true → q x = true) {l : List α} {a : α} (ha : a ∈ l) (h1 : p a = false) (h2 : q a = true) : (l.filter p).length < (l.filter q).length := by
  induction l with
  | nil => simp at ha
  | cons x l ih =>
    have hle := filter_imp h l
    rw [List.filter_cons, List.filter_cons]
    rcases List.mem_cons.1 ha with rfl | ha
    · simp [h1, h2]; omega
    · have := ih ha
      rcases bool_ft (p x) with h3 | h3
      · rcases bool_ft (q x) with h4 | h4
        · simp [h3, h4]; exact this
        · simp [h3, h4]; omega
      · simp [h3, h x h3]; exact this
theorem vis1_mu {ok : Int → Bool} {n : Nat} (st : (Nat → Bool) × List Int) {r : Int} (hr : ok r = true → r.toNat < n) : unmet n (vis1 ok st r).1 + (vis1 ok st r).2.length ≤ unmet n st.1 + st.2.length := by
  by_cases hc : (ok r && !st.1 r.toNat) = true
  · simp at hc
    rw [vis1_yes hc.1 hc.2]
    have : unmet n (fun k => if k = r.toNat then true else st.1 k) < unmet n st.1 := by
      unfold unmet
      refine filter_lt (fun k hk => ?_) (a := r.toNat) (by simp [hr hc.1]) (by simp) (by simp [hc.2])
      simp only at hk
      split at hk
      · cases hk
      · exact hk
    simp only [List.length_append, List.length_singleton]; omega
  · have e : vis1 ok st r = st := by unfold vis1; rw [if_neg hc]
    rw [e]; omega
theorem visL_mu {ok : Int → Bool} {n : Nat} (rs : List Int) : ∀ st : (Nat → Bool) × List Int, (∀ r ∈ rs, ok r = true → r.toNat < n) → unmet n (visL ok st rs).1 + (visL ok st rs).2.length ≤ unmet n st.1 + st.2.length := by
  induction rs with
  | nil => intro st _; exact Nat.le_refl _
  | cons r rs ih => intro st h; exact Nat.le_trans (ih _ fun x hx => h x (by simp [hx])) (vis1_mu st (h r (by simp)))
theorem unmet_le (n : Nat) (M : Nat → Bool) : unmet n M ≤ n := by unfold unmet; exact Nat.le_trans (List.length_filter_le _ _) (by simp)
open Classical in
/-- The list of what can be reached. -/
noncomputable def rchL (n : Nat) (rf : Nat → List Int) (ok : Int → Bool) (fr : List Int) : List Bool := (List.range n).map fun k => decide (Rch rf ok fr k)
theorem rchL_len (n : Nat) (rf : Nat → List Int) (ok : Int → Bool) (fr : List Int) : (rchL n rf ok fr).length = n := by simp [rchL]
theorem rchL_at {n : Nat} {rf : Nat → List Int} {ok : Int → Bool} {fr : List Int} {k : Nat} (h : k < n) : (rchL n rf ok fr).getD k false = true ↔ Rch rf ok fr k := by simp [rchL, List.getD, h]
theorem rchL_of {n : Nat} {rf : Nat → List Int} {ok : Int → Bool} {fr : List Int} {M : Nat → Bool} {l : List Bool} (hl : l.length = n) (hM : ∀ k, l.getD k false = M k) (h : CloI rf ok fr M []) : l = rchL n rf ok fr := by
  apply List.ext_getElem?
  intro k
  by_cases hk : k < n
  · have h1 := hM k
    have h2 := h.done k
    have h3 := rchL_at (rf := rf) (ok := ok) (fr := fr) hk
    have e : l.getD k false = (rchL n rf ok fr).getD k false := by
      rw [Bool.eq_iff_iff, h1, h2, h3]
    have a : l[k]? = some (l.getD k false) := by rw [List.getD, List.getElem?_eq_getElem (by omega)]; rfl
    have b : (rchL n rf ok fr)[k]? = some ((rchL n rf ok fr).getD k false) := by rw [List.getD, List.getElem?_eq_getElem (by rw [rchL_len]; omega)]; rfl
    rw [a, b, e]
  · rw [List.getElem?_eq_none (by omega), List.getElem?_eq_none (by rw [rchL_len]; omega)]
end Go.Proofs.Ytkikeanpbffpkaa

/- Painted heaps under instructions and programs, as plain functions; that they stay valid. -/
namespace Go.Proofs.Ytkikeanpbffpkaa
set_option linter.unusedVariables false
set_option linter.unusedSimpArgs false
def notUsed (c : CellM) : Bool := !c.used
/-- The first cell that is not used, or the number of cells. -/
def freeAt (cs : List CellM) : Nat := match firstB notUsed cs with | some k => k | none => cs.length
theorem freeAt_none {cs : List CellM} (h : noneB notUsed cs cs.length) : freeAt cs = cs.length := by unfold freeAt; rw [firstB_none h]
theorem freeAt_some {cs : List CellM} {k : Nat} {c : CellM} (h : noneB notUsed cs k) (hc : cs[k]? = some c) (hu : c.used = false) : freeAt cs = k := by unfold freeAt; rw [firstB_some h hc (by simp [notUsed, hu])]
theorem freeAt_le (cs : List CellM) : freeAt cs ≤ cs.length := by
  unfold freeAt
  split
  · rename_i k hk
    obtain ⟨x, hx, -⟩ := firstB_at hk
    have := (List.getElem?_eq_some_iff.1 hx).1
    omega
  · exact Nat.le_refl _
theorem freeAt_free {cs : List CellM} {c : CellM} (hc : cs[freeAt cs]? = some c) : c.used = false := by
  unfold freeAt at hc
  split at hc
  · rename_i k hk
    obtain ⟨x, hx, hp, -⟩ := firstB_at hk
    rw [hx] at hc
    injection hc with hc
    subst hc
    simpa [notUsed] using hp
  · simp at hc
def canF (h : HeapM) (o : CmdM) : Bool := possO h o && !(decide (o.op = 1) && decide (freeAt h.cells = 40))
theorem exec_len (h : HeapM) (o : CmdM) (at_ : Nat) : (execM h o at_).cells.length = if o.op = 1 ∧ at_ = h.cells.length then h.cells.length + 1 else h.cells.length := by
  unfold execM putCell setRef setData
  by_cases h1 : o.op = 1
  · rw [if_pos h1]
    by_cases h2 : at_ = h.cells.length <;> simp [h1, h2]
  · have h9 : ¬ (o.op = 1 ∧ at_ = h.cells.length) := fun a => h1 a.1
    rw [if_neg h1, if_neg h9]
    clear h9
    repeat' split
    all_goals simp
/-! ### Instructions on painted heaps -/
/-! ### Programs on painted heaps -/
end Go.Proofs.Ytkikeanpbffpkaa

/- Sweeping what cannot be reached: CollectSweep, StepSweep, RunSweep, CollectAged, as plain functions. -/
namespace Go.Proofs.Ytkikeanpbffpkaa
set_option linter.unusedVariables false
set_option linter.unusedSimpArgs false
def nonneg (r : Int) : Bool := decide (0 ≤ r)
noncomputable def reachM (h : HeapM) : List Bool := rchL h.cells.length (refsAt h) nonneg h.roots
noncomputable def reachableM (h : HeapM) : List Bool := if validM h then reachM h else []
theorem reachM_len (h : HeapM) : (reachM h).length = h.cells.length := rchL_len _ _ _ _
theorem Rch.congr {rf : Nat → List Int} {ok ok' : Int → Bool} {fr : List Int} (h1 : ∀ r ∈ fr, ok r = ok' r) (h2 : ∀ k, ∀ r ∈ rf k, ok r = ok' r) {k : Nat} (h : Rch rf ok fr k) : Rch rf ok' fr k := by
  induction h with
  | start hr ho => exact .start hr (by rw [← h1 _ hr]; exact ho)
  | next _ hr ho ih => exact .next ih hr (by rw [← h2 _ _ hr]; exact ho)
theorem refsAt_leads {h : HeapM} (hv : validM h = true) : ∀ k, ∀ r ∈ refsAt h k, leadsM h.cells r = true := by
  intro k r hr
  unfold refsAt at hr
  cases hc : h.cells[k]? with
  | none => rw [hc] at hr; simp at hr
  | some c => rw [hc] at hr; exact (validM_leads hv).1 c (List.mem_of_getElem? hc) r hr
theorem reach_leads {h : HeapM} (hv : validM h = true) {k : Nat} (hk : Rch (refsAt h) nonneg h.roots k) : ∃ c, h.cells[k]? = some c ∧ c.used = true := by
  have key : ∀ r : Int, leadsM h.cells r = true → nonneg r = true → ∃ c, h.cells[r.toNat]? = some c ∧ c.used = true := fun r h1 h2 => valid_used h1 (by simpa [nonneg] using h2)
  cases hk with
  | start hr ho => exact key _ ((validM_leads hv).2 _ hr) ho
  | next _ hr ho => exact key _ (refsAt_leads hv _ _ hr) ho
theorem reach_iff {h : HeapM} (hv : validM h = true) (k : Nat) : (reachM h).getD k false = true ↔ Rch (refsAt h) nonneg h.roots k := by
  by_cases hk : k < h.cells.length
  · exact rchL_at hk
  · refine ⟨fun h1 => ?_, fun h1 => ?_⟩
    · rw [getD_len (by rw [reachM_len]; omega)] at h1; cases h1
    · obtain ⟨c, hc, -⟩ := reach_leads hv h1
      have := (List.getElem?_eq_some_iff.1 hc).1
      omega
theorem reach_out {h : HeapM} (hv : validM h = true) : outB h (reachM h) = false := by
  have key : ∀ r : Int, (nonneg r = true → Rch (refsAt h) nonneg h.roots r.toNat) → outRef h (reachM h) r = false := by
    intro r hr
    unfold outRef
    by_cases h0 : 0 ≤ r
    · have h1 := (reach_iff hv r.toNat).2 (hr (by simp [nonneg, h0]))
      rw [h1]; simp
    · simp [h0]
  unfold outB
  simp only [Bool.or_eq_false_iff, List.any_eq_false, List.mem_range, Bool.not_eq_true]
  refine ⟨fun r hr => key r fun ho => .start hr ho, fun i hi => ?_⟩
  unfold outAt
  rcases bool_ft ((reachM h).getD i false) with h1 | h1
  · simp only [h1, Bool.false_and]
  · simp only [h1, Bool.true_and, List.any_eq_false, Bool.not_eq_true]
    exact fun r hr => key r fun ho => .next ((reach_iff hv i).1 h1) hr ho
theorem nots_getD {l : List Bool} {i : Nat} (h : i < l.length) : (nots l).getD i false = !l.getD i false := by
  simp [nots, List.getD, h]
theorem drop_refs {h : HeapM} {marks : List Bool} (hl : marks.length = h.cells.length) (k : Nat) : refsAt (dropM h (nots marks)) k = if marks.getD k false then refsAt h k else [] := by
  by_cases hk : k < h.cells.length
  · have hc := List.getElem?_eq_getElem hk
    have hd : (nots marks)[k]? = some (!marks.getD k false) := nots_at (by rw [List.getD, List.getElem?_eq_getElem (by omega)]; rfl)
    have e := drop_at hc hd
    have e2 : refsAt (dropM h (nots marks)) k = (if (!marks.getD k false) = true then freeCell else h.cells[k]).refs := refsAt_of (h := dropM h (nots marks)) e
    rw [e2, refsAt_of hc]
    rcases bool_ft (marks.getD k false) with h1 | h1
    · rw [h1]; simp [freeCell]
    · rw [h1]; simp
  · rw [getD_len (by omega), if_neg (by simp)]
    have : (dropM h (nots marks)).cells[k]? = none := List.getElem?_eq_none (by show (dropCs h.cells (nots marks)).length ≤ k; rw [dropCs_len (by rw [nots_len]; exact hl)]; omega)
    unfold refsAt; rw [this]
/-! ### CollectSweep, StepSweep, RunSweep -/
noncomputable def collectSweepM (h : HeapM) : HeapM × Int := sweepM h (reachableM h)
theorem collectSweep_ok {h : HeapM} (hv : validM h = true) : collectSweepM h = (dropM h (nots (reachM h)), (freedN h.cells (nots (reachM h)) : Int)) := by
  unfold collectSweepM reachableM; rw [if_pos hv]; exact sweep_yes hv (reachM_len h) (reach_out hv)
theorem collectSweep_valid {h : HeapM} (hv : validM h = true) : validM (collectSweepM h).1 = true := by
  rw [collectSweep_ok hv]; show validM (dropM h (nots (reachM h))) = true
  rw [sweep_out hv (reachM_len h), reach_out hv]; rfl
theorem poss_new {h : HeapM} {o : CmdM} (h1 : o.op = 1) : possO h o = true := by unfold possO; simp [h1]
/-! ### CollectAged -/
end Go.Proofs.Ytkikeanpbffpkaa

/- The order in which cells are met; moved heaps; programs that move, as plain functions. -/
namespace Go.Proofs.Ytkikeanpbffpkaa
set_option linter.unusedVariables false
set_option linter.unusedSimpArgs false
/-- A round: what cell number i of those that were met refers to is met. -/
def ordStep (rf : Nat → List Int) (ok : Int → Bool) (i : Nat) (st : (Nat → Bool) × List Int) : (Nat → Bool) × List Int := match st.2[i]? with | some r => visL ok st (rf r.toNat) | none => st
def ordIt (rf : Nat → List Int) (ok : Int → Bool) (fr : List Int) : Nat → (Nat → Bool) × List Int
  | 0 => visL ok (fun _ => false, []) fr
  | i + 1 => ordStep rf ok i (ordIt rf ok fr i)
theorem ordIt_next {rf : Nat → List Int} {ok : Int → Bool} {fr : List Int} {i : Nat} {r : Int} (h : (ordIt rf ok fr i).2[i]? = some r) : ordIt rf ok fr (i + 1) = visL ok (ordIt rf ok fr i) (rf r.toNat) := by
  show ordStep rf ok i (ordIt rf ok fr i) = _
  unfold ordStep; rw [h]
theorem ordIt_stay {rf : Nat → List Int} {ok : Int → Bool} {fr : List Int} {i : Nat} (h : (ordIt rf ok fr i).2.length ≤ i) : ∀ d, ordIt rf ok fr (i + d) = ordIt rf ok fr i := by
  intro d
  induction d with
  | zero => rfl
  | succ d ih =>
    show ordStep rf ok (i + d) (ordIt rf ok fr (i + d)) = _
    rw [ih]; unfold ordStep
    rw [List.getElem?_eq_none (by omega)]
/-- What is met is listed, once each. -/
structure OrdI (ok : Int → Bool) (n : Nat) (st : (Nat → Bool) × List Int) : Prop where
  le : unmet n st.1 + st.2.length ≤ n
  met : ∀ r ∈ st.2, ok r = true ∧ st.1 r.toNat = true
  nd : st.2.Pairwise fun a b => a.toNat ≠ b.toNat
theorem OrdI.vis1 {ok : Int → Bool} {n : Nat} {st : (Nat → Bool) × List Int} (h : OrdI ok n st) {r : Int} (hr : ok r = true → r.toNat < n) : OrdI ok n (vis1 ok st r) := by
  by_cases hc : (ok r && !st.1 r.toNat) = true
  · have hmu := vis1_mu st hr
    simp at hc
    have e := vis1_yes hc.1 hc.2
    refine ⟨Nat.le_trans hmu h.le, ?_, ?_⟩
    · intro x hx
      rw [e] at hx
      rcases List.mem_append.1 hx with hx | hx
      · exact ⟨(h.met x hx).1, vis1_mono st r (h.met x hx).2⟩
      · obtain rfl : x = r := by simpa using hx
        exact ⟨hc.1, by rw [e]; simp⟩
    · rw [e]
      refine List.pairwise_append.2 ⟨h.nd, by simp, fun a ha b hb hk => ?_⟩
      obtain rfl : b = r := by simpa using hb
      have h1 := (h.met a ha).2
      rw [hk, hc.2] at h1; cases h1
  · have e : Proofs.Ytkikeanpbffpkaa.vis1 ok st r = st := by unfold Proofs.Ytkikeanpbffpkaa.vis1; rw [if_neg hc]
    rw [e]; exact h
theorem OrdI.visL {ok : Int → Bool} {n : Nat} (rs : List Int) : ∀ {st : (Nat → Bool) × List Int}, OrdI ok n st → (∀ r ∈ rs, ok r = true → r.toNat < n) → OrdI ok n (visL ok st rs) := by
  induction rs with
  | nil => intro st h _; exact h
  | cons r rs ih => intro st h hr; exact ih (h.vis1 (hr r (by simp))) fun x hx => hr x (by simp [hx])
theorem OrdI.start (ok : Int → Bool) (n : Nat) : OrdI ok n (fun _ => false, []) := ⟨by have := unmet_le n (fun _ => false); simpa using this, by simp, by simp⟩
theorem ordIt_ok {rf : Nat → List Int} {ok : Int → Bool} {fr : List Int} {n : Nat} (h1 : ∀ r ∈ fr, ok r = true → r.toNat < n) (h2 : ∀ k, ∀ r ∈ rf k, ok r = true → r.toNat < n) : ∀ i, OrdI ok n (ordIt rf ok fr i)
  | 0 => (OrdI.start ok n).visL fr h1
  | i + 1 => by
    show OrdI ok n (ordStep rf ok i (ordIt rf ok fr i))
    unfold ordStep
    split
    · exact (ordIt_ok h1 h2 i).visL _ (h2 _)
    · exact ordIt_ok h1 h2 i
def orderM (h : HeapM) : List Int := (ordIt (refsAt h) nonneg h.roots h.cells.length).2
theorem nonneg_lt {h : HeapM} (hv : validM h = true) {r : Int} (hr : leadsM h.cells r = true) (h0 : nonneg r = true) : r.toNat < h.cells.length := by
  have h1 := leadsM_lt hr
  have h2 : 0 ≤ r := by simpa [nonneg] using h0
  omega
theorem ord_ok {h : HeapM} (hv : validM h = true) (i : Nat) : OrdI nonneg h.cells.length (ordIt (refsAt h) nonneg h.roots i) :=
  ordIt_ok (fun r hr h0 => nonneg_lt hv ((validM_leads hv).2 r hr) h0) (fun k r hr h0 => nonneg_lt hv (refsAt_leads hv k r hr) h0) i
theorem ord_end {h : HeapM} (hv : validM h = true) {i : Nat} (hi : (ordIt (refsAt h) nonneg h.roots i).2.length = i) : (ordIt (refsAt h) nonneg h.roots i).2 = orderM h := by
  have hle : i ≤ h.cells.length := by have := (ord_ok hv i).le; omega
  unfold orderM
  have := ordIt_stay (rf := refsAt h) (ok := nonneg) (fr := h.roots) (i := i) (by omega) (h.cells.length - i)
  rw [show i + (h.cells.length - i) = h.cells.length by omega] at this
  rw [this]
/-- Numbers of cells of a heap, each once. -/
structure OrdOk (h : HeapM) (order : List Int) : Prop where
  lt : ∀ r ∈ order, 0 ≤ r ∧ r < h.cells.length
  nd : order.Pairwise fun a b => a ≠ b
  len : order.length ≤ h.cells.length
theorem order_ok {h : HeapM} (hv : validM h = true) : OrdOk h (orderM h) := by
  have hi := ord_ok hv h.cells.length
  refine ⟨fun r hr => ?_, hi.nd.imp fun hab e => hab (by rw [e]), by have := hi.le; unfold orderM; omega⟩
  have h1 := hi.met r hr
  have h0 : 0 ≤ r := by simpa [nonneg] using h1.1
  refine ⟨h0, ?_⟩
  -- a number that is met lies in the heap
  have key : ∀ i, ∀ r ∈ (ordIt (refsAt h) nonneg h.roots i).2, leadsM h.cells r = true := by
    intro i
    induction i with
    | zero =>
      intro r hr
      obtain ⟨ns, e, h2, -⟩ := visL_work (ok := nonneg) h.roots (fun _ => false, [])
      have hr2 : r ∈ (visL nonneg (fun _ => false, []) h.roots).2 := hr
      rw [e] at hr2
      exact (validM_leads hv).2 r (h2 r (by simpa using hr2)).2.1
    | succ i ih =>
      intro r hr
      have hr2 : r ∈ (ordStep (refsAt h) nonneg i (ordIt (refsAt h) nonneg h.roots i)).2 := hr
      unfold ordStep at hr2
      split at hr2
      · next x hx =>
        obtain ⟨ns, e, h2, -⟩ := visL_work (ok := nonneg) (refsAt h x.toNat) (ordIt (refsAt h) nonneg h.roots i)
        rw [e] at hr2
        rcases List.mem_append.1 hr2 with h3 | h3
        · exact ih r h3
        · exact refsAt_leads hv _ r (h2 r h3).2.1
      · exact ih r hr2
  exact leadsM_lt (key _ r hr)
/-! ### New numbers -/
def isR (r x : Int) : Bool := x == r
/-- The place of a number in an order, or -1. -/
def nameM (order : List Int) (r : Int) : Int := match firstB (isR r) order with | some k => (k : Int) | none => -1
theorem nameM_some {order : List Int} {r : Int} {k : Nat} (h : noneB (isR r) order k) (hk : order[k]? = some r) : nameM order r = k := by unfold nameM; rw [firstB_some h hk (by simp [isR])]
theorem nameM_none {order : List Int} {r : Int} (h : noneB (isR r) order order.length) : nameM order r = -1 := by unfold nameM; rw [firstB_none h]
theorem nameM_out {order : List Int} {r : Int} (h : r ∉ order) : nameM order r = -1 := nameM_none fun i hi y hy => by
  unfold isR; simp; intro e; subst e; exact h (List.mem_of_getElem? hy)
theorem nameM_snoc {order : List Int} {r : Int} {k : Nat} {x : Int} (hx : order[k]? = some x) (hnd : order.Pairwise fun a b => a ≠ b) : nameM (order.take (k + 1)) r = if x = r then (k : Int) else nameM (order.take k) r := by
  have hlt := (List.getElem?_eq_some_iff.1 hx).1
  have hx2 := (List.getElem?_eq_some_iff.1 hx).2
  have hp := List.pairwise_iff_getElem.1 hnd
  by_cases e : x = r
  · subst e
    rw [if_pos rfl]
    refine nameM_some (fun i hi y hy => ?_) (by rw [List.getElem?_take_of_lt (by omega)]; exact hx)
    rw [List.getElem?_take_of_lt (by omega)] at hy
    have hy2 := (List.getElem?_eq_some_iff.1 hy)
    obtain ⟨hil, rfl⟩ := hy2
    have := hp i k hil hlt hi
    rw [hx2] at this
    unfold isR; simpa using this
  · rw [if_neg e, take_snoc_of hx]
    unfold nameM
    have : firstB (isR r) (order.take k ++ [x]) = firstB (isR r) (order.take k) := by
      generalize order.take k = l
      induction l with
      | nil => simp [firstB, isR, e]
      | cons y l ih =>
        simp only [List.cons_append, firstB]
        split
        · rfl
        · rw [ih]
    rw [this]
def namesM (order : List Int) (n : Nat) (j : Nat) : List Int := (List.range n).map fun k : Nat => nameM (order.take j) (k : Int)
theorem namesM_len (order : List Int) (n j : Nat) : (namesM order n j).length = n := by simp [namesM]
theorem namesM_at {order : List Int} {n j k : Nat} (h : k < n) : (namesM order n j)[k]? = some (nameM (order.take j) (k : Int)) := by simp [namesM, h]
theorem namesM_zero (order : List Int) (n : Nat) : namesM order n 0 = List.replicate n (-1) := by
  apply List.ext_getElem? ; intro k
  by_cases hk : k < n
  · rw [namesM_at hk]; simp [hk, nameM, firstB]
  · simp [namesM, hk]
theorem namesM_succ {order : List Int} {n j : Nat} {x : Int} (hx : order[j]? = some x) (h0 : 0 ≤ x) (hnd : order.Pairwise fun a b => a ≠ b) : namesM order n (j + 1) = (namesM order n j).set x.toNat (j : Int) := by
  apply List.ext_getElem? ; intro k
  by_cases hk : k < n
  · rw [namesM_at hk, nameM_snoc hx hnd, List.getElem?_set]
    by_cases e : x = (k : Int)
    · have e2 : x.toNat = k := by omega
      rw [if_pos e, if_pos e2, if_pos (by rw [namesM_len]; omega)]
    · have e2 : ¬ x.toNat = k := by omega
      rw [if_neg e, if_neg e2, namesM_at hk]
  · rw [List.getElem?_eq_none (by rw [namesM_len]; omega), List.getElem?_eq_none (by simp [namesM_len]; omega)]
def newName (order : List Int) (n : Nat) (r : Int) : Int := if 0 ≤ r then ((namesM order n order.length)[r.toNat]?).getD (-1) else r
/-- References of a valid heap: by the table, or by looking for them. -/
theorem newName_eq {h : HeapM} {order : List Int} (ho : OrdOk h order) {r : Int} (hr : leadsM h.cells r = true) : newName order h.cells.length r = nameM order r := by
  unfold newName
  by_cases h0 : 0 ≤ r
  · rw [if_pos h0, namesM_at (by have := leadsM_lt hr; omega), List.take_length]
    simp [Int.toNat_of_nonneg h0]
  · rw [if_neg h0]
    rcases leadsM_iff.1 hr with rfl | ⟨h1, -⟩
    · exact (nameM_out fun hm => by have := (ho.lt _ hm).1; omega).symm
    · omega
/-! ### Moved heaps -/
/-- The cells that can be reached, in ascending order: those below j. -/
noncomputable def slideN (h : HeapM) (j : Nat) : List Int := ((List.range j).filter fun k => (reachM h).getD k false).map fun k : Nat => (k : Int)
noncomputable def slideM (h : HeapM) : List Int := slideN h h.cells.length
theorem slideN_len (h : HeapM) (j : Nat) : (slideN h j).length ≤ j := by
  unfold slideN; rw [List.length_map]; exact Nat.le_trans (List.length_filter_le _ _) (by simp)
theorem slide_ok (h : HeapM) : OrdOk h (slideM h) := by
  refine ⟨fun r hr => ?_, ?_, slideN_len h _⟩
  · unfold slideM slideN at hr
    simp only [List.mem_map, List.mem_filter, List.mem_range] at hr
    obtain ⟨k, ⟨hk, -⟩, rfl⟩ := hr
    omega
  · unfold slideM slideN
    rw [List.pairwise_map]
    refine (List.Pairwise.filter _ List.nodup_range).imp fun hab e => hab (by omega)
end Go.Proofs.Ytkikeanpbffpkaa

/- Generations: instructions, young collections, programs, as plain functions. -/
namespace Go.Proofs.Ytkikeanpbffpkaa
set_option linter.unusedVariables false
set_option linter.unusedSimpArgs false
/-! ### Young collections -/
/-- What holds while the reference collects: K is kept, lst.drop i is still to be looked at. -/
structure YouI (rf : Nat → List Int) (old : Nat → Bool) (ok : Int → Bool) (fr : List Int) (K : Nat → Bool) (lst : List Int) (i : Nat) : Prop where
  base : ∀ k, old k = true → K k = true
  sound : ∀ k, K k = true → old k = true ∨ Rch rf ok fr k
  list : ∀ r ∈ lst, ok r = true ∧ Rch rf ok fr r.toNat
  closed : ∀ k, K k = true → old k = false → ∀ r ∈ rf k, ok r = true → K r.toNat = true ∨ r ∈ lst.drop i
  start : ∀ r ∈ fr, ok r = true → K r.toNat = true ∨ r ∈ lst.drop i
def newsM (K : Nat → Bool) (rs : List Int) : List Int := rs.filter fun m => nonneg m && !K m.toNat
def okRef (ok : Int → Bool) (old : Nat → Bool) : Prop := ∀ r, ok r = (nonneg r && !old r.toNat)
theorem YouI.init {rf : Nat → List Int} {old : Nat → Bool} {ok : Int → Bool} {fr : List Int} : YouI rf old ok fr old (fr.filter ok) 0 := by
  refine ⟨fun k h => h, fun k h => .inl h, fun r hr => ?_, fun k h1 h2 => (by rw [h1] at h2; cases h2), fun r hr ho => .inr (by simp [hr, ho])⟩
  have h2 := List.mem_filter.1 hr
  exact ⟨h2.2, .start h2.1 h2.2⟩
theorem YouI.skip {rf : Nat → List Int} {old : Nat → Bool} {ok : Int → Bool} {fr : List Int} {K : Nat → Bool} {lst : List Int} {i : Nat} (h : YouI rf old ok fr K lst i) {r : Int} (hr : lst[i]? = some r) (hK : K r.toNat = true) : YouI rf old ok fr K lst (i + 1) := by
  have hd := drop_cons_of hr
  have key : ∀ x, x ∈ lst.drop i → K x.toNat = true ∨ x ∈ lst.drop (i + 1) := fun x hx => by
    rw [hd] at hx
    rcases List.mem_cons.1 hx with rfl | hx
    · exact .inl hK
    · exact .inr hx
  refine ⟨h.base, h.sound, h.list, fun k h1 h2 x hx ho => ?_, fun x hx ho => ?_⟩
  · rcases h.closed k h1 h2 x hx ho with h3 | h3
    · exact .inl h3
    · exact key x h3
  · rcases h.start x hx ho with h3 | h3
    · exact .inl h3
    · exact key x h3
def setK (K : Nat → Bool) (n : Nat) : Nat → Bool := fun k => if k = n then true else K k
theorem YouI.take {rf : Nat → List Int} {old : Nat → Bool} {ok : Int → Bool} {fr : List Int} {K : Nat → Bool} {lst : List Int} {i : Nat} (h : YouI rf old ok fr K lst i) (hok : okRef ok old) {r : Int} (hr : lst[i]? = some r) (hK : K r.toNat = false) : YouI rf old ok fr (setK K r.toNat) (lst ++ newsM (setK K r.toNat) (rf r.toNat)) (i + 1) := by
  have hd := drop_cons_of hr
  have hi := (List.getElem?_eq_some_iff.1 hr).1
  have hrl := h.list r (List.mem_of_getElem? hr)
  have mono : ∀ k, K k = true → setK K r.toNat k = true := fun k hk => by unfold setK; split <;> simp [hk]
  have key : ∀ x, x ∈ lst.drop i → setK K r.toNat x.toNat = true ∨ x ∈ (lst ++ newsM (setK K r.toNat) (rf r.toNat)).drop (i + 1) := fun x hx => by
    rw [hd] at hx
    rcases List.mem_cons.1 hx with rfl | hx
    · exact .inl (by simp [setK])
    · exact .inr (by rw [List.drop_append_of_le_length (by omega)]; simp [hx])
  have hnew : ∀ x ∈ newsM (setK K r.toNat) (rf r.toNat), ok x = true ∧ x ∈ rf r.toNat := fun x hx => by
    obtain ⟨h1, h2⟩ := List.mem_filter.1 hx
    simp at h2
    refine ⟨?_, h1⟩
    rw [hok x, h2.1]
    rcases bool_ft (old x.toNat) with e | e
    · simp [e]
    · have := mono _ (h.base _ e); rw [h2.2] at this; cases this
  refine ⟨fun k hk => mono k (h.base k hk), fun k hk => ?_, fun x hx => ?_, fun k h1 h2 x hx ho => ?_, fun x hx ho => ?_⟩
  · unfold setK at hk
    split at hk
    · next e => subst e; exact .inr hrl.2
    · exact h.sound k hk
  · rcases List.mem_append.1 hx with hx | hx
    · exact h.list x hx
    · obtain ⟨h1, h2⟩ := hnew x hx
      exact ⟨h1, .next hrl.2 h2 h1⟩
  · by_cases e : k = r.toNat
    · subst e
      rcases bool_ft (setK K r.toNat x.toNat) with e2 | e2
      · refine .inr ?_
        rw [List.drop_append_of_le_length (by omega)]
        refine List.mem_append.2 (.inr (List.mem_filter.2 ⟨hx, ?_⟩))
        have := hok x; rw [ho] at this
        have h3 : (nonneg x && !old x.toNat) = true := this.symm
        simp at h3
        simp [h3.1, e2]
      · exact .inl e2
    · have h3 : K k = true := by unfold setK at h1; rw [if_neg e] at h1; exact h1
      rcases h.closed k h3 h2 x hx ho with h4 | h4
      · exact .inl (mono _ h4)
      · exact key x h4
  · rcases h.start x hx ho with h4 | h4
    · exact .inl (mono _ h4)
    · exact key x h4
theorem YouI.done {rf : Nat → List Int} {old : Nat → Bool} {ok : Int → Bool} {fr : List Int} {K : Nat → Bool} {lst : List Int} {i : Nat} (h : YouI rf old ok fr K lst i) (hok : okRef ok old) (hi : lst.length ≤ i) (k : Nat) : K k = true ↔ old k = true ∨ Rch rf ok fr k := by
  have hd : lst.drop i = [] := List.drop_eq_nil_of_le hi
  refine ⟨h.sound k, fun h1 => ?_⟩
  rcases h1 with h1 | h1
  · exact h.base k h1
  · induction h1 with
    | start hr ho =>
      rcases h.start _ hr ho with h2 | h2
      · exact h2
      · rw [hd] at h2; simp at h2
    | next hk hr ho ih =>
      rename_i k r
      rcases bool_ft (old k) with e | e
      · rcases h.closed _ ih e _ hr ho with h2 | h2
        · exact h2
        · rw [hd] at h2; simp at h2
      · -- an old cell that is reached: it was let through, so it is not old
        exfalso
        have : ∀ j, Rch rf ok fr j → old j = false := fun j hj => by
          cases hj with
          | start _ ho => have := hok ‹_›; rw [ho] at this; have h3 : (nonneg _ && !old _) = true := this.symm; simp at h3; exact h3.2
          | next _ _ ho => have := hok ‹_›; rw [ho] at this; have h3 : (nonneg _ && !old _) = true := this.symm; simp at h3; exact h3.2
        rw [this _ hk] at e; cases e
/-! ### Programs -/
end Go.Proofs.Ytkikeanpbffpkaa
