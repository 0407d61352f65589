/- Snapshots, marking and programs step by step, as plain functions, with their small laws. -/
import Derived.Test.YtdkhpmlimnfgpaaData
namespace Go.Proofs.Ytdkhpmlimnfgpaa
/-- No element before k meets p. -/
def noneB {α : Type} (p : α → Bool) (l : List α) (k : Nat) : Prop := ∀ i, i < k → ∀ y, l[i]? = some y → p y = false
theorem noneB_zero {α : Type} (p : α → Bool) (l : List α) : noneB p l 0 := fun i h => by omega
theorem noneB_succ {α : Type} {p : α → Bool} {l : List α} {k : Nat} {x : α} (h : noneB p l k) (hx : l[k]? = some x) (hp : p x = false) : noneB p l (k + 1) := by
  intro i hi y hy
  rcases Nat.lt_or_ge i k with h1 | h1
  · exact h i h1 y hy
  · obtain rfl : i = k := by omega
    rw [hx] at hy; injection hy with hy; rw [← hy]; exact hp
def firstB {α : Type} (p : α → Bool) : List α → Option Nat
  | [] => none
  | x :: xs => if p x then some 0 else (firstB p xs).map (· + 1)
theorem firstB_some {α : Type} {p : α → Bool} : ∀ {l : List α} {k : Nat} {x : α}, noneB p l k → l[k]? = some x → p x = true → firstB p l = some k
  | [], k, x, _, hx, _ => by simp at hx
  | a :: l, 0, x, h, hx, hp => by simp at hx; subst hx; simp [firstB, hp]
  | a :: l, k + 1, x, h, hx, hp => by
    have h0 : p a = false := h 0 (by omega) a (by simp)
    have h1 : firstB p l = some k := firstB_some (fun i hi y hy => h (i + 1) (by omega) y (by simpa using hy)) (by simpa using hx) hp
    simp [firstB, h0, h1]
theorem firstB_none {α : Type} {p : α → Bool} : ∀ {l : List α}, noneB p l l.length → firstB p l = none
  | [], _ => rfl
  | a :: l, h => by
    have h0 : p a = false := h 0 (by simp) a (by simp)
    have h1 : firstB p l = none := firstB_none (fun i hi y hy => h (i + 1) (by simp; omega) y (by simpa using hy))
    simp [firstB, h0, h1]
theorem firstB_at {α : Type} {p : α → Bool} : ∀ {l : List α} {k : Nat}, firstB p l = some k → ∃ x, l[k]? = some x ∧ p x = true ∧ noneB p l k
  | [], k, h => by simp [firstB] at h
  | a :: l, k, h => by
    cases h0 : p a
    · simp only [firstB, h0, Bool.false_eq_true, if_false, Option.map_eq_some_iff] at h
      obtain ⟨j, hj, rfl⟩ := h
      obtain ⟨x, hx, hp, hn⟩ := firstB_at hj
      refine ⟨x, by simpa using hx, hp, fun i hi y hy => ?_⟩
      cases i with
      | zero => simp at hy; rw [← hy]; exact h0
      | succ i => exact hn i (by omega) y (by simpa using hy)
    · simp only [firstB, h0, if_true, Option.some.injEq] at h
      subst h
      exact ⟨a, by simp, h0, noneB_zero _ _⟩
theorem firstB_none_all {α : Type} {p : α → Bool} {l : List α} (h : firstB p l = none) : ∀ x ∈ l, p x = false := by
  induction l with
  | nil => intro x hx; cases hx
  | cons a l ih =>
    cases h0 : p a
    · simp only [firstB, h0, Bool.false_eq_true, if_false, Option.map_eq_none_iff] at h
      intro x hx
      rcases List.mem_cons.1 hx with rfl | hx
      · exact h0
      · exact ih h x hx
    · simp [firstB, h0] at h

theorem valid_small {h : HeapM} (hv : validM h = true) : h.cells.length ≤ 40 ∧ h.roots.length = 4 ∧ ∀ d ∈ h.cells, d.refs.length ≤ 3 := by
  refine ⟨(validM_len hv).1, (validM_len hv).2, fun d hd => ?_⟩
  unfold validM at hv
  simp only [Bool.and_eq_true] at hv
  have h1 := List.all_eq_true.1 hv.1 d hd
  unfold cellOkM at h1
  split at h1
  · simp only [Bool.and_eq_true, decide_eq_true_eq] at h1
    exact h1.2.2
  · simp only [Bool.and_eq_true, decide_eq_true_eq] at h1
    omega
theorem paintM_parts {p : PaintM} (h : paintM p = true) : validM p.store = true ∧ p.colours.length = p.store.cells.length := by
  unfold paintM at h
  simp only [Bool.and_eq_true, decide_eq_true_eq] at h
  exact h.1.1
theorem paint_small {p : PaintM} (h : paintM p = true) : p.store.cells.length ≤ 40 ∧ p.store.roots.length ≤ 4 ∧ (∀ d ∈ p.store.cells, d.refs.length ≤ 3) ∧ p.colours.length ≤ 40 ∧ (∀ r ∈ p.store.roots, r < p.colours.length) ∧ (∀ c ∈ p.store.cells, ∀ r ∈ c.refs, r < p.colours.length) := by
  obtain ⟨h1, h2⟩ := paintM_parts h
  obtain ⟨a, b, c⟩ := valid_small h1
  obtain ⟨d, e⟩ := validM_lt h1
  rw [← h2] at d e
  exact ⟨a, by omega, c, by omega, e, d⟩
/-! ### Zero values -/
def zeroH : HeapM := ⟨[], []⟩
def zeroT : TwoM := ⟨zeroH, [], []⟩
def zeroP : PaintM := ⟨zeroH, [], false⟩
def refsAt (h : HeapM) (k : Nat) : List Int := match h.cells[k]? with | some c => c.refs | none => []
theorem refsAt_of {h : HeapM} {k : Nat} {c : CellM} (hc : h.cells[k]? = some c) : refsAt h k = c.refs := by simp [refsAt, hc]

/-! ### Snapshots -/
/-- Met and waiting cells after r has been met. -/
def meet1 (xy : List Bool × List Bool) (r : Int) : List Bool × List Bool :=
  if 0 ≤ r ∧ xy.1[r.toNat]? = some false then (xy.1.set r.toNat true, xy.2.set r.toNat true) else xy
def meetL (xy : List Bool × List Bool) (rs : List Int) : List Bool × List Bool := rs.foldl meet1 xy
theorem meet1_neg {xy : List Bool × List Bool} {r : Int} (h : r < 0) : meet1 xy r = xy := by unfold meet1; rw [if_neg (by omega)]
theorem meet1_met {xy : List Bool × List Bool} {r : Int} (h : xy.1[r.toNat]? = some true) : meet1 xy r = xy := by unfold meet1; rw [if_neg (by rw [h]; simp)]
theorem meet1_new {xy : List Bool × List Bool} {r : Int} (h0 : 0 ≤ r) (h : xy.1[r.toNat]? = some false) : meet1 xy r = (xy.1.set r.toNat true, xy.2.set r.toNat true) := by unfold meet1; rw [if_pos ⟨h0, h⟩]
theorem meet1_len (xy : List Bool × List Bool) (r : Int) : (meet1 xy r).1.length = xy.1.length ∧ (meet1 xy r).2.length = xy.2.length := by
  unfold meet1; split <;> simp
theorem meetL_len (rs : List Int) : ∀ xy : List Bool × List Bool, (meetL xy rs).1.length = xy.1.length ∧ (meetL xy rs).2.length = xy.2.length := by
  induction rs with
  | nil => intro xy; exact ⟨rfl, rfl⟩
  | cons r rs ih => intro xy; have h1 := meet1_len xy r; have h2 := ih (meet1 xy r); exact ⟨h2.1.trans h1.1, h2.2.trans h1.2⟩
theorem meetL_snoc {xy : List Bool × List Bool} {rs : List Int} {k : Nat} {r : Int} (h : rs[k]? = some r) : meetL xy (rs.take (k + 1)) = meet1 (meetL xy (rs.take k)) r := by
  rw [take_snoc_of h]; simp [meetL]
def snapStartM (h : HeapM) : TwoM :=
  if validM h then ⟨h, (meetL (List.replicate h.cells.length false, List.replicate h.cells.length false) h.roots).1, (meetL (List.replicate h.cells.length false, List.replicate h.cells.length false) h.roots).2⟩ else zeroT
/-- One step of marking of a snapshot. -/
def stepS (p : TwoM) : TwoM × Bool :=
  match firstB id p.y with
  | none => (p, false)
  | some k => (⟨p.store, (meetL (p.x, p.y.set k false) (refsAt p.store k)).1, (meetL (p.x, p.y.set k false) (refsAt p.store k)).2⟩, true)
def snapStepM (p : TwoM) : TwoM × Bool := if snapM p then stepS p else (zeroT, false)

/-! ### Marking with colours -/
def grey1 (cols : List Int) (r : Int) : List Int := if whiteM cols r then cols.set r.toNat 1 else cols
def greyL (cols : List Int) (rs : List Int) : List Int := rs.foldl grey1 cols
theorem grey1_len (cols : List Int) (r : Int) : (grey1 cols r).length = cols.length := by unfold grey1; split <;> simp
theorem greyL_len (rs : List Int) : ∀ cols : List Int, (greyL cols rs).length = cols.length := by
  induction rs with
  | nil => intro c; rfl
  | cons r rs ih => intro c; exact (ih (grey1 c r)).trans (grey1_len c r)
theorem greyL_snoc {cols : List Int} {rs : List Int} {k : Nat} {r : Int} (h : rs[k]? = some r) : greyL cols (rs.take (k + 1)) = grey1 (greyL cols (rs.take k)) r := by
  rw [take_snoc_of h]; simp [greyL]
theorem grey1_not {cols : List Int} {r : Int} (h : whiteM cols r = false) : grey1 cols r = cols := by simp [grey1, h]
theorem grey1_white {cols : List Int} {r : Int} (h : whiteM cols r = true) : grey1 cols r = cols.set r.toNat 1 := by simp [grey1, h]
def startP (p : PaintM) : PaintM := if p.active then p else ⟨p.store, greyL p.colours p.store.roots, true⟩
def paintStartM (p : PaintM) : PaintM := if paintM p then startP p else zeroP
def isGrey (c : Int) : Bool := c == 1
def stepP (p : PaintM) : PaintM × Bool :=
  match firstB isGrey p.colours with
  | none => (p, false)
  | some k => (⟨p.store, (greyL p.colours (refsAt p.store k)).set k 2, p.active⟩, true)
def paintStepM (p : PaintM) : PaintM × Bool := if paintM p then stepP p else (zeroP, false)

/-! ### Instructions -/
def maxB (op : Int) : Int := if op = 1 then 3 else if op = 2 then 3 else if op = 3 then 3 else if op = 4 then 3 else if op = 5 then 0 else 99
def maxC (op : Int) : Int := if op = 1 then 99 else if op = 2 then 2 else if op = 3 then 2 else 0
def cmdOk (o : CmdM) : Bool := inB 1 o.op 6 && (inB 0 o.a 3 && (inB 0 o.b (maxB o.op) && inB 0 o.c (maxC o.op)))
def cmdsOk (l : List CmdM) : Bool := decide (l.length ≤ 40) && l.all cmdOk
def rootAt (h : HeapM) (r : Int) : Int := match h.roots[r.toNat]? with | some x => x | none => -1
def placeOk (h : HeapM) (root c : Int) : Bool := decide (0 ≤ rootAt h root) && decide (c < ((refsAt h (rootAt h root).toNat).length : Int))
def possO (h : HeapM) (o : CmdM) : Bool := if o.op = 2 then placeOk h o.b o.c else if o.op = 3 then placeOk h o.a o.c else if o.op = 6 then decide (0 ≤ rootAt h o.a) else true
def possM (h : HeapM) (o : CmdM) : Bool := validM h && cmdOk o && possO h o
def newCell (o : CmdM) : CellM := ⟨true, o.c, List.replicate o.b.toNat (-1)⟩
def putCell (cs : List CellM) (at_ : Nat) (c : CellM) : List CellM := if at_ = cs.length then cs ++ [c] else cs.set at_ c
def setRef (cs : List CellM) (k : Nat) (j : Nat) (r : Int) : List CellM := match cs[k]? with | some c => cs.set k ⟨c.used, c.data, c.refs.set j r⟩ | none => cs
def setData (cs : List CellM) (k : Nat) (d : Int) : List CellM := match cs[k]? with | some c => cs.set k ⟨c.used, d, c.refs⟩ | none => cs
def refOf (h : HeapM) (root c : Int) : Int := match (refsAt h (rootAt h root).toNat)[c.toNat]? with | some x => x | none => -1
/-- The heap after a possible instruction; a new cell is put at a place. -/
def execM (h : HeapM) (o : CmdM) (at_ : Nat) : HeapM :=
  if o.op = 1 then ⟨putCell h.cells at_ (newCell o), h.roots.set o.a.toNat (at_ : Int)⟩
  else if o.op = 2 then ⟨h.cells, h.roots.set o.a.toNat (refOf h o.b o.c)⟩
  else if o.op = 3 then ⟨setRef h.cells (rootAt h o.a).toNat o.c.toNat (rootAt h o.b), h.roots⟩
  else if o.op = 4 then ⟨h.cells, h.roots.set o.a.toNat (rootAt h o.b)⟩
  else if o.op = 5 then ⟨h.cells, h.roots.set o.a.toNat (-1)⟩
  else ⟨setData h.cells (rootAt h o.a).toNat o.b, h.roots⟩
def stepM (h : HeapM) (o : CmdM) : HeapM × Bool :=
  if validM h && cmdOk o then (if possO h o && !(decide (o.op = 1) && decide (h.cells.length = 40)) then (execM h o h.cells.length, true) else (h, false)) else (zeroH, false)
def emptyM : HeapM := ⟨[], [-1, -1, -1, -1]⟩
def runFrom (h : HeapM) (l : List CmdM) : HeapM := l.foldl (fun h o => (stepM h o).1) h
def runM (l : List CmdM) : HeapM := if cmdsOk l then runFrom emptyM l else zeroH
theorem runFrom_snoc {h : HeapM} {l : List CmdM} {k : Nat} {o : CmdM} (ho : l[k]? = some o) : runFrom h (l.take (k + 1)) = (stepM (runFrom h (l.take k)) o).1 := by
  rw [take_snoc_of ho]; simp [runFrom]
end Go.Proofs.Ytdkhpmlimnfgpaa
