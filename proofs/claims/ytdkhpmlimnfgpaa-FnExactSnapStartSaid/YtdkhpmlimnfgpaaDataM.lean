/- The marks that a law lays into all numbers and flags of a value, as plain functions. -/
import Derived.Test.YtdkhpmlimnfgpaaData
namespace Go.Proofs.Ytdkhpmlimnfgpaa
def markI (n : Nat) (k : Int) : List Int := (List.range n).map fun i : Nat => k + (i : Int)
def mk3 (k : Int) : Bool := k % 3 == 0
def markB (n : Nat) (k : Int) : List Bool := (List.range n).map fun i : Nat => mk3 (k + (i : Int))
theorem markI_len (n : Nat) (k : Int) : (markI n k).length = n := by simp [markI]
theorem markB_len (n : Nat) (k : Int) : (markB n k).length = n := by simp [markB]
theorem markI_at {n i : Nat} (k : Int) (h : i < n) : (markI n k)[i]? = some (k + (i : Int)) := by simp [markI, h]
theorem markB_at {n i : Nat} (k : Int) (h : i < n) : (markB n k)[i]? = some (mk3 (k + (i : Int))) := by simp [markB, h]
def markCs : List CellM → Int → List CellM
  | [], _ => []
  | c :: cs, k => ⟨mk3 k, k + 1, markI c.refs.length (k + 2)⟩ :: markCs cs (k + 2 + c.refs.length)
def sizeCs : List CellM → Nat
  | [] => 0
  | c :: cs => 2 + c.refs.length + sizeCs cs
theorem markCs_len (cs : List CellM) : ∀ k, (markCs cs k).length = cs.length := by
  induction cs with
  | nil => intro k; rfl
  | cons c cs ih => intro k; simp [markCs, ih]
theorem markCs_at (cs : List CellM) : ∀ (k : Int) (j : Nat) (c : CellM), cs[j]? = some c → (markCs cs k)[j]? = some ⟨mk3 (k + sizeCs (cs.take j)), k + sizeCs (cs.take j) + 1, markI c.refs.length (k + sizeCs (cs.take j) + 2)⟩ := by
  induction cs with
  | nil => intro k j c h; simp at h
  | cons d cs ih =>
    intro k j c h
    cases j with
    | zero => simp at h; subst h; simp [markCs, sizeCs]
    | succ j =>
      have h' := ih (k + 2 + d.refs.length) j c (by simpa using h)
      simp only [markCs, List.getElem?_cons_succ, h', List.take_succ_cons, sizeCs]
      congr 2 <;> (push_cast; congr 1; omega)
theorem sizeCs_append (a b : List CellM) : sizeCs (a ++ b) = sizeCs a + sizeCs b := by
  induction a with
  | nil => simp [sizeCs]
  | cons c a ih => simp only [List.cons_append, sizeCs, ih]; omega
theorem sizeCs_snoc {cs : List CellM} {j : Nat} {c : CellM} (h : cs[j]? = some c) : sizeCs (cs.take (j + 1)) = sizeCs (cs.take j) + 2 + c.refs.length := by
  rw [take_snoc_of h, sizeCs_append]; simp [sizeCs]; omega
theorem sizeCs_le (cs : List CellM) (j : Nat) : sizeCs (cs.take j) ≤ sizeCs cs := by
  have h := sizeCs_append (cs.take j) (cs.drop j)
  rw [List.take_append_drop] at h
  omega
theorem sizeCs_bound (cs : List CellM) (m : Nat) (h : ∀ c ∈ cs, c.refs.length ≤ m) : sizeCs cs ≤ cs.length * (m + 2) := by
  induction cs with
  | nil => simp [sizeCs]
  | cons c cs ih =>
    have h1 := ih fun d hd => h d (List.mem_cons_of_mem _ hd)
    have h2 := h c (by simp)
    simp only [sizeCs, List.length_cons, Nat.add_mul]
    omega
def markH (h : HeapM) (k : Int) : HeapM := ⟨markCs h.cells k, markI h.roots.length (k + sizeCs h.cells)⟩
def sizeH (h : HeapM) : Nat := sizeCs h.cells + h.roots.length
def markP (p : PaintM) (k : Int) : PaintM := ⟨markH p.store k, markI p.colours.length (k + sizeH p.store), p.active⟩
def sizeP (p : PaintM) : Nat := sizeH p.store + p.colours.length
def markT (p : TwoM) (k : Int) : TwoM := ⟨markH p.store k, markB p.x.length (k + sizeH p.store), markB p.y.length (k + sizeH p.store + p.x.length)⟩
def sizeT (p : TwoM) : Nat := sizeH p.store + p.x.length + p.y.length
def markN (p : CountM) (k : Int) : CountM := ⟨markH p.store k, markI p.counts.length (k + sizeH p.store)⟩
def sizeN (p : CountM) : Nat := sizeH p.store + p.counts.length
def markO : List CmdM → Int → List CmdM
  | [], _ => []
  | _ :: cs, k => ⟨k, k + 1, k + 2, k + 3⟩ :: markO cs (k + 4)
theorem markO_len (cs : List CmdM) : ∀ k, (markO cs k).length = cs.length := by
  induction cs with
  | nil => intro k; rfl
  | cons c cs ih => intro k; simp [markO, ih]
theorem markO_at (cs : List CmdM) : ∀ (k : Int) (j : Nat), j < cs.length → (markO cs k)[j]? = some ⟨k + 4 * (j : Int), k + 4 * (j : Int) + 1, k + 4 * (j : Int) + 2, k + 4 * (j : Int) + 3⟩ := by
  induction cs with
  | nil => intro k j h; simp at h
  | cons d cs ih =>
    intro k j h
    cases j with
    | zero => simp [markO]
    | succ j =>
      have h' := ih (k + 4) j (by simpa using h)
      simp only [markO, List.getElem?_cons_succ, h']
      congr 2 <;> (push_cast; omega)
end Go.Proofs.Ytdkhpmlimnfgpaa
