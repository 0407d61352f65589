/- Texts of one family, one behind the other: Sz, SzP. -/
import Derived.Test.YtopbngfghpgbnaaChecked
import Derived.Test.YtopbngfghpgbnaaGrOwn
/- What the size looks sz.. of the laws compute, and that they leave memory as it is. Conditions: lengths below 2^48, the number that is left in 0..2^20. -/
namespace Go.Proofs.Ytopbngfghpgbnaa
open Go.RowKit
set_option maxRecDepth 100000

def szI (n : Nat) (left : Int) : Int := if left - n < 0 then -1 else left - n
def szLoop : List CellM → Int → Int
  | [], l => l
  | c :: cs, l => if szI c.refs.length l < 0 then -1 else szLoop cs (szI c.refs.length l)
def szCs (cs : List CellM) (left : Int) : Int := if left - cs.length < 0 then -1 else szLoop cs (left - cs.length)
def szH (h : HeapM) (left : Int) : Int := if szCs h.cells left < 0 then -1 else szI h.roots.length (szCs h.cells left)
theorem szI_le (n : Nat) (left : Int) : -1 ≤ szI n left ∧ (0 ≤ left → szI n left ≤ left) := by unfold szI; split <;> omega
theorem szLoop_le (cs : List CellM) : ∀ l : Int, -1 ≤ l → -1 ≤ szLoop cs l ∧ (0 ≤ l → szLoop cs l ≤ l) := by
  induction cs with
  | nil => intro l h; exact ⟨h, fun _ => Int.le_refl _⟩
  | cons c cs ih =>
    intro l h
    unfold szLoop
    have := szI_le c.refs.length l
    have := ih (szI c.refs.length l) this.1
    split <;> omega
theorem szCs_le (cs : List CellM) (left : Int) : -1 ≤ szCs cs left ∧ (0 ≤ left → szCs cs left ≤ left) := by
  unfold szCs
  split
  · omega
  · have := szLoop_le cs (left - cs.length) (by omega)
    omega
theorem szH_le (h : HeapM) (left : Int) : -1 ≤ szH h left ∧ (0 ≤ left → szH h left ≤ left) := by
  unfold szH
  have := szCs_le h.cells left
  have := szI_le h.roots.length (szCs h.cells left)
  split <;> omega
theorem szI_neg {n : Nat} {left : Int} (h : ¬ szI n left < 0) : szI n left = left - n ∧ (n : Int) ≤ left := by
  unfold szI at h ⊢; split at h <;> (try split) <;> omega
theorem szLoop_pos (cs : List CellM) : ∀ l : Int, 0 ≤ l → ¬ szLoop cs l < 0 → ∀ c ∈ cs, (c.refs.length : Int) ≤ l := by
  induction cs with
  | nil => intro l _ _ c hc; cases hc
  | cons c cs ih =>
    intro l h0 h d hd
    unfold szLoop at h
    split at h
    · omega
    · rename_i hn
      obtain ⟨e, hl⟩ := szI_neg hn
      rcases List.mem_cons.1 hd with rfl | hd
      · exact hl
      · have := ih _ (by omega) h d hd
        omega
theorem szCs_pos (cs : List CellM) (l : Int) (h : ¬ szCs cs l < 0) : (cs.length : Int) ≤ l ∧ ∀ c ∈ cs, (c.refs.length : Int) ≤ l := by
  unfold szCs at h
  split at h
  · omega
  · refine ⟨by omega, fun c hc => ?_⟩
    have := szLoop_pos cs _ (by omega) h c hc
    omega
theorem szH_pos (m : HeapM) (l : Int) (h0 : 0 ≤ l) (h : ¬ szH m l < 0) : (m.cells.length : Int) ≤ l ∧ (∀ c ∈ m.cells, (c.refs.length : Int) ≤ l) ∧ (m.roots.length : Int) ≤ l := by
  unfold szH at h
  split at h
  · omega
  · rename_i hn
    have h1 := szCs_pos m.cells l hn
    have h2 := szI_neg h
    have h3 := (szCs_le m.cells l).2 h0
    exact ⟨h1.1, h1.2, by omega⟩

end Go.Proofs.Ytopbngfghpgbnaa

/- What the size looks at painted heaps, snapshots, heaps with generations and with counts compute. -/
namespace Go.Proofs.Ytopbngfghpgbnaa
open Go.RowKit
set_option maxRecDepth 100000
set_option linter.unusedSimpArgs false
set_option linter.unusedVariables false

/-- A heap's size and one list's more. -/
def szH1 (h : HeapM) (n : Nat) (left : Int) : Int := if szH h left < 0 then -1 else szI n (szH h left)
def szH2 (h : HeapM) (n m : Nat) (left : Int) : Int := if szH1 h n left < 0 then -1 else szI m (szH1 h n left)
/-- All that the size looks look at is at most 2^20 long. -/
structure SmallH (h : HeapM) : Prop where
  cells : h.cells.length ≤ 1048576
  refs : ∀ d ∈ h.cells, d.refs.length ≤ 1048576
  roots : h.roots.length ≤ 1048576
theorem szH_small {h : HeapM} (hs : ¬ szH h 1048576 < 0) : SmallH h := by
  obtain ⟨h1, h2, h3⟩ := szH_pos h 1048576 (by omega) hs
  exact ⟨by omega, fun d hd => by have := h2 d hd; omega, by omega⟩
theorem szH1_le (h : HeapM) (n : Nat) (left : Int) : -1 ≤ szH1 h n left ∧ (0 ≤ left → szH1 h n left ≤ left) := by
  unfold szH1
  have := szH_le h left
  have := szI_le n (szH h left)
  split <;> omega
theorem szH2_le (h : HeapM) (n m : Nat) (left : Int) : -1 ≤ szH2 h n m left ∧ (0 ≤ left → szH2 h n m left ≤ left) := by
  unfold szH2
  have := szH1_le h n left
  have := szI_le m (szH1 h n left)
  split <;> omega
theorem szH1_small {h : HeapM} {n : Nat} (hs : ¬ szH1 h n 1048576 < 0) : SmallH h ∧ n ≤ 1048576 := by
  unfold szH1 at hs
  split at hs
  · omega
  · rename_i hn
    have h2 := szI_neg hs
    have h3 := (szH_le h 1048576).2 (by omega)
    exact ⟨szH_small hn, by omega⟩
theorem szH2_small {h : HeapM} {n m : Nat} (hs : ¬ szH2 h n m 1048576 < 0) : SmallH h ∧ n ≤ 1048576 ∧ m ≤ 1048576 := by
  unfold szH2 at hs
  split at hs
  · omega
  · rename_i hn
    have h2 := szI_neg hs
    have h3 := (szH1_le h n 1048576).2 (by omega)
    have h4 := szH1_small hn
    exact ⟨h4.1, h4.2, by omega⟩

end Go.Proofs.Ytopbngfghpgbnaa
