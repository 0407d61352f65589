/- Texts of one family, one behind the other: Sz, SzP. -/
import Derived.Test.YtbnokkdhanlhpaaChecked
import Derived.Test.YtbnokkdhanlhpaaGrOwn
/- What the size looks sz.. of the laws compute, and that they leave memory as it is. Conditions: lengths below 2^48, the number that is left in 0..2^20. -/
namespace Go.Proofs.Ytbnokkdhanlhpaa
open Go.RowKit
set_option maxRecDepth 100000

def szI (n : Nat) (left : Int) : Int := if left - n < 0 then -1 else left - n
def szLoop : List CellM → Int → Int
  | [], l => l
  | c :: cs, l => if szI c.refs.length l < 0 then -1 else szLoop cs (szI c.refs.length l)
def szCs (cs : List CellM) (left : Int) : Int := if left - cs.length < 0 then -1 else szLoop cs (left - cs.length)
def szH (h : HeapM) (left : Int) : Int := if szCs h.cells left < 0 then -1 else szI h.roots.length (szCs h.cells left)
theorem szI_le (n : Nat) (left : Int) : -1 ≤ szI n left ∧ (0 ≤ left → szI n left ≤ left) := by unfold szI; split <;> omega
theorem szLoop_le (cs : List CellM) : ∀ l : Int, -1 ≤ l → -1 ≤ szLoop cs l ∧ (0 ≤ l → szLoop cs l ≤ l) := by
  induction cs with
  | nil => intro l h; exact ⟨h, fun _ => Int.le_refl _⟩
  | cons c cs ih =>
    intro l h
    unfold szLoop
    have := szI_le c.refs.length l
    have := ih (szI c.refs.length l) this.1
    split <;> omega
theorem szCs_le (cs : List CellM) (left : Int) : -1 ≤ szCs cs left ∧ (0 ≤ left → szCs cs left ≤ left) := by
  unfold szCs
  split
  · omega
  · have := szLoop_le cs (left - cs.length) (by omega)
    omega
theorem szH_le (h : HeapM) (left : Int) : -1 ≤ szH h left ∧ (0 ≤ left → szH h left ≤ left) := by
  unfold szH
  have := szCs_le h.cells left
  have := szI_le h.roots.length (szCs h.cells left)
  split <;> omega
theorem szI_neg {n : Nat} {left : Int} (h : ¬ szI n left < 0) : szI n left = left - n ∧ (n : Int) ≤ left := by
  unfold szI at h ⊢; split at h <;> (try split) <;> omega
theorem szLoop_pos (cs : List CellM) : ∀ l : Int, 0 ≤ l → ¬ szLoop cs l < 0 → ∀ c ∈ cs, (c.refs.length : Int) ≤ l := by
  induction cs with
  | nil => intro l _ _ c hc; cases hc
  | cons c cs ih =>
    intro l h0 h d hd
    unfold szLoop at h
    split at h
    · omega
    · rename_i hn
      obtain ⟨e, hl⟩ := szI_neg hn
      rcases List.mem_cons.1 hd with rfl | hd
      · exact hl
      · have := ih _ (by omega) h d hd
        omega
theorem szCs_pos (cs : List CellM) (l : Int) (h : ¬ szCs cs l < 0) : (cs.length : Int) ≤ l ∧ ∀ c ∈ cs, (c.refs.length : Int) ≤ l := by
  unfold szCs at h
  split at h
  · omega
  · refine ⟨by omega, fun c hc => ?_⟩
    have := szLoop_pos cs _ (by omega) h c hc
    omega
theorem szH_pos (m : HeapM) (l : Int) (h0 : 0 ≤ l) (h : ¬ szH m l < 0) : (m.cells.length : Int) ≤ l ∧ (∀ c ∈ m.cells, (c.refs.length : Int) ≤ l) ∧ (m.roots.length : Int) ≤ l := by
  unfold szH at h
  split at h
  · omega
  · rename_i hn
    have h1 := szCs_pos m.cells l hn
    have h2 := szI_neg h
    have h3 := (szCs_le m.cells l).2 h0
    exact ⟨h1.1, h1.2, by omega⟩

set_option maxHeartbeats 400000 in
theorem szIntS_any (A : Option Addr) (n c : Nat) (left : Int) (w : World) (hn : n ≤ 9223372036854775807) (h0 : 0 ≤ left) (h1 : left ≤ 1048576) :
    Calls Try.prog 73 #[.slice A n c, .int .i64 left] w fun e w' => e = .returned (.int .i64 (szI n left)) ∧ w = w' := by
  by_cases h : left - n < 0
  · go_enter Try.func73, Try.ntmps73
    go_wp2
    go_ret
    exact ⟨ret_int (by simp [szI, h]), rfl⟩
  · go_enter Try.func73, Try.ntmps73
    go_wp2
    go_ret
    exact ⟨ret_int (by rw [szI, if_neg (by omega)]), rfl⟩
set_option maxHeartbeats 400000 in
theorem szCell_any (u : Bool) (d : Int) (A : Option Addr) (n c : Nat) (left : Int) (w : World) (hn : n ≤ 9223372036854775807) (h0 : 0 ≤ left) (h1 : left ≤ 1048576) :
    Calls Try.prog 124 #[.agg #[.bool u, .int .i64 d, .slice A n c], .int .i64 left] w fun e w' => e = .returned (.int .i64 (szI n left)) ∧ Below w.heap.size w w' := by
  have hb := szI_le n left
  by_cases h : szI n left < 0
  · have h2 : szI n left = -1 := by omega
    go_enter Try.func124, Try.ntmps124
    go_wp2_with (go_at_call 73; refine (szIntS_any _ _ _ _ _ hn h0 h1).mono ?_; rintro e w' ⟨rfl, rfl⟩)
    go_ret
    exact ⟨ret_int h2.symm, blw_⟩
  · go_enter Try.func124, Try.ntmps124
    go_wp2_with (go_at_call 73; refine (szIntS_any _ _ _ _ _ hn h0 h1).mono ?_; rintro e w' ⟨rfl, rfl⟩)
    go_ret
    exact ⟨rfl, blw_⟩
set_option maxHeartbeats 400000 in
theorem szCellS_any (A : Option Addr) (cs : List CellM) (c : Nat) (left : Int) (w : World) (hc : RC w A cs) (hn : cs.length ≤ 9223372036854775807) (h0 : 0 ≤ left) (h1 : left ≤ 1048576) :
    Calls Try.prog 103 #[.slice A cs.length c, .int .i64 left] w fun e w' => e = .returned (.int .i64 (szCs cs left)) ∧ Below w.heap.size w w' := by
  by_cases h : left - cs.length < 0
  · go_enter Try.func103, Try.ntmps103
    go_wp2
    go_ret
    exact ⟨ret_int (by simp [szCs, h]), blw_⟩
  · have H : Hid (szCs cs left = szLoop cs (left - cs.length)) := by simp [Hid, szCs, h]
    go_enter Try.func103, Try.ntmps103
    go_wp2
    go_loopw [1, 5] (fun l i wr => ∃ (k : Nat) (q : Int), k ≤ cs.length ∧ i = .int .i64 k ∧ l = .int .i64 q ∧ 0 ≤ q ∧ q ≤ 1048576 ∧ Hid (szLoop cs (left - cs.length) = szLoop (cs.drop k) q) ∧ Below w.heap.size w wr) (fun _ i _ => cs.length - (intOf i).toNat)
    case atStart => exact ⟨0, left - cs.length, by omega, rfl, rfl, by omega, by omega, rfl, Below.refl _ _⟩
    case round =>
      obtain ⟨k, q, hk, rfl, rfl, hq0, hq1, HS, hB⟩ := hrel
      by_cases hlt : k < cs.length
      · obtain ⟨b, o, d, Ar, cr, rfl, hx, c1, c2, c3, -, hrl, hb⟩ := (hc.below hB).at_ hlt
        have Hx := Lib.hid hx
        clear hx
        have hle := szI_le d.refs.length q
        by_cases hneg : szI d.refs.length q < 0
        · go_wp2_with (go_at_call 124; refine (szCell_any _ _ _ _ _ _ _ hrl hq0 hq1).mono ?_; rintro e w' ⟨rfl, hB2⟩)
          go_ret
          exact ⟨ret_int (by rw [H.out, HS.out, drop_cons_of Hx.out]; simp [szLoop, hneg]), hB.trans (hB2.mono hB.size)⟩
        · go_wp2_with (go_at_call 124; refine (szCell_any _ _ _ _ _ _ _ hrl hq0 hq1).mono ?_; rintro e w' ⟨rfl, hB2⟩)
          go_roundw
          case rel => exact ⟨k + 1, szI d.refs.length q, by omega, by go_num, rfl, by omega, by omega, by unfold Hid; rw [HS.out, drop_cons_of Hx.out, szLoop, if_neg (by omega)], hB.trans (hB2.mono hB.size)⟩
          case measure => simp [intOf]; omega
      · have hke : k = cs.length := by omega
        have HK := Lib.hid hke
        clear hke
        go_wp2
        go_ret
        exact ⟨ret_int (by rw [H.out, HS.out, HK.out]; simp [szLoop]), hB⟩
set_option maxHeartbeats 400000 in
theorem szHeap_any (v : Value) (h : HeapM) (left : Int) (w : World) (hv : RH w v h) (h0 : 0 ≤ left) (h1 : left ≤ 1048576) :
    Calls Try.prog 72 #[v, .int .i64 left] w fun e w' => e = .returned (.int .i64 (szH h left)) ∧ Below w.heap.size w w' := by
  obtain ⟨A, c, A', c', rfl, hc, hr, hn, hn'⟩ := hv
  have hle := szCs_le h.cells left
  have hle2 := szI_le h.roots.length (szCs h.cells left)
  by_cases hneg : szCs h.cells left < 0
  · go_enter Try.func72, Try.ntmps72
    go_wp2_with (go_at_call 103; refine (szCellS_any _ _ _ _ _ (hc.below blw_) hn h0 h1).mono ?_; rintro e w' ⟨rfl, hB⟩; obtain ⟨hbc, hbf, hbz⟩ := bcell hB)
    go_ret
    exact ⟨ret_int (by rw [szH, if_pos hneg]), blw_⟩
  · by_cases hneg2 : szI h.roots.length (szCs h.cells left) < 0
    · go_enter Try.func72, Try.ntmps72
      go_wp2_with (first | (go_at_call 103; refine (szCellS_any _ _ _ _ _ (hc.below blw_) hn h0 h1).mono ?_; rintro e w' ⟨rfl, hB⟩; obtain ⟨hbc, hbf, hbz⟩ := bcell hB) | (go_at_call 73; refine (szIntS_any _ _ _ _ _ hn' (by omega) (by omega)).mono ?_; rintro e w'' ⟨rfl, rfl⟩))
      go_ret
      exact ⟨ret_int (by rw [szH, if_neg (by omega)]; omega), blw_⟩
    · go_enter Try.func72, Try.ntmps72
      go_wp2_with (first | (go_at_call 103; refine (szCellS_any _ _ _ _ _ (hc.below blw_) hn h0 h1).mono ?_; rintro e w' ⟨rfl, hB⟩; obtain ⟨hbc, hbf, hbz⟩ := bcell hB) | (go_at_call 73; refine (szIntS_any _ _ _ _ _ hn' (by omega) (by omega)).mono ?_; rintro e w'' ⟨rfl, rfl⟩))
      go_ret
      exact ⟨ret_int (by rw [szH, if_neg (by omega)]), blw_⟩
end Go.Proofs.Ytbnokkdhanlhpaa

/- What the size looks at painted heaps, snapshots, heaps with generations and with counts compute. -/
namespace Go.Proofs.Ytbnokkdhanlhpaa
open Go.RowKit
set_option maxRecDepth 100000
set_option linter.unusedSimpArgs false
set_option linter.unusedVariables false

/-- A heap's size and one list's more. -/
def szH1 (h : HeapM) (n : Nat) (left : Int) : Int := if szH h left < 0 then -1 else szI n (szH h left)
def szH2 (h : HeapM) (n m : Nat) (left : Int) : Int := if szH1 h n left < 0 then -1 else szI m (szH1 h n left)
/-- All that the size looks look at is at most 2^20 long. -/
structure SmallH (h : HeapM) : Prop where
  cells : h.cells.length ≤ 1048576
  refs : ∀ d ∈ h.cells, d.refs.length ≤ 1048576
  roots : h.roots.length ≤ 1048576
theorem szH_small {h : HeapM} (hs : ¬ szH h 1048576 < 0) : SmallH h := by
  obtain ⟨h1, h2, h3⟩ := szH_pos h 1048576 (by omega) hs
  exact ⟨by omega, fun d hd => by have := h2 d hd; omega, by omega⟩
theorem szH1_le (h : HeapM) (n : Nat) (left : Int) : -1 ≤ szH1 h n left ∧ (0 ≤ left → szH1 h n left ≤ left) := by
  unfold szH1
  have := szH_le h left
  have := szI_le n (szH h left)
  split <;> omega
theorem szH2_le (h : HeapM) (n m : Nat) (left : Int) : -1 ≤ szH2 h n m left ∧ (0 ≤ left → szH2 h n m left ≤ left) := by
  unfold szH2
  have := szH1_le h n left
  have := szI_le m (szH1 h n left)
  split <;> omega
theorem szH1_small {h : HeapM} {n : Nat} (hs : ¬ szH1 h n 1048576 < 0) : SmallH h ∧ n ≤ 1048576 := by
  unfold szH1 at hs
  split at hs
  · omega
  · rename_i hn
    have h2 := szI_neg hs
    have h3 := (szH_le h 1048576).2 (by omega)
    exact ⟨szH_small hn, by omega⟩
theorem szH2_small {h : HeapM} {n m : Nat} (hs : ¬ szH2 h n m 1048576 < 0) : SmallH h ∧ n ≤ 1048576 ∧ m ≤ 1048576 := by
  unfold szH2 at hs
  split at hs
  · omega
  · rename_i hn
    have h2 := szI_neg hs
    have h3 := (szH1_le h n 1048576).2 (by omega)
    have h4 := szH1_small hn
    exact ⟨h4.1, h4.2, by omega⟩

end Go.Proofs.Ytbnokkdhanlhpaa
