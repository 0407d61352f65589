/- What the size looks at painted heaps, snapshots, heaps with generations and with counts compute. -/
import Derived.Test.YtdkhpmlimnfgpaaChecked
import Derived.Test.YtdkhpmlimnfgpaaSz
namespace Go.Proofs.Ytdkhpmlimnfgpaa
open Go.RowKit
set_option maxRecDepth 100000
set_option linter.unusedSimpArgs false
set_option linter.unusedVariables false

/-- A heap's size and one list's more. -/
def szH1 (h : HeapM) (n : Nat) (left : Int) : Int := if szH h left < 0 then -1 else szI n (szH h left)
def szH2 (h : HeapM) (n m : Nat) (left : Int) : Int := if szH1 h n left < 0 then -1 else szI m (szH1 h n left)
/-- All that the size looks look at is at most 2^20 long. -/
structure SmallH (h : HeapM) : Prop where
  cells : h.cells.length ≤ 1048576
  refs : ∀ d ∈ h.cells, d.refs.length ≤ 1048576
  roots : h.roots.length ≤ 1048576
theorem szH_small {h : HeapM} (hs : ¬ szH h 1048576 < 0) : SmallH h := by
  obtain ⟨h1, h2, h3⟩ := szH_pos h 1048576 (by omega) hs
  exact ⟨by omega, fun d hd => by have := h2 d hd; omega, by omega⟩
theorem szH1_le (h : HeapM) (n : Nat) (left : Int) : -1 ≤ szH1 h n left ∧ (0 ≤ left → szH1 h n left ≤ left) := by
  unfold szH1
  have := szH_le h left
  have := szI_le n (szH h left)
  split <;> omega
theorem szH2_le (h : HeapM) (n m : Nat) (left : Int) : -1 ≤ szH2 h n m left ∧ (0 ≤ left → szH2 h n m left ≤ left) := by
  unfold szH2
  have := szH1_le h n left
  have := szI_le m (szH1 h n left)
  split <;> omega
theorem szH1_small {h : HeapM} {n : Nat} (hs : ¬ szH1 h n 1048576 < 0) : SmallH h ∧ n ≤ 1048576 := by
  unfold szH1 at hs
  split at hs
  · omega
  · rename_i hn
    have h2 := szI_neg hs
    have h3 := (szH_le h 1048576).2 (by omega)
    exact ⟨szH_small hn, by omega⟩
theorem szH2_small {h : HeapM} {n m : Nat} (hs : ¬ szH2 h n m 1048576 < 0) : SmallH h ∧ n ≤ 1048576 ∧ m ≤ 1048576 := by
  unfold szH2 at hs
  split at hs
  · omega
  · rename_i hn
    have h2 := szI_neg hs
    have h3 := (szH1_le h n 1048576).2 (by omega)
    have h4 := szH1_small hn
    exact ⟨h4.1, h4.2, by omega⟩

set_option maxHeartbeats 400000 in
theorem szPaint_any (v : Value) (p : PaintM) (left : Int) (w : World) (hv : RPt w v p) (h0 : 0 ≤ left) (h1 : left ≤ 1048576) :
    Calls Try.prog 24 #[v, .int .i64 left] w fun e w' => e = .returned (.int .i64 (szH1 p.store p.colours.length left)) ∧ Below w.heap.size w w' := by
  obtain ⟨A, c, A', c', A2, c2, rfl, hh, hc, hcl⟩ := hv
  have hle := szH_le p.store left
  have hle2 := szI_le p.colours.length (szH p.store left)
  by_cases hneg : szH p.store left < 0
  · go_enter Try.func24, Try.ntmps24
    go_wp2_with (go_at_call 15; refine (szHeap_any _ p.store _ _ ((hh.below (by repeat (first | ((with_reducible refine Below.setc ?_ ?_ _); focus (first | omega | (simp; done) | (simp; omega))) | ((with_reducible refine Below.allocc ?_ ?_ _); focus (first | omega | (simp; done) | (simp; omega))) | (with_reducible refine Below.drew ?_) | (with_reducible refine Below.drewn ?_) | (with_reducible assumption) | (with_reducible exact Below.refl _ _) | ((with_reducible refine Below.stepp (by with_reducible assumption) ?_ ?_); focus (first | omega | (simp; done) | (simp; omega)))))).rh _ _) h0 h1).mono ?_; rintro e w1 ⟨rfl, hB⟩; obtain ⟨hbc, hbf, hbz⟩ := bcell hB; have z0w1 : w.heap.size < w1.heap.size := (by (try simp at hbz); omega))
    go_ret
    exact ⟨ret_int (by rw [szH1, if_pos hneg]), (by repeat (first | ((with_reducible refine Below.setc ?_ ?_ _); focus (first | omega | (simp; done) | (simp; omega))) | ((with_reducible refine Below.allocc ?_ ?_ _); focus (first | omega | (simp; done) | (simp; omega))) | (with_reducible refine Below.drew ?_) | (with_reducible refine Below.drewn ?_) | (with_reducible assumption) | (with_reducible exact Below.refl _ _) | ((with_reducible refine Below.stepp (by with_reducible assumption) ?_ ?_); focus (first | omega | (simp; done) | (simp; omega)))))⟩
  · by_cases hneg2 : szI p.colours.length (szH p.store left) < 0
    · go_enter Try.func24, Try.ntmps24
      go_wp2_with (first | (go_at_call 15; refine (szHeap_any _ p.store _ _ ((hh.below (by repeat (first | ((with_reducible refine Below.setc ?_ ?_ _); focus (first | omega | (simp; done) | (simp; omega))) | ((with_reducible refine Below.allocc ?_ ?_ _); focus (first | omega | (simp; done) | (simp; omega))) | (with_reducible refine Below.drew ?_) | (with_reducible refine Below.drewn ?_) | (with_reducible assumption) | (with_reducible exact Below.refl _ _) | ((with_reducible refine Below.stepp (by with_reducible assumption) ?_ ?_); focus (first | omega | (simp; done) | (simp; omega)))))).rh _ _) h0 h1).mono ?_; rintro e w1 ⟨rfl, hB⟩; obtain ⟨hbc, hbf, hbz⟩ := bcell hB; have z0w1 : w.heap.size < w1.heap.size := (by (try simp at hbz); omega)) | (go_at_call 66; refine (szIntS_any _ p.colours.length _ _ _ hcl (by omega) (by omega)).mono ?_; rintro e w2 ⟨rfl, rfl⟩))
      go_ret
      exact ⟨ret_int (by rw [szH1, if_neg (by omega)]; omega), (by repeat (first | ((with_reducible refine Below.setc ?_ ?_ _); focus (first | omega | (simp; done) | (simp; omega))) | ((with_reducible refine Below.allocc ?_ ?_ _); focus (first | omega | (simp; done) | (simp; omega))) | (with_reducible refine Below.drew ?_) | (with_reducible refine Below.drewn ?_) | (with_reducible assumption) | (with_reducible exact Below.refl _ _) | ((with_reducible refine Below.stepp (by with_reducible assumption) ?_ ?_); focus (first | omega | (simp; done) | (simp; omega)))))⟩
    · go_enter Try.func24, Try.ntmps24
      go_wp2_with (first | (go_at_call 15; refine (szHeap_any _ p.store _ _ ((hh.below (by repeat (first | ((with_reducible refine Below.setc ?_ ?_ _); focus (first | omega | (simp; done) | (simp; omega))) | ((with_reducible refine Below.allocc ?_ ?_ _); focus (first | omega | (simp; done) | (simp; omega))) | (with_reducible refine Below.drew ?_) | (with_reducible refine Below.drewn ?_) | (with_reducible assumption) | (with_reducible exact Below.refl _ _) | ((with_reducible refine Below.stepp (by with_reducible assumption) ?_ ?_); focus (first | omega | (simp; done) | (simp; omega)))))).rh _ _) h0 h1).mono ?_; rintro e w1 ⟨rfl, hB⟩; obtain ⟨hbc, hbf, hbz⟩ := bcell hB; have z0w1 : w.heap.size < w1.heap.size := (by (try simp at hbz); omega)) | (go_at_call 66; refine (szIntS_any _ p.colours.length _ _ _ hcl (by omega) (by omega)).mono ?_; rintro e w2 ⟨rfl, rfl⟩))
      go_ret
      exact ⟨ret_int (by rw [szH1, if_neg (by omega)]), (by repeat (first | ((with_reducible refine Below.setc ?_ ?_ _); focus (first | omega | (simp; done) | (simp; omega))) | ((with_reducible refine Below.allocc ?_ ?_ _); focus (first | omega | (simp; done) | (simp; omega))) | (with_reducible refine Below.drew ?_) | (with_reducible refine Below.drewn ?_) | (with_reducible assumption) | (with_reducible exact Below.refl _ _) | ((with_reducible refine Below.stepp (by with_reducible assumption) ?_ ?_); focus (first | omega | (simp; done) | (simp; omega)))))⟩
set_option maxHeartbeats 400000 in
theorem szSnap_any (v : Value) (p : TwoM) (left : Int) (w : World) (hv : RTw w v p) (h0 : 0 ≤ left) (h1 : left ≤ 1048576) :
    Calls Try.prog 59 #[v, .int .i64 left] w fun e w' => e = .returned (.int .i64 (szH2 p.store p.x.length p.y.length left)) ∧ Below w.heap.size w w' := by
  obtain ⟨A, c, A', c', A2, c2, A3, c3, rfl, hh, hx, hxl, hy, hyl⟩ := hv
  have hle := szH_le p.store left
  have hle2 := szI_le p.x.length (szH p.store left)
  have hle3 := szI_le p.y.length (szI p.x.length (szH p.store left))
  by_cases hneg : szH p.store left < 0
  · go_enter Try.func59, Try.ntmps59
    go_wp2_with (go_at_call 15; refine (szHeap_any _ p.store _ _ ((hh.below (by repeat (first | ((with_reducible refine Below.setc ?_ ?_ _); focus (first | omega | (simp; done) | (simp; omega))) | ((with_reducible refine Below.allocc ?_ ?_ _); focus (first | omega | (simp; done) | (simp; omega))) | (with_reducible refine Below.drew ?_) | (with_reducible refine Below.drewn ?_) | (with_reducible assumption) | (with_reducible exact Below.refl _ _) | ((with_reducible refine Below.stepp (by with_reducible assumption) ?_ ?_); focus (first | omega | (simp; done) | (simp; omega)))))).rh _ _) h0 h1).mono ?_; rintro e w1 ⟨rfl, hB⟩; obtain ⟨hbc, hbf, hbz⟩ := bcell hB; have z0w1 : w.heap.size < w1.heap.size := (by (try simp at hbz); omega))
    go_ret
    exact ⟨ret_int (by rw [szH2, szH1, if_pos hneg]; rfl), (by repeat (first | ((with_reducible refine Below.setc ?_ ?_ _); focus (first | omega | (simp; done) | (simp; omega))) | ((with_reducible refine Below.allocc ?_ ?_ _); focus (first | omega | (simp; done) | (simp; omega))) | (with_reducible refine Below.drew ?_) | (with_reducible refine Below.drewn ?_) | (with_reducible assumption) | (with_reducible exact Below.refl _ _) | ((with_reducible refine Below.stepp (by with_reducible assumption) ?_ ?_); focus (first | omega | (simp; done) | (simp; omega)))))⟩
  · by_cases hneg2 : szI p.x.length (szH p.store left) < 0
    · have HS : Hid (szH2 p.store p.x.length p.y.length left = -1) := by
        unfold Hid; rw [szH2, szH1, if_neg hneg, if_pos hneg2]
      go_enter Try.func59, Try.ntmps59
      go_wp2_with (first | (go_at_call 15; refine (szHeap_any _ p.store _ _ ((hh.below (by repeat (first | ((with_reducible refine Below.setc ?_ ?_ _); focus (first | omega | (simp; done) | (simp; omega))) | ((with_reducible refine Below.allocc ?_ ?_ _); focus (first | omega | (simp; done) | (simp; omega))) | (with_reducible refine Below.drew ?_) | (with_reducible refine Below.drewn ?_) | (with_reducible assumption) | (with_reducible exact Below.refl _ _) | ((with_reducible refine Below.stepp (by with_reducible assumption) ?_ ?_); focus (first | omega | (simp; done) | (simp; omega)))))).rh _ _) h0 h1).mono ?_; rintro e w1 ⟨rfl, hB⟩; obtain ⟨hbc, hbf, hbz⟩ := bcell hB; have z0w1 : w.heap.size < w1.heap.size := (by (try simp at hbz); omega)) | (go_at_call 118; refine (szBoolS_any _ p.x.length _ _ _ hxl (by omega) (by omega)).mono ?_; rintro e w2 ⟨rfl, rfl⟩))
      go_ret
      exact ⟨ret_int HS.out.symm, (by repeat (first | ((with_reducible refine Below.setc ?_ ?_ _); focus (first | omega | (simp; done) | (simp; omega))) | ((with_reducible refine Below.allocc ?_ ?_ _); focus (first | omega | (simp; done) | (simp; omega))) | (with_reducible refine Below.drew ?_) | (with_reducible refine Below.drewn ?_) | (with_reducible assumption) | (with_reducible exact Below.refl _ _) | ((with_reducible refine Below.stepp (by with_reducible assumption) ?_ ?_); focus (first | omega | (simp; done) | (simp; omega)))))⟩
    · have HS : Hid (szH2 p.store p.x.length p.y.length left = szI p.y.length (szI p.x.length (szH p.store left))) := by
        unfold Hid; rw [szH2, szH1, if_neg hneg, if_neg hneg2]
      by_cases hneg3 : szI p.y.length (szI p.x.length (szH p.store left)) < 0
      · have h9 : szI p.y.length (szI p.x.length (szH p.store left)) = -1 := by omega
        have H9 := Lib.hid h9
        clear h9
        go_enter Try.func59, Try.ntmps59
        go_wp2_with (go_at_call 15; refine (szHeap_any _ p.store _ _ ((hh.below (by repeat (first | ((with_reducible refine Below.setc ?_ ?_ _); focus (first | omega | (simp; done) | (simp; omega))) | ((with_reducible refine Below.allocc ?_ ?_ _); focus (first | omega | (simp; done) | (simp; omega))) | (with_reducible refine Below.drew ?_) | (with_reducible refine Below.drewn ?_) | (with_reducible assumption) | (with_reducible exact Below.refl _ _) | ((with_reducible refine Below.stepp (by with_reducible assumption) ?_ ?_); focus (first | omega | (simp; done) | (simp; omega)))))).rh _ _) h0 h1).mono ?_; rintro e w1 ⟨rfl, hB⟩; obtain ⟨hbc, hbf, hbz⟩ := bcell hB; have z0w1 : w.heap.size < w1.heap.size := (by (try simp at hbz); omega))
        refine (szBoolS_any _ p.x.length _ _ _ hxl (by omega) (by omega)).mono ?_
        rintro e w2 ⟨rfl, rfl⟩
        go_wp2_with fail
        refine (szBoolS_any _ p.y.length _ _ _ hyl (by omega) (by omega)).mono ?_
        rintro e w2 ⟨rfl, rfl⟩
        go_wp2_with fail
        go_ret
        exact ⟨ret_int (by rw [HS.out, H9.out]), (by repeat (first | ((with_reducible refine Below.setc ?_ ?_ _); focus (first | omega | (simp; done) | (simp; omega))) | ((with_reducible refine Below.allocc ?_ ?_ _); focus (first | omega | (simp; done) | (simp; omega))) | (with_reducible refine Below.drew ?_) | (with_reducible refine Below.drewn ?_) | (with_reducible assumption) | (with_reducible exact Below.refl _ _) | ((with_reducible refine Below.stepp (by with_reducible assumption) ?_ ?_); focus (first | omega | (simp; done) | (simp; omega)))))⟩
      · go_enter Try.func59, Try.ntmps59
        go_wp2_with (go_at_call 15; refine (szHeap_any _ p.store _ _ ((hh.below (by repeat (first | ((with_reducible refine Below.setc ?_ ?_ _); focus (first | omega | (simp; done) | (simp; omega))) | ((with_reducible refine Below.allocc ?_ ?_ _); focus (first | omega | (simp; done) | (simp; omega))) | (with_reducible refine Below.drew ?_) | (with_reducible refine Below.drewn ?_) | (with_reducible assumption) | (with_reducible exact Below.refl _ _) | ((with_reducible refine Below.stepp (by with_reducible assumption) ?_ ?_); focus (first | omega | (simp; done) | (simp; omega)))))).rh _ _) h0 h1).mono ?_; rintro e w1 ⟨rfl, hB⟩; obtain ⟨hbc, hbf, hbz⟩ := bcell hB; have z0w1 : w.heap.size < w1.heap.size := (by (try simp at hbz); omega))
        refine (szBoolS_any _ p.x.length _ _ _ hxl (by omega) (by omega)).mono ?_
        rintro e w2 ⟨rfl, rfl⟩
        go_wp2_with fail
        refine (szBoolS_any _ p.y.length _ _ _ hyl (by omega) (by omega)).mono ?_
        rintro e w2 ⟨rfl, rfl⟩
        go_wp2_with fail
        go_ret
        exact ⟨ret_int (by rw [HS.out]), (by repeat (first | ((with_reducible refine Below.setc ?_ ?_ _); focus (first | omega | (simp; done) | (simp; omega))) | ((with_reducible refine Below.allocc ?_ ?_ _); focus (first | omega | (simp; done) | (simp; omega))) | (with_reducible refine Below.drew ?_) | (with_reducible refine Below.drewn ?_) | (with_reducible assumption) | (with_reducible exact Below.refl _ _) | ((with_reducible refine Below.stepp (by with_reducible assumption) ?_ ?_); focus (first | omega | (simp; done) | (simp; omega)))))⟩
end Go.Proofs.Ytdkhpmlimnfgpaa
