/- The reference's order of sliding. -/
import Derived.Test.YtkmfhadanbfadaaChecked
import Derived.Deep.DeepCutAuto
import Derived.IntWalk
import Derived.Test.YtkmfhadanbfadaaOrd
import Derived.Test.YtkmfhadanbfadaaGrCopy
namespace Go.Proofs.Ytkmfhadanbfadaa
open Go.RowKit
set_option maxRecDepth 100000
set_option linter.unusedSimpArgs false
set_option linter.unusedVariables false
set_option maxHeartbeats 4000000 in
theorem l16Order_any (v : Value) (h : HeapM) (w : World) (hv : RH w v h) (hva : validM h = true) :
    Calls Try.prog 170 #[v] w fun e w' => ∃ S c, e = .returned (.slice S (slideM h).length c) ∧ OF 3 fi w' S c (slideM h) ∧ (∀ b ∈ blk S, w.heap.size ≤ b) ∧ Below w.heap.size w w' := by
  have hv0 := hv
  obtain ⟨A, c, A', c', rfl, -, hr, hl1, hl2⟩ := hv
  obtain ⟨v1, v2_, -⟩ := valid_small hva
  have v2 : h.roots.length ≤ 4 := by omega
  have HVA := Lib.hid hva
  have HLT := Lib.hid (validM_lt hva).2
  have HRL : Hid ((reachM h).length = h.cells.length) := reachM_len h
  clear v2_ hva
  go_enter Try.func170, Try.ntmps170
  go_wp2_with fail
  have hW0 : Below w.heap.size w (((w.alloc (.cells #[.slice A h.cells.length c, .slice A' h.roots.length c'] 32)).alloc (.cells #[] 3))) := (by repeat (first | ((with_reducible refine Below.setc ?_ ?_ _); focus (first | omega | (simp; done) | (simp; omega))) | ((with_reducible refine Below.allocc ?_ ?_ _); focus (first | omega | (simp; done) | (simp; omega))) | (with_reducible refine Below.drew ?_) | (with_reducible refine Below.drewn ?_) | (with_reducible assumption) | (with_reducible exact Below.refl _ _) | ((with_reducible refine Below.stepp (by with_reducible assumption) ?_ ?_); focus (first | omega | (simp; done) | (simp; omega)))))
  have hz0 : (((w.alloc (.cells #[.slice A h.cells.length c, .slice A' h.roots.length c'] 32)).alloc (.cells #[] 3))).heap.size = w.heap.size + 2 := by simp
  have hK0 : OF 3 fi (((w.alloc (.cells #[.slice A h.cells.length c, .slice A' h.roots.length c'] 32)).alloc (.cells #[] 3))) (some ⟨w.heap.size + 1, 0, none⟩) 0 ([] : List Int) := OF.new0 (heap_alloc_at _ _ _ (by simp))
  have HK0 := Lib.hid hK0
  clear hK0
  generalize (((w.alloc (.cells #[.slice A h.cells.length c, .slice A' h.roots.length c'] 32)).alloc (.cells #[] 3))) = W0 at *
  (with_reducible refine (l7Reach_any _ h A' h.roots c' _ (hv0.below (by repeat (first | ((with_reducible refine Below.setc ?_ ?_ _); focus (first | omega | (simp; done) | (simp; omega))) | ((with_reducible refine Below.allocc ?_ ?_ _); focus (first | omega | (simp; done) | (simp; omega))) | (with_reducible refine Below.drew ?_) | (with_reducible refine Below.drewn ?_) | (with_reducible assumption) | (with_reducible exact Below.refl _ _) | ((with_reducible refine Below.stepp (by with_reducible assumption) ?_ ?_); focus (first | omega | (simp; done) | (simp; omega)))))) HVA.out (hr.below (by repeat (first | ((with_reducible refine Below.setc ?_ ?_ _); focus (first | omega | (simp; done) | (simp; omega))) | ((with_reducible refine Below.allocc ?_ ?_ _); focus (first | omega | (simp; done) | (simp; omega))) | (with_reducible refine Below.drew ?_) | (with_reducible refine Below.drewn ?_) | (with_reducible assumption) | (with_reducible exact Below.refl _ _) | ((with_reducible refine Below.stepp (by with_reducible assumption) ?_ ?_); focus (first | omega | (simp; done) | (simp; omega)))))) (by omega) HLT.out).mono ?_)
  rintro e w2 ⟨U, cU, rfl, hU, hUlo, hB⟩
  have hU2 : OF 4 fb w2 U cU (reachM h) := hU
  have hUL : ∀ b ∈ blk U, W0.heap.size ≤ b := hUlo
  have Y : Below W0.heap.size W0 w2 := hB
  have HU := Lib.hid hU2
  have HK := Lib.hid (HK0.out.below Y)
  clear hU hUlo hU2 hB HK0
  go_wp2
  go_loopw [3, 5] (fun s3 i wr => ∃ (j : Nat) (S : Option Addr) (cS : Nat), j ≤ h.cells.length ∧ i = .int .i64 j ∧ s3 = .slice S (slideN h j).length cS ∧ Hid (OF 3 fi wr S cS (slideN h j)) ∧ Hid (OF 4 fb wr U cU (reachM h)) ∧ Hid (∀ b ∈ blk S, w.heap.size + 1 ≤ b ∧ b ∉ blk U) ∧ Below (w.heap.size + 1) W0 wr) (fun _ i _ => h.cells.length - (intOf i).toNat)
  case atStart => exact ⟨0, some ⟨w.heap.size + 1, 0, none⟩, 0, by omega, rfl, by simp [slideN], by unfold Hid; simpa [slideN] using HK.out, HU, fun b hb => (by have := mem_blk_some hb; exact ⟨by omega, fun hc => by have := hUL b hc; omega⟩), Y.mono (by omega)⟩
  case round =>
    clear HU HK Y
    obtain ⟨j, S, cS, hj, rfl, rfl, HK, HU, HSL, Y⟩ := hrel
    have sY := Y.size
    have hsl := slideN_len h j
    by_cases hlt : j < h.cells.length
    · have hjr : j < (reachM h).length := by rw [HRL.out]; exact hlt
      have hu := List.getElem?_eq_getElem hjr
      obtain ⟨x, hx⟩ : ∃ x, x = (reachM h)[j] := ⟨_, rfl⟩
      rw [← hx] at hu
      obtain ⟨g, hg, -⟩ := HU.out.some_ hjr
      subst hg
      have n5 : wr.cell? ⟨g, j, none⟩ = some (.bool x) := HU.out.cell hu
      have HXJ : Hid ((reachM h).getD j false = x) := by unfold Hid; rw [List.getD, hu]; rfl
      have HS := Lib.hid (slideN_succ h j)
      clear hx hu
      rcases bool_ft x with rfl | rfl
      · have HN : Hid (slideN h (j + 1) = slideN h j) := by unfold Hid; rw [HS.out, HXJ.out, if_neg (by simp)]
        go_wp2
        go_roundw
        case rel => exact ⟨j + 1, S, cS, by omega, by go_num, by rw [HN.out], by unfold Hid; rw [HN.out]; exact HK.out, HU, HSL, Y⟩
        case measure => simp [intOf]; omega
      · have HN : Hid (slideN h (j + 1) = slideN h j ++ [(j : Int)]) := by unfold Hid; rw [HS.out, HXJ.out, if_pos rfl]
        go_wp2_with (at_builtin; (refine wpList_appi rfl (.tmp 21) (.tmp 23) rfl (slideN h j) rfl rfl (HK.out.below (by repeat (first | ((with_reducible refine Below.setc ?_ ?_ _); focus (first | omega | (simp; done) | (simp; omega))) | ((with_reducible refine Below.allocc ?_ ?_ _); focus (first | omega | (simp; done) | (simp; omega))) | (with_reducible refine Below.drew ?_) | (with_reducible refine Below.drewn ?_) | (with_reducible assumption) | (with_reducible exact Below.refl _ _) | ((with_reducible refine Below.stepp (by with_reducible assumption) ?_ ?_); focus (first | omega | (simp; done) | (simp; omega)))))) (RF.singR (x := (j : Int)) (by simp [go_sem, fi])) (by simp; omega) ?_); intro S2 cS2 w3 hO3 hOn3 hg3; have HB3 : Hid (Below (w.heap.size + 1) W0 w3) := Below.trans (by repeat (first | ((with_reducible refine Below.setc ?_ ?_ _); focus (first | omega | (simp; done) | (simp; omega))) | ((with_reducible refine Below.allocc ?_ ?_ _); focus (first | omega | (simp; done) | (simp; omega))) | (with_reducible refine Below.drew ?_) | (with_reducible refine Below.drewn ?_) | (with_reducible assumption) | (with_reducible exact Below.refl _ _) | ((with_reducible refine Below.stepp (by with_reducible assumption) ?_ ?_); focus (first | omega | (simp; done) | (simp; omega))))) (hOn3.below (by simp; omega) (fun b9 hb9 => (HSL.out b9 hb9).1)); have HU3 : Hid (OF 4 fb w3 (some ⟨g, 0, none⟩) cU (reachM h)) := OF.only (HU.out.below (by repeat (first | ((with_reducible refine Below.setc ?_ ?_ _); focus (first | omega | (simp; done) | (simp; omega))) | ((with_reducible refine Below.allocc ?_ ?_ _); focus (first | omega | (simp; done) | (simp; omega))) | (with_reducible refine Below.drew ?_) | (with_reducible refine Below.drewn ?_) | (with_reducible assumption) | (with_reducible exact Below.refl _ _) | ((with_reducible refine Below.stepp (by with_reducible assumption) ?_ ?_); focus (first | omega | (simp; done) | (simp; omega)))))) hOn3 (fun b9 hb9 hc9 => (HSL.out b9 hc9).2 hb9); have HSL3 : Hid (∀ b9 ∈ blk S2, w.heap.size + 1 ≤ b9 ∧ b9 ∉ blk (some ⟨g, 0, none⟩)) := (fun b9 hb9 => by rcases hg3 b9 hb9 with h9 | h9; exact HSL.out b9 h9; exact ⟨by (try simp at h9); omega, fun hc9 => by have h8 := HU.out.lt b9 hc9; (try simp at h9); omega⟩); have HK3 := Lib.hid hO3; clear hO3 hOn3 hg3)
        go_roundw
        case rel => exact ⟨j + 1, S2, cS2, by omega, by go_num, by rw [HN.out]; simp, by unfold Hid; rw [HN.out]; exact HK3.out, HU3, HSL3, HB3.out⟩
        case measure => simp [intOf]; omega
    · have hje : j = h.cells.length := by omega
      subst hje
      have hge : ¬ (h.cells.length : Int) < ((reachM h).length : Int) := by rw [HRL.out]; omega
      go_wp2
      go_ret
      exact ⟨S, cS, rfl, HK.out, fun b hb => by have := (HSL.out b hb).1; omega, hW0.trans (Y.mono (by omega))⟩
end Go.Proofs.Ytkmfhadanbfadaa
