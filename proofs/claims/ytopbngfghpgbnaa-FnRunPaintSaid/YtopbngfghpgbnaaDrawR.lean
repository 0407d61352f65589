/- What the laws draw: a program and a script. -/
import Derived.Test.YtopbngfghpgbnaaChecked
import Derived.Deep.QuietTactic
import Derived.BigQuiet
import Derived.IntWalk
import Derived.Deep.RegionWith
import Derived.Test.YtopbngfghpgbnaaGrDraw
import Derived.Test.YtopbngfghpgbnaaGrCopy
import Derived.Test.YtopbngfghpgbnaaGrCtx
import Derived.Test.YtopbngfghpgbnaaGrClo
import Derived.Test.YtopbngfghpgbnaaKb
namespace Go.Proofs.Ytopbngfghpgbnaa
open Go.RowKit
set_option maxRecDepth 100000
set_option linter.unusedSimpArgs false
set_option linter.unusedVariables false
/-- A program and a script, as two slices. -/
def RPD (w : World) (v1 v2 : Value) : Prop := ∃ (L : List CmdM) (S : Option Addr) (cS : Nat) (s : List Int) (S2 : Option Addr) (c2 : Nat), v1 = .slice S L.length cS ∧ v2 = .slice S2 s.length c2 ∧ RO w S L ∧ L.length ≤ 41 ∧ RF fi w S2 s ∧ s.length ≤ 100
theorem OO.not_int {w : World} {A A' : Option Addr} {c c' : Nat} {os : List CmdM} {xs : List Int} (h : OO w A c os) (h' : OF 3 fi w A' c' xs) : ∀ g ∈ blk A, g ∉ blk A' := ownsRow_type_ne h h' (by decide)
set_option maxHeartbeats 8000000 in
theorem drawRunPaint_any (C : Option Addr) (bs : List Int) (c : Nat) (w : World) (hr : RF fu w C bs) (hb : ∀ x ∈ bs, 0 ≤ x ∧ x < 256) (hc : bs.length ≤ c) (hc2 : c ≤ 9223372036854775807) :
    Calls Try.prog 37 #[.slice C bs.length c] w fun e w' => ∃ v1 v2, e = .returned (.tuple #[v1, v2]) ∧ RPD w' v1 v2 ∧ Below w.heap.size w w' := by
  go_enter Try.func37, Try.ntmps37
  go_wp2_with fail
  (with_reducible refine (l20Open_any C bs c _ hr hb hc hc2).mono ?_); rintro e w1 ⟨g, rfl, HR, hB⟩
  have hg := HR.lt
  have HB := hB
  clear hr hB
  go_wp2_with fail
  (with_reducible refine (l20Program_any w.heap.size g 10000 16 _ (HR.le (by omega)) (by omega) (by omega)).mono ?_); rintro e w2 ⟨L, S, cS, rfl, hS, hSB, hL, -, hO1, HR⟩
  have HB := HB.trans (hO1.below (B := w.heap.size) HB.size (by simp; omega))
  have hz2 := hO1.size
  have HSB : Hid (∀ x ∈ blk S, g < x) := fun x hx => by have := hSB x hx; omega
  clear hO1 hSB
  go_upto_region 4 with fail
  refine Code.gen (fun W => OO W S cS L ∧ OF 3 fi W (some ⟨w2.heap.size, 0, none⟩) 0 ([] : List Int) ∧ Below w.heap.size w W ∧ w2.heap.size < W.heap.size ∧ Rd w.heap.size W g 10000) ⟨hS.below blw_, OF.new0 (heap_alloc_at _ _ _ (by simp)), blw_, by simp, HR.below blw_⟩ ?_
  have hg2 : Hid (g < w2.heap.size ∧ w.heap.size ≤ g) := ⟨by omega, hg.2⟩
  generalize w2.heap.size = b0 at hg2 ⊢
  clear HR hS HB hg hz2
  rintro W ⟨HS, HO2, HB, hb0, HR⟩
  go_wp2_with fail
  (with_reducible refine (pick_any w.heap.size g 9999 8 _ (HR.le (by omega)) (by omega) (by omega)).mono ?_); rintro e w3 ⟨k, rfl, hk, -, hO1, HR⟩
  have hk8 := hk (by omega)
  have HS := Lib.hid (HS.only hO1 (fun x hx hc => by have := HSB.out x hx; simp at hc; omega))
  have HO2 := Lib.hid (HO2.only hO1 (fun x hx hc => by have := mem_blk_some hx; have := hg2.out; simp at hc; omega))
  have HB := HB.trans (hO1.below (B := w.heap.size) HB.size (by have := hg2.out; simp; omega))
  clear hO1 hk
  go_wp2
  go_loopw [6, 7] (fun s6 s7 W => ∃ (j : Nat) (s : List Int) (S2 : Option Addr) (c2 : Nat), s6 = .slice S2 s.length c2 ∧ s7 = .int .i64 (j : Int) ∧ s.length + j ≤ 8 ∧ Hid (OO W S cS L) ∧ Hid (OF 3 fi W S2 c2 s) ∧ Hid (∀ x ∈ blk S2, g < x) ∧ Below w.heap.size w W ∧ Rd w.heap.size W g (200 + 10 * j)) (fun _ s7 _ => (intOf s7).toNat)
  case atStart => exact ⟨1 + k, [], some ⟨b0, 0, none⟩, 0, rfl, by simp, by simp; omega, HS, HO2, fun x hx => by have := mem_blk_some hx; have := hg2.out; omega, HB, HR.le (by omega)⟩
  case round =>
    clear HS HO2 HB HR hk8
    obtain ⟨j, s, S2, c2, rfl, rfl, hj, HS, HO2, HS2, HB, HR⟩ := hrel
    have hgw : w.heap.size ≤ g := hg2.out.2
    by_cases hj0 : 0 < j
    · have hj0i : (0 : Int) < (j : Int) := by omega
      go_wp2_with fail
      (with_reducible refine (pick_any w.heap.size g (199 + 10 * j) 5 _ (HR.le (by omega)) (by omega) (by omega)).mono ?_); rintro e w4 ⟨y, rfl, hy, -, hO1, HR⟩
      have hy5 := hy (by omega)
      have HS := Lib.hid (HS.out.only hO1 (fun x hx hc => by have := HSB.out x hx; simp at hc; omega))
      have HO2 := Lib.hid (HO2.out.only hO1 (fun x hx hc => by have := HS2.out x hx; simp at hc; omega))
      have HB := HB.trans (hO1.below (B := w.heap.size) HB.size (by simp; omega))
      have hgs := HR.lt.1
      have zB := HB.size
      clear hO1 hy
      have hsl : (s.length : Int) + 1 < 1099511627776 := by omega
      go_wp2_with (at_builtin; (refine wpList_appi rfl (.tmp 20) (.tmp 24) rfl s rfl rfl (HO2.out.below blw_) (RF.singR (x := (y : Int) - 1) (by simp [go_sem, fi])) (by simp; omega) ?_); intro S3 c3 w6 hO3 hOn3 hg3; have hBk : Below (g + 1) w4 w6 := Below.trans (show Below (g + 1) w4 _ from (Below.refl _ _).alloc (by omega) _) (hOn3.below (by simp; omega) (fun b9 hb9 => by have := HS2.out b9 hb9; omega)); have HS3 := Lib.hid ((HS.out.below blw_).only hOn3 (OO.not_int (HS.out.below blw_) (HO2.out.below blw_))); have HO3_ := Lib.hid hO3; have HS23 : Hid (∀ x ∈ blk S3, g < x) := (fun b9 hb9 => by rcases hg3 b9 hb9 with h9 | h9; exact HS2.out b9 h9; (try simp at h9); omega); have HB3 : Below w.heap.size w w6 := HB.trans (hBk.mono (by omega)); have HR3 := HR.keep hBk; clear hO3 hOn3 hg3 hBk)
      go_roundw
      case rel => exact ⟨j - 1, s ++ [(y : Int) - 1], S3, c3, by simp, by rw [show ((j - 1 : Nat) : Int) = (j : Int) - 1 by omega], by simp; omega, HS3, HO3_, HS23, HB3, HR3.le (by omega)⟩
      case measure => simp [intOf]; omega
    · have hj0i : ¬ (0 : Int) < (j : Int) := by omega
      have HR := HR.le (K' := 200) (by omega)
      have hsl : s.length ≤ 8 := by omega
      clear hj hj0
      go_wp2_with fail
      (with_reducible refine (odd_any w.heap.size g 190 12 _ (HR.le (by omega)) (by omega) (by omega)).mono ?_); rintro e w4 ⟨b, rfl, -, hO1, HR⟩
      have HS := Lib.hid (HS.out.only hO1 (fun x hx hc => by have := HSB.out x hx; simp at hc; omega))
      have HO2 := Lib.hid (HO2.out.only hO1 (fun x hx hc => by have := HS2.out x hx; simp at hc; omega))
      have HB := HB.trans (hO1.below (B := w.heap.size) HB.size (by simp; omega))
      clear hO1
      cases b with
      | false =>
        go_wp2_with fail
        (with_reducible refine (odd_any w.heap.size g 100 24 _ (HR.le (by omega)) (by omega) (by omega)).mono ?_); rintro e w7 ⟨b, rfl, -, hO1, HR⟩
        have HS := HS.out.only hO1 (fun x hx hc => by have := HSB.out x hx; simp at hc; omega)
        have HO2 := HO2.out.only hO1 (fun x hx hc => by have := HS2.out x hx; simp at hc; omega)
        have HB := HB.trans (hO1.below (B := w.heap.size) HB.size (by simp; omega))
        have zB := HB.size
        clear hO1
        cases b with
        | false =>
          go_wp2_with fail
          refine bodyPost_ret (v := .tuple #[.slice S L.length cS, .slice S2 s.length c2]) (by simp [results, Try.results37, go_sem]) rfl ⟨_, _, rfl, ⟨L, S, cS, s, S2, c2, rfl, rfl, HS.ro, hL, HO2.rf, by omega⟩, HB⟩
        | true =>
          go_wp2_with fail
          refine bodyPost_ret (v := .tuple #[.slice S L.length cS, .slice (some ⟨w7.heap.size, 0, none⟩) 0 0]) (by simp [results, Try.results37, go_sem]) rfl ⟨_, _, rfl, ⟨L, S, cS, [], some ⟨w7.heap.size, 0, none⟩, 0, rfl, rfl, (HS.below blw_).ro, hL, fun i hi => by simp at hi, by simp⟩, blw_⟩
      | true =>
        have hgs := HR.lt.1
        go_wp2_with fail
        (with_reducible refine (pick_any w.heap.size g 180 2 _ ((HR.below blw_).le (by omega)) (by omega) (by omega)).mono ?_); rintro e w5 ⟨y, rfl, hy, -, hO1, HR⟩
        have hy2 := hy (by omega)
        have HS := Lib.hid ((HS.out.below (w' := w4.alloc (.cells #[.int .i64 (-2), .int .i64 6] 3 (0, 0))) blw_).only hO1 (fun x hx hc => by have := HSB.out x hx; simp at hc; omega))
        have HO2 := Lib.hid ((HO2.out.below (w' := w4.alloc (.cells #[.int .i64 (-2), .int .i64 6] 3 (0, 0))) blw_).only hO1 (fun x hx hc => by have := HS2.out x hx; simp at hc; omega))
        have hcell : ∃ z : Int, w5.cell? ⟨w4.heap.size, y, none⟩ = some (.int .i64 z) := by
          rcases (by omega : y = 0 ∨ y = 1) with rfl | rfl
          · exact ⟨-2, hO1.cell (by simp [go_sem]) (by simp; omega)⟩
          · exact ⟨6, hO1.cell (by simp [go_sem]) (by simp; omega)⟩
        obtain ⟨z, hcell⟩ := hcell
        have zb0 := HB.size
        have HB := (HB.alloc zb0 (.cells #[.int .i64 (-2), .int .i64 6] 3 (0, 0))).trans (hO1.below (B := w.heap.size) (by simp; omega) (by simp; omega))
        have hgs := HR.lt.1
        have zB := HB.size
        have hlt5 := World.block_lt_of_cell? w5 _ hcell
        have iy : (0 : Int) ≤ (y : Int) ∧ (y : Int) < 2 := by omega
        clear hO1 hy
        go_wp2_with (at_builtin; (refine wpList_appi rfl (.tmp 28) (.tmp 34) rfl s rfl rfl (HO2.out.below blw_) (RF.singR (x := z) (by simp [go_sem, fi])) (by simp; omega) ?_); intro S3 c3 w6 hO3 hOn3 hg3; have hBk : Below (g + 1) w5 w6 := Below.trans (show Below (g + 1) w5 _ from (Below.refl _ _).alloc (by omega) _) (hOn3.below (by simp; omega) (fun b9 hb9 => by have := HS2.out b9 hb9; omega)); have HS3 := Lib.hid ((HS.out.below blw_).only hOn3 (OO.not_int (HS.out.below blw_) (HO2.out.below blw_))); have HO3_ := Lib.hid hO3; have HS23 : Hid (∀ x ∈ blk S3, g < x) := (fun b9 hb9 => by rcases hg3 b9 hb9 with h9 | h9; exact HS2.out b9 h9; (try simp at h9); omega); have HB3 : Below w.heap.size w w6 := HB.trans (hBk.mono (by omega)); have HR3 := HR.keep hBk; clear hO3 hOn3 hg3 hBk)
        clear hcell hlt5 HS HO2 HB HR HS2
        have HS := HS3
        have HO2 := HO3_
        have HB := HB3
        have HR := HR3
        have HS2 := HS23
        have hsl : (s ++ [z]).length ≤ 9 := by simp; omega
        go_wp2_with fail
        (with_reducible refine (odd_any w.heap.size g 100 24 _ (HR.le (by omega)) (by omega) (by omega)).mono ?_); rintro e w7 ⟨b, rfl, -, hO1, HR⟩
        have HS := HS.out.only hO1 (fun x hx hc => by have := HSB.out x hx; simp at hc; omega)
        have HO2 := HO2.out.only hO1 (fun x hx hc => by have := HS2.out x hx; simp at hc; omega)
        have HB := HB.trans (hO1.below (B := w.heap.size) HB.size (by simp; omega))
        have zB := HB.size
        clear hO1
        cases b with
        | false =>
          go_wp2_with fail
          refine bodyPost_ret (v := .tuple #[.slice S L.length cS, .slice S3 (s.length + 1) c3]) (by simp [results, Try.results37, go_sem]) rfl ⟨_, _, rfl, ⟨L, S, cS, s ++ [z], S3, c3, rfl, by simp, HS.ro, hL, HO2.rf, by omega⟩, HB⟩
        | true =>
          go_wp2_with fail
          refine bodyPost_ret (v := .tuple #[.slice S L.length cS, .slice (some ⟨w7.heap.size, 0, none⟩) 0 0]) (by simp [results, Try.results37, go_sem]) rfl ⟨_, _, rfl, ⟨L, S, cS, [], some ⟨w7.heap.size, 0, none⟩, 0, rfl, rfl, (HS.below blw_).ro, hL, fun i hi => by simp at hi, by simp⟩, blw_⟩
end Go.Proofs.Ytopbngfghpgbnaa
