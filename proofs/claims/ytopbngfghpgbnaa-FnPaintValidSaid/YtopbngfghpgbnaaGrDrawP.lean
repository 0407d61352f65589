/- Texts of one family, one behind the other: DrawP, DrawPD. -/
import Derived.Test.YtopbngfghpgbnaaChecked
import Derived.Deep.QuietTactic
import Derived.BigQuiet
import Derived.IntWalk
import Derived.Deep.RegionWith
import Derived.Test.YtopbngfghpgbnaaKb
import Derived.Test.YtopbngfghpgbnaaGrDraw
import Derived.Test.YtopbngfghpgbnaaRelQ
import Derived.Test.YtopbngfghpgbnaaPaintE
import Derived.Test.YtopbngfghpgbnaaPaintCS
import Derived.Test.YtopbngfghpgbnaaPaintFinS
import Derived.Test.YtopbngfghpgbnaaPaintStp
import Derived.Test.YtopbngfghpgbnaaCmdsV
import Derived.Test.YtopbngfghpgbnaaGrIso
import Derived.Test.YtopbngfghpgbnaaGrCtx
/- The reference's drawing: painted heaps. -/
namespace Go.Proofs.Ytopbngfghpgbnaa
open Go.RowKit
set_option maxRecDepth 100000
set_option linter.unusedSimpArgs false
set_option linter.unusedVariables false
/-- What is drawn: it reads, while the blocks from lo on stay. -/
def SQP (lo : Nat) (w : World) (v : Value) : Prop := ∃ p : PaintM, SQ (fun W => RPt W v p) lo w
theorem okP_start {q : PaintM} (h : paintM q = true) : paintM (paintStartM q) = true := by unfold paintStartM; rw [if_pos h]; exact paintM_start h
theorem okP_step {q : PaintM} (h : paintM q = true) : paintM (paintStepM q).1 = true := by unfold paintStepM; rw [if_pos h]; exact paintM_step h
theorem okP_fin {q : PaintM} (h : paintM q = true) : paintM (paintFinishM q).1 = true := by unfold paintFinishM; rw [if_pos h]; exact paintM_finish h
theorem okP_cmd {q : PaintM} {o : CmdM} (h : paintM q = true) (ho : cmdOk o = true) : paintM (paintCmdM q o).1 = true := by
  unfold paintCmdM
  rw [if_pos (by rw [h, ho]; rfl)]
  split
  · rename_i hc; exact (law_PaintCommand h ho hc).1
  · exact h
theorem okP_len {q : PaintM} (h : paintM q = true) : q.colours.length ≤ 1048576 := by
  obtain ⟨h1, h2⟩ := paintM_parts h
  have := (valid_small h1).1
  omega
set_option maxHeartbeats 8000000 in
theorem l20Paint_any (lo g K : Nat) (n : Int) (w : World) (h : Rd lo w g (K + 7000)) (hn1 : 0 ≤ n) (hn2 : n ≤ 1048576) :
    Calls Try.prog 59 #[.pointer (some ⟨g, 0, none⟩), .int .i64 n] w fun e w' => ∃ v, e = .returned v ∧ SQP w.heap.size w' v ∧ Only [g] w w' ∧ Rd lo w' g K := by
  have hlt := h.lt.1
  go_enter Try.func59, Try.ntmps59
  go_wp2_with fail
  refine Calls.gen (fun W => Bx W w.heap.size [.slice none 0 0, .slice none 0 0, .slice none 0 0, .bool false] ∧ Only [g] w W ∧ Rd lo W g (K + 7000)) ⟨Bx.new w [.slice none 0 0, .slice none 0 0, .slice none 0 0, .bool false] 28, Only.of_below blw_, h.below blw_⟩ ?_
  clear h
  rintro W ⟨X4, HO, HR⟩
  (with_reducible refine (specEmptyHeap_any _).mono ?_)
  rintro e w2 ⟨v2, rfl, ⟨B, d, B', d', os, rfl, hm, hO, hlo⟩, hB⟩
  have hb4 := X4.lt
  have hzb := hB.size
  have X4 := X4.below hB
  have HO := HO.trans (Only.of_below hB)
  have HR := HR.below hB
  have hlo2 : ∀ b ∈ hblks B os B', w.heap.size + 1 ≤ b := fun b hb => by have h7 := hlo b hb; omega
  have hlt2 := hO.lt
  have hx3 : OF 3 fi (w2.alloc (.cells #[] 3 (0, 0))) (some ⟨w2.heap.size, 0, none⟩) 0 ([] : List Int) := OF.fresh0 (heap_alloc_at _ _ _ (by simp))
  have hP := PPx.mk_ (p := emptyP) (lo := w.heap.size + 1) (w := (w2.alloc (.cells #[] 3 (0, 0)))) (c := d) (c' := d') hm (hO.below blw_) hx3 (by rw [List.nodup_append]; refine ⟨hO.nodup, blk_nodup _, fun a ha b hb e => ?_⟩; have h7 := hlt2 a ha; have h8 := mem_blk_some hb; omega) (fun b hb => by rcases List.mem_append.1 hb with h7 | h7; exact hlo2 b h7; have := mem_blk_some h7; omega) (by simp [emptyP]) (by simp; omega) 28
  simp only [World.size_alloc] at hP
  have HP := Lib.hid hP
  clear hP hm hO hlo hlo2 hlt2 hx3 hB
  go_upto_region 2 with fail
  refine Code.gen (fun W => (∃ q A c A' c' os A2 c2, PPx (w.heap.size + 1) W (w2.heap.size + 1) q A c A' c' os A2 c2 ∧ Hid (paintM q = true)) ∧ Bx W w.heap.size [.slice none 0 0, .slice none 0 0, .slice none 0 0, .bool false] ∧ Only [g] w W ∧ Rd lo W g (K + 7000)) ⟨⟨emptyP, B, d, B', d', os, _, 0, by simpa [emptyP] using HP.out, paintM_empty⟩, X4.below blw_, HO.trans (Only.of_below blw_), HR.below blw_⟩ ?_
  have HN : Hid (w2.heap.size + 1 ≠ w.heap.size ∧ w.heap.size ≠ w2.heap.size + 1) := ⟨by omega, by omega⟩
  obtain ⟨b5, hb5⟩ : ∃ x, Hid (x = w2.heap.size + 1) := ⟨_, rfl⟩
  rw [← hb5.out] at HN ⊢
  clear HP X4 HO HR hb4 hzb
  rintro W ⟨⟨q, A, c, A', c', os, A2, c2, HP, HM⟩, X4, HO, HR⟩
  go_wp2_with fail
  (with_reducible refine (pick_any lo g (K + 6900) 40 _ (HR.le (by omega)) (by omega) (by omega)).mono ?_); rintro e w3 ⟨k, rfl, hk, -, hO1, HR⟩
  have hk40 := hk (by omega)
  have HP := HP.only hO1 (by omega)
  have X4 := X4.only hO1 (by simp; omega)
  have HO := HO.trans hO1
  clear hO1 hk
  go_wp2_with fail
  go_loopw [6] (fun s6 W => ∃ (j : Nat) (q : PaintM) (A : Option Addr) (c : Nat) (A' : Option Addr) (c' : Nat) (os : List OCell) (A2 : Option Addr) (c2 : Nat), s6 = .int .i64 (j : Int) ∧ j ≤ 39 ∧ PPx (w.heap.size + 1) W b5 q A c A' c' os A2 c2 ∧ Hid (paintM q = true) ∧ Bx W w.heap.size [.slice none 0 0, .slice none 0 0, .slice none 0 0, .bool false] ∧ Only [g] w W ∧ Rd lo W g (K + 100 + 150 * j)) (fun s6 _ => (intOf s6).toNat)
  case atStart => exact ⟨k, q, A, c, A', c', os, A2, c2, rfl, by omega, HP, HM, X4, HO, HR.le (by omega)⟩
  case round =>
    clear HP HM X4 HO HR hk40
    obtain ⟨j, q, A, c, A', c', os, A2, c2, rfl, hj, HP, HM, X4, HO, HR⟩ := hrel
    by_cases hj0 : 0 < j
    · have hj0i : (0 : Int) < (j : Int) := by omega
      go_wp2_with fail
      (with_reducible refine (pick_any lo g (K + 99 + 150 * j) 6 _ (HR.le (by omega)) (by omega) (by omega)).mono ?_); rintro e w4 ⟨k, rfl, hk, -, hO1, HR⟩
      have hk6 := hk (by omega)
      have HP := HP.only hO1 (by omega)
      have X4 := X4.only hO1 (by simp; omega)
      have HO := HO.trans hO1
      clear hO1 hk
      rcases (by omega : k = 0 ∨ k = 1 ∨ k = 2 ∨ k = 3 ∨ k = 4 ∨ k = 5) with rfl | rfl | rfl | hk3
      · have q0 := HP.q0; have q1 := HP.q1; have q2 := HP.q2; have q3 := HP.q3; have qf0 := HP.qf 0; have qf1 := HP.qf 1; have qf2 := HP.qf 2; have qf3 := HP.qf 3
        go_wp2_with fail
        (with_reducible refine (specPaintStart_any _ q _ HP.opt.rp).mono ?_)
        rintro e w5 ⟨v5, rfl, ⟨E, f, E', f', os5, E2, f2, rfl, hm5, hO5, hX5, hnd5, hlo5, hxl5⟩, hB⟩
        clear q0 q1 q2 q3 qf0 qf1 qf2 qf3
        have HM5 := Lib.hid (okP_start HM.out)
        (have hzb := hB.size; have HP5 := (HP.below hB).over1 hm5 hO5 hX5 hnd5 hlo5 hxl5 (by have := HP.lo_; have := HP.lt; omega) HP.lt; have X5 := X4.below hB; have HO5_ := HO.trans (Only.of_below hB); have HR5 := HR.below hB; have q0 := (HP.below hB).q0; have q1 := (HP.below hB).q1; have q2 := (HP.below hB).q2; have q3 := (HP.below hB).q3; have qf0 := (HP.below hB).qf 0; have qf1 := (HP.below hB).qf 1; have qf2 := (HP.below hB).qf 2; have qf3 := (HP.below hB).qf 3; have hnb := HN.out; have hlob := HP.lo_; clear HP X4 HO HR hB hm5 hO5 hX5 hnd5 hlo5 hxl5)
        go_wp2_with fail; go_roundw; (case rel => exact ⟨j - 1, _, E, f, E', f', os5, E2, f2, by rw [show ((j - 1 : Nat) : Int) = (j : Int) - 1 by omega], by omega, HP5, HM5, X5.only (S := [b5]) (by repeat (first | (with_reducible exact Only.refl _ _) | (with_reducible refine Only.drew ?_) | (refine Only.setCell ?_ (.inl (by simp)) _))) (by simp; omega), (by repeat (first | (with_reducible assumption) | (with_reducible refine Only.drew ?_) | (with_reducible refine Only.alloc ?_ _) | (refine Only.setCell ?_ (.inr (by simp only; omega)) _))), (HR5.keep (by repeat (first | (with_reducible exact Below.refl _ _) | (with_reducible refine Below.drew ?_) | ((with_reducible refine Below.allocc ?_ ?_ _); focus (first | omega | (simp; done) | (simp; omega))) | (refine Below.setCell ?_ (by simp only; omega) _)))).le (by omega)⟩); (case measure => simp [intOf]; omega)
      · have q0 := HP.q0; have q1 := HP.q1; have q2 := HP.q2; have q3 := HP.q3; have qf0 := HP.qf 0; have qf1 := HP.qf 1; have qf2 := HP.qf 2; have qf3 := HP.qf 3
        go_wp2_with fail
        (with_reducible refine (specPaintStep_any _ q _ HP.opt.rp).mono ?_)
        rintro e w5 ⟨v5, rfl, ⟨E, f, E', f', os5, E2, f2, rfl, hm5, hO5, hX5, hnd5, hlo5, hxl5⟩, hB⟩
        clear q0 q1 q2 q3 qf0 qf1 qf2 qf3
        have HM5 := Lib.hid (okP_step HM.out)
        (have hzb := hB.size; have HP5 := (HP.below hB).over1 hm5 hO5 hX5 hnd5 hlo5 hxl5 (by have := HP.lo_; have := HP.lt; omega) HP.lt; have X5 := X4.below hB; have HO5_ := HO.trans (Only.of_below hB); have HR5 := HR.below hB; have q0 := (HP.below hB).q0; have q1 := (HP.below hB).q1; have q2 := (HP.below hB).q2; have q3 := (HP.below hB).q3; have qf0 := (HP.below hB).qf 0; have qf1 := (HP.below hB).qf 1; have qf2 := (HP.below hB).qf 2; have qf3 := (HP.below hB).qf 3; have hnb := HN.out; have hlob := HP.lo_; clear HP X4 HO HR hB hm5 hO5 hX5 hnd5 hlo5 hxl5)
        go_wp2_with fail; go_roundw; (case rel => exact ⟨j - 1, _, E, f, E', f', os5, E2, f2, by rw [show ((j - 1 : Nat) : Int) = (j : Int) - 1 by omega], by omega, HP5, HM5, X5.only (S := [b5]) (by repeat (first | (with_reducible exact Only.refl _ _) | (with_reducible refine Only.drew ?_) | (refine Only.setCell ?_ (.inl (by simp)) _))) (by simp; omega), (by repeat (first | (with_reducible assumption) | (with_reducible refine Only.drew ?_) | (with_reducible refine Only.alloc ?_ _) | (refine Only.setCell ?_ (.inr (by simp only; omega)) _))), (HR5.keep (by repeat (first | (with_reducible exact Below.refl _ _) | (with_reducible refine Below.drew ?_) | ((with_reducible refine Below.allocc ?_ ?_ _); focus (first | omega | (simp; done) | (simp; omega))) | (refine Below.setCell ?_ (by simp only; omega) _)))).le (by omega)⟩); (case measure => simp [intOf]; omega)
      · go_wp2_with fail
        (with_reducible refine (pick_any lo g (K + 98 + 150 * j) 4 _ (HR.le (by omega)) (by omega) (by omega)).mono ?_); rintro e w5 ⟨y, rfl, hy, -, hO1, HR⟩
        have HP := HP.only hO1 (by omega)
        have X4 := X4.only hO1 (by simp; omega)
        have HO := HO.trans hO1
        clear hO1 hy
        by_cases hy0 : y = 0
        · subst hy0
          have q0 := HP.q0; have q1 := HP.q1; have q2 := HP.q2; have q3 := HP.q3; have qf0 := HP.qf 0; have qf1 := HP.qf 1; have qf2 := HP.qf 2; have qf3 := HP.qf 3
          go_wp2_with fail
          (with_reducible refine (specPaintFinish_any _ q _ HP.opt.rp).mono ?_)
          rintro e w5 ⟨v5, rfl, ⟨E, f, E', f', os5, E2, f2, rfl, hm5, hO5, hX5, hnd5, hlo5, hxl5⟩, hB⟩
          clear q0 q1 q2 q3 qf0 qf1 qf2 qf3
          have HM5 := Lib.hid (okP_fin HM.out)
          (have hzb := hB.size; have HP5 := (HP.below hB).over1 hm5 hO5 hX5 hnd5 hlo5 hxl5 (by have := HP.lo_; have := HP.lt; omega) HP.lt; have X5 := X4.below hB; have HO5_ := HO.trans (Only.of_below hB); have HR5 := HR.below hB; have q0 := (HP.below hB).q0; have q1 := (HP.below hB).q1; have q2 := (HP.below hB).q2; have q3 := (HP.below hB).q3; have qf0 := (HP.below hB).qf 0; have qf1 := (HP.below hB).qf 1; have qf2 := (HP.below hB).qf 2; have qf3 := (HP.below hB).qf 3; have hnb := HN.out; have hlob := HP.lo_; clear HP X4 HO HR hB hm5 hO5 hX5 hnd5 hlo5 hxl5)
          go_wp2_with fail; go_roundw; (case rel => exact ⟨j - 1, _, E, f, E', f', os5, E2, f2, by rw [show ((j - 1 : Nat) : Int) = (j : Int) - 1 by omega], by omega, HP5, HM5, X5.only (S := [b5]) (by repeat (first | (with_reducible exact Only.refl _ _) | (with_reducible refine Only.drew ?_) | (refine Only.setCell ?_ (.inl (by simp)) _))) (by simp; omega), (by repeat (first | (with_reducible assumption) | (with_reducible refine Only.drew ?_) | (with_reducible refine Only.alloc ?_ _) | (refine Only.setCell ?_ (.inr (by simp only; omega)) _))), (HR5.keep (by repeat (first | (with_reducible exact Below.refl _ _) | (with_reducible refine Below.drew ?_) | ((with_reducible refine Below.allocc ?_ ?_ _); focus (first | omega | (simp; done) | (simp; omega))) | (refine Below.setCell ?_ (by simp only; omega) _)))).le (by omega)⟩); (case measure => simp [intOf]; omega)
        · have hy1 : ((y : Int) == 0) = false := by rw [beq_eq_false_iff_ne]; omega
          clear hy0
          go_wp2_with fail
          go_roundw
          case rel => exact ⟨j - 1, q, A, c, A', c', os, A2, c2, by rw [show ((j - 1 : Nat) : Int) = (j : Int) - 1 by omega], by omega, HP, HM, X4, HO, HR.le (by omega)⟩
          case measure => simp [intOf]; omega
      · have k0 : ((k : Int) == 0) = false := by rw [beq_eq_false_iff_ne]; omega
        have k1 : ((k : Int) == 1) = false := by rw [beq_eq_false_iff_ne]; omega
        have k2 : ((k : Int) == 2) = false := by rw [beq_eq_false_iff_ne]; omega
        go_wp2_with fail
        refine wp_region_R (by kernel_rfl) (fun R wd hR hwd => ?_)
        have hBd : Below w4.heap.size w4 wd := by rw [hwd]; exact blw_
        have HP := HP.below hBd
        have X4 := X4.below hBd
        have HO := HO.trans (Only.of_below hBd)
        have HR := HR.below hBd
        have hnb := HN.out
        have hlob := HP.lo_
        have hltb := HP.lt
        clear hBd hwd
        rw [hR]
        (refine wpAny_take (i := 1) (v := ?v9_1_u0) rfl (by kernel_rfl) (by kernel_rfl) (by kernel_rfl) (fun _ _ _ h => h) (Or.inl ⟨by kernel_rfl, ?h9_1_u0⟩) ?r9_1_u0; (case h9_1_u0 => (intro w9; go_simp; try with_reducible rfl)))
        rw [← hR]
        refine rel_atq 6 (fr := ?fr_0) hR (fun f W => Only [g] wd W ∧ Rd lo W g (K + 90 + 150 * (j - 1) + 16 * f)) [(fun v W => v = .agg #[.slice A q.store.cells.length c, .slice A' q.store.roots.length c', .slice A2 q.colours.length c2, .bool q.active]), tt, (fun v W => ∃ o : CmdM, v = cmdV o ∧ cmdOk o = true), (fun v W => ∃ (u : Value) (y : PaintM) (b : Bool), v = .tuple #[u, .bool b] ∧ OPt (b5 + 1) W u y ∧ paintM y = true), (fun v W => ∃ (u : Value) (y : PaintM) (b : Bool), v = .tuple #[u, .bool b] ∧ OPt (b5 + 1) W u y ∧ paintM y = true), (fun v W => ∃ y : PaintM, OPt (b5 + 1) W v y ∧ paintM y = true), (fun v W => ∃ b : Bool, v = .bool b), tt] (fun W W' => Only [g] W W') [(0, []), (2, []), (3, [0, 2]), (4, [3, 0, 2]), (5, [4, 3, 0, 2]), (6, [4, 3, 0, 2]), (7, [0, 2, 3, 4, 5])] [(20, 0), (22, 2), (23, 3), (19, 4), (24, 5), (25, 6)] [0, 2, 3, 4, 5, 6] #[true, true, true, true, true, true, true, false] 7 1 (by kernel_rfl) (by kernel_rfl) rfl (fun _ _ _ _ h => h) (by kernel_rfl) (fun f W hI => ⟨hI.1, hI.2.le (by omega)⟩) ?hfr_0 ?h0_0 ?mono_0 ?float_0 ?steps_0 ?_
        case hfr_0 => intro x; (simp [frOf, fill, Act.put, List.lookup]; with_reducible rfl)
        case h0_0 => exact ⟨Only.refl _ _, HR.le (by omega)⟩
        case mono_0 => exact (Pm.cons (fun _ _ _ _ h => h) (Pm.cons (fun _ _ _ _ h => h) (Pm.cons (fun _ _ _ _ h => h) (Pm.cons (fun _ _ _ hG ⟨u, y, b, e, h9, hm⟩ => ⟨u, y, b, e, h9.only_ hG (by simp; omega), hm⟩) (Pm.cons (fun _ _ _ hG ⟨u, y, b, e, h9, hm⟩ => ⟨u, y, b, e, h9.only_ hG (by simp; omega), hm⟩) (Pm.cons (fun _ _ _ hG ⟨y, h9, hm⟩ => ⟨y, h9.only_ hG (by simp; omega), hm⟩) (Pm.cons (fun _ _ _ _ h => h) (Pm.cons (fun _ _ _ _ h => h) Pm.nil))))))))
        case steps_0 =>
          refine Steps.cons (RStep.of rfl fun x W f hI hD K9 hK => ?_) ?_
          · clear hD
            have c0 := (HP.only hI.1 (by omega)).q0
            have c1 := (HP.only hI.1 (by omega)).q1
            have c2_ := (HP.only hI.1 (by omega)).q2
            have c3 := (HP.only hI.1 (by omega)).q3
            go_simp
            exact hK (.agg #[.slice A q.store.cells.length c, .slice A' q.store.roots.length c', .slice A2 q.colours.length c2, .bool q.active]) _ _ (by kernel_rfl) (Only.refl _ _) (⟨hI.1, hI.2.le (by omega)⟩) rfl
          refine Steps.cons (RStep.of rfl fun x W f hI hD K9 hK => ?_) ?_
          · clear hD
            go_wp2_with fail
            (with_reducible refine (l20Command_any lo g (K + 90 + 150 * (j - 1) + 16 * f) 0 _ (hI.2.le (by omega)) (by omega) (by omega)).mono ?_)
            rintro e w6 ⟨o, rfl, hok, hO, hR6⟩
            exact hK (cmdV o) _ _ (by kernel_rfl) hO ⟨hI.1.trans hO, hR6⟩ ⟨o, rfl, hok rfl⟩
          refine Steps.cons (RStep.of rfl fun x W f hI hD K9 hK => ?_) ?_
          · have e0 : x 0 = .agg #[.slice A q.store.cells.length c, .slice A' q.store.roots.length c', .slice A2 q.colours.length c2, .bool q.active] := hD 0 (by decide)
            have h2 : (fun v W => ∃ o : CmdM, v = cmdV o ∧ cmdOk o = true) (x 2) W := hD 2 (by decide)
            clear hD
            simp only [e0] at hK ⊢
            obtain ⟨o, e2, hok⟩ := h2
            simp only [e2, cmdV] at hK ⊢
            go_wp2_with fail
            (with_reducible refine (specPaintCommand_any _ q o _ (HP.only hI.1 (by omega)).opt.rp).mono ?_)
            rintro e w6 ⟨v6, rfl, oH, hB⟩
            exact hK (.tuple #[v6, .bool (paintCmdM q o).2]) _ _ (by kernel_rfl) (Only.of_below hB) ⟨hI.1.trans (Only.of_below hB), (hI.2.below hB).le (by omega)⟩ ⟨v6, _, _, rfl, oH.lo_ (by have := hI.1.size; omega), okP_cmd HM.out hok⟩
          refine Steps.cons (RStep.of rfl fun x W f hI hD K9 hK => ?_) ?_
          · have h3 : (fun v W => ∃ (u : Value) (y : PaintM) (b : Bool), v = .tuple #[u, .bool b] ∧ OPt (b5 + 1) W u y ∧ paintM y = true) (x 3) W := hD 3 (by decide)
            clear hD
            obtain ⟨u, y, b, e3, h9, hm⟩ := h3
            simp only [e3] at hK ⊢
            go_simp
            exact hK (.tuple #[u, .bool b]) _ _ (by kernel_rfl) (Only.refl _ _) ⟨hI.1, hI.2.le (by omega)⟩ ⟨u, y, b, rfl, h9, hm⟩
          refine Steps.cons (RStep.of rfl fun x W f hI hD K9 hK => ?_) ?_
          · have h4 : (fun v W => ∃ (u : Value) (y : PaintM) (b : Bool), v = .tuple #[u, .bool b] ∧ OPt (b5 + 1) W u y ∧ paintM y = true) (x 4) W := hD 4 (by decide)
            clear hD
            obtain ⟨u, y, b, e4, h9, hm⟩ := h4
            simp only [e4] at hK ⊢
            go_simp
            exact hK u _ _ (by kernel_rfl) (Only.refl _ _) ⟨hI.1, hI.2.le (by omega)⟩ ⟨y, h9, hm⟩
          refine Steps.cons (RStep.of rfl fun x W f hI hD K9 hK => ?_) ?_
          · have h4 : (fun v W => ∃ (u : Value) (y : PaintM) (b : Bool), v = .tuple #[u, .bool b] ∧ OPt (b5 + 1) W u y ∧ paintM y = true) (x 4) W := hD 4 (by decide)
            clear hD
            obtain ⟨u, y, b, e4, h9, hm⟩ := h4
            simp only [e4] at hK ⊢
            go_simp
            exact hK (.bool b) _ _ (by kernel_rfl) (Only.refl _ _) ⟨hI.1, hI.2.le (by omega)⟩ ⟨b, rfl⟩
          exact Steps.nil
        case float_0 =>
          intro x W hD
          have h4 : (fun v W => ∃ (u : Value) (y : PaintM) (b : Bool), v = .tuple #[u, .bool b] ∧ OPt (b5 + 1) W u y ∧ paintM y = true) (x 4) W := hD 4 (by decide)
          obtain ⟨u, y, b, e4, h9, hm⟩ := h4
          simp only [e4]
          refine ⟨_, .bool b, rfl, .inl ⟨by kernel_rfl, fun w9 => ?_⟩, ⟨b, rfl⟩⟩
          go_simp
        intro x W hI hV
        have e0 : x 0 = .agg #[.slice A q.store.cells.length c, .slice A' q.store.roots.length c', .slice A2 q.colours.length c2, .bool q.active] := hV 0 (by decide)
        have h2 : (fun v W => ∃ o : CmdM, v = cmdV o ∧ cmdOk o = true) (x 2) W := hV 2 (by decide)
        have h3 : (fun v W => ∃ (u : Value) (y : PaintM) (b : Bool), v = .tuple #[u, .bool b] ∧ OPt (b5 + 1) W u y ∧ paintM y = true) (x 3) W := hV 3 (by decide)
        have h4 : (fun v W => ∃ (u : Value) (y : PaintM) (b : Bool), v = .tuple #[u, .bool b] ∧ OPt (b5 + 1) W u y ∧ paintM y = true) (x 4) W := hV 4 (by decide)
        have h5 : (fun v W => ∃ y : PaintM, OPt (b5 + 1) W v y ∧ paintM y = true) (x 5) W := hV 5 (by decide)
        have h6 : (fun v W => ∃ b : Bool, v = .bool b) (x 6) W := hV 6 (by decide)
        clear hV
        simp only [e0]
        obtain ⟨y, ⟨E, f, E', f', os5, E2, f2, e5, hm5, hO5, hX5, hnd5, hlo5, hxl5⟩, hmy⟩ := h5
        have HM5 := Lib.hid hmy
        clear hmy
        obtain ⟨b6, e6_⟩ := h6
        simp only [e5, e6_]
        clear h2 h3 h4
        have HPW := HP.only hI.1 (by omega)
        have HP5 := HPW.over1 hm5 hO5 hX5 hnd5 hlo5 hxl5 (by omega) (by omega)
        have X5 := X4.only hI.1 (by simp; omega)
        have HO5_ := HO.trans hI.1
        have HR5 := hI.2
        have q0 := HPW.q0
        have q1 := HPW.q1
        have q2 := HPW.q2
        have q3 := HPW.q3
        have qf0 := HPW.qf 0
        have qf1 := HPW.qf 1
        have qf2 := HPW.qf 2
        have qf3 := HPW.qf 3
        clear HP X4 HO HR hI HPW hm5 hO5 hX5 hnd5 hlo5 hxl5
        rw [hR]
        refine wpAny_ready (rs := [7]) (by kernel_rfl) (by simp) ?_
        refine AllReady.cons rfl (fun K9 hK9 => ?_) AllReady.nil
        go_simp
        refine hK9 _ _ ?_
        clear hK9
        refine wpAny_done (by kernel_rfl) ?_ _
        clear hR
        go_wp2_with fail; go_roundw; (case rel => exact ⟨j - 1, _, E, f, E', f', os5, E2, f2, by rw [show ((j - 1 : Nat) : Int) = (j : Int) - 1 by omega], by omega, HP5, HM5, X5.only (S := [b5]) (by repeat (first | (with_reducible exact Only.refl _ _) | (with_reducible refine Only.drew ?_) | (refine Only.setCell ?_ (.inl (by simp)) _))) (by simp; omega), (by repeat (first | (with_reducible assumption) | (with_reducible refine Only.drew ?_) | (with_reducible refine Only.alloc ?_ _) | (refine Only.setCell ?_ (.inr (by simp only; omega)) _))), (HR5.keep (by repeat (first | (with_reducible exact Below.refl _ _) | (with_reducible refine Below.drew ?_) | ((with_reducible refine Below.allocc ?_ ?_ _); focus (first | omega | (simp; done) | (simp; omega))) | (refine Below.setCell ?_ (by simp only; omega) _)))).le (by omega)⟩); (case measure => simp [intOf]; omega)
    · have hj0i : ¬ (0 : Int) < (j : Int) := by omega
      have hlob := HP.lo_
      have HR := HR.le (K' := K + 90) (by omega)
      clear hj hj0
      by_cases hl0 : q.colours.length = 0
      · have q0 := HP.q0; have q1 := HP.q1; have q2 := HP.q2; have q3 := HP.q3; have z0 := X4.c 0 _ rfl; have z1 := X4.c 1 _ rfl; have z2 := X4.c 2 _ rfl; have z3 := X4.c 3 _ rfl; have zf0 := X4.f 0; have zf1 := X4.f 1; have zf2 := X4.f 2; have zf3 := X4.f 3; have n1 := HN.out.1; have n2 := HN.out.2
        have hl1 : ¬ ((0 : Int) < (q.colours.length : Int)) := by omega
        clear hl0
        go_wp2_with fail
        refine bodyPost_ret (v := .agg #[.slice A q.store.cells.length c, .slice A' q.store.roots.length c', .slice A2 q.colours.length c2, .bool q.active]) (by simp [results, Try.results59, go_sem, q0, q1, q2, q3, z0, z1, z2, z3, n1, n2]) rfl ⟨_, rfl, ⟨_, ((HP.kb.only (S := [w.heap.size]) (by repeat (first | (with_reducible exact Only.refl _ _) | (with_reducible refine Only.drew ?_) | (refine Only.setCell ?_ (.inl (by simp)) _))) (fun x hx hc => by have := HP.ap x hx; simp at hc; omega)).sq (fun x hx => by have := HP.ap x hx; omega))⟩, ?_, ?_⟩
        · exact (by repeat (first | (with_reducible assumption) | (with_reducible refine Only.drew ?_) | (with_reducible refine Only.alloc ?_ _) | (refine Only.setCell ?_ (.inr (by simp only; omega)) _)))
        · exact (HR.keep (by repeat (first | (with_reducible exact Below.refl _ _) | (with_reducible refine Below.drew ?_) | ((with_reducible refine Below.allocc ?_ ?_ _); focus (first | omega | (simp; done) | (simp; omega))) | (refine Below.setCell ?_ (by simp only; omega) _)))).le (by omega)
      have hl1 : (0 : Int) < (q.colours.length : Int) := by omega
      have q2 := HP.q2
      go_wp2_with fail
      (with_reducible refine (odd_any lo g (K + 80) n _ (HR.le (by omega)) hn1 hn2).mono ?_); rintro e w4 ⟨b, rfl, -, hO1, HR⟩
      have HP := HP.only hO1 (by omega)
      have X4 := X4.only hO1 (by simp; omega)
      have HO := HO.trans hO1
      clear hO1 q2
      cases b with
      | false =>
        have q0 := HP.q0; have q1 := HP.q1; have q2 := HP.q2; have q3 := HP.q3; have z0 := X4.c 0 _ rfl; have z1 := X4.c 1 _ rfl; have z2 := X4.c 2 _ rfl; have z3 := X4.c 3 _ rfl; have zf0 := X4.f 0; have zf1 := X4.f 1; have zf2 := X4.f 2; have zf3 := X4.f 3; have n1 := HN.out.1; have n2 := HN.out.2
        go_wp2_with fail
        refine bodyPost_ret (v := .agg #[.slice A q.store.cells.length c, .slice A' q.store.roots.length c', .slice A2 q.colours.length c2, .bool q.active]) (by simp [results, Try.results59, go_sem, q0, q1, q2, q3, z0, z1, z2, z3, n1, n2]) rfl ⟨_, rfl, ⟨_, ((HP.kb.only (S := [w.heap.size]) (by repeat (first | (with_reducible exact Only.refl _ _) | (with_reducible refine Only.drew ?_) | (refine Only.setCell ?_ (.inl (by simp)) _))) (fun x hx hc => by have := HP.ap x hx; simp at hc; omega)).sq (fun x hx => by have := HP.ap x hx; omega))⟩, ?_, ?_⟩
        · exact (by repeat (first | (with_reducible assumption) | (with_reducible refine Only.drew ?_) | (with_reducible refine Only.alloc ?_ _) | (refine Only.setCell ?_ (.inr (by simp only; omega)) _)))
        · exact (HR.keep (by repeat (first | (with_reducible exact Below.refl _ _) | (with_reducible refine Below.drew ?_) | ((with_reducible refine Below.allocc ?_ ?_ _); focus (first | omega | (simp; done) | (simp; omega))) | (refine Below.setCell ?_ (by simp only; omega) _)))).le (by omega)
      | true =>
        have q2 := HP.q2
        have hcl : q.colours.length ≤ 1048576 := okP_len HM.out
        go_wp2_with fail
        (with_reducible refine (pick_any lo g (K + 70) q.colours.length _ (HR.le (by omega)) (by omega) (by omega)).mono ?_); rintro e w5 ⟨t, rfl, ht, -, hO1, HR⟩
        have ht1 := ht (by omega)
        have HP := HP.only hO1 (by omega)
        have X4 := X4.only hO1 (by simp; omega)
        have HO := HO.trans hO1
        clear hO1 q2 ht
        go_wp2_with fail
        (with_reducible refine (pick_any lo g (K + 60) 3 _ (HR.le (by omega)) (by omega) (by omega)).mono ?_); rintro e w6 ⟨m, rfl, hm, -, hO1, HR⟩
        have hm3 := hm (by omega)
        have HP := HP.only hO1 (by omega)
        have X4 := X4.only hO1 (by simp; omega)
        have HO := HO.trans hO1
        clear hO1 hm
        have j0 : (0 : Int) ≤ (t : Int) := by omega
        rcases (by omega : m = 0 ∨ m = 1 ∨ m = 2) with rfl | rfl | rfl
        · obtain ⟨gc, rfl, hgx⟩ := HP.cs.some_ (j := t) (by omega)
          have hga : w.heap.size + 1 ≤ gc ∧ gc ≠ b5 := HP.ap gc (by simp [pblks, blk])
          have hnb := HN.out
          go_wp2_with fail
          refine wp_region_R (by kernel_rfl) (fun R wd hR hwd => ?_)
          have hBd : Below w6.heap.size w6 wd := by rw [hwd]; exact blw_
          have HP := HP.below hBd
          have X4 := X4.below hBd
          have HO := HO.trans (Only.of_below hBd)
          have HR := HR.below hBd
          have hltb := HP.lt
          clear hBd hwd
          rw [hR]
          (refine wpAny_take (i := 0) (v := ?v9_0_u3) rfl (by kernel_rfl) (by kernel_rfl) (by kernel_rfl) (fun _ _ _ h => h) (Or.inl ⟨by kernel_rfl, ?h9_0_u3⟩) ?r9_0_u3; (case h9_0_u3 => (intro w9; go_simp; try with_reducible rfl)))
          (refine wpAny_take (i := 2) (v := ?v9_2_u3) rfl (by kernel_rfl) (by kernel_rfl) (by kernel_rfl) (fun _ _ _ h => h) (Or.inl ⟨by kernel_rfl, ?h9_2_u3⟩) ?r9_2_u3; (case h9_2_u3 => (intro w9; go_simp; try with_reducible rfl)))
          (refine wpAny_take (i := 4) (v := ?v9_4_u3) rfl (by kernel_rfl) (by kernel_rfl) (by kernel_rfl) (fun _ _ _ h => h) (Or.inl ⟨by kernel_rfl, ?h9_4_u3⟩) ?r9_4_u3; (case h9_4_u3 => (intro w9; go_simp; try with_reducible rfl)))
          rw [← hR]
          refine rel_at (fr := ?fr_3) hR (fun f W => Only [g] wd W ∧ Rd lo W g (K + f)) [tt, (fun v W => v = .slice (some ⟨gc, 0, none⟩) q.colours.length c2), tt, (fun v W => ∃ b : Nat, v = .slice (some ⟨b, 0, none⟩) 4 4 ∧ (∀ k : Nat, k < 4 → ∃ y : Int, W.cell? ⟨b, k, none⟩ = some (.int .i64 y)) ∧ g < b), tt, (fun v W => ∃ k : Nat, v = .int .i64 (k : Int) ∧ k < 4), (fun v W => ∃ (b k : Nat), v = .pointer (some ⟨b, k, none⟩) ∧ (∃ y : Int, W.cell? ⟨b, k, none⟩ = some (.int .i64 y)) ∧ g < b), (fun v W => ∃ y : Int, v = .int .i64 y), tt, tt] (fun W W' => Only [g] W W') [(1, []), (3, []), (5, []), (6, [3, 5]), (7, [6, 3, 5]), (8, [1, 3, 5, 6, 7]), (9, [1, 3, 5, 6, 7])] [(70, 1), (72, 3), (74, 5), (75, 6), (76, 7)] [1, 3, 5, 6, 7] #[true, true, true, true, true, true, true, true, false, false] 7 2 (by kernel_rfl) (by kernel_rfl) ?hfr_3 ?h0_3 ?mono_3 ?steps_3 ?_
          case hfr_3 => intro x; (simp [frOf, fill, Act.put, List.lookup]; with_reducible rfl)
          case h0_3 => exact ⟨Only.refl _ _, HR.le (by omega)⟩
          case mono_3 => exact (Pm.cons (fun _ _ _ _ h => h) (Pm.cons (fun _ _ _ _ h => h) (Pm.cons (fun _ _ _ _ h => h) (Pm.cons (fun _ _ _ hG ⟨b, e, h1, h3⟩ => ⟨b, e, fun k hk => (by obtain ⟨y, hy⟩ := h1 k hk; exact ⟨y, hG.cell hy (by simp; omega)⟩), h3⟩) (Pm.cons (fun _ _ _ _ h => h) (Pm.cons (fun _ _ _ _ h => h) (Pm.cons (fun _ _ _ hG ⟨b, k, e, ⟨y, h1⟩, h3⟩ => ⟨b, k, e, ⟨y, hG.cell h1 (by simp; omega)⟩, h3⟩) (Pm.cons (fun _ _ _ _ h => h) (Pm.cons (fun _ _ _ _ h => h) (Pm.cons (fun _ _ _ _ h => h) Pm.nil))))))))))
          case steps_3 =>
            refine Steps.cons (RStep.of rfl fun x W f hI hD K9 hK => ?_) ?_
            · clear hD
              have p1 := (HP.only hI.1 (by omega)).q2
              go_simp
              exact hK (.slice (some ⟨gc, 0, none⟩) q.colours.length c2) _ _ (by kernel_rfl) (Only.refl _ _) (⟨hI.1, hI.2.le (by omega)⟩) rfl
            refine Steps.cons (RStep.of rfl fun x W f hI hD K9 hK => ?_) ?_
            · clear hD
              have hgW := hI.1.size
              go_simp
              refine hK (.slice (some ⟨W.heap.size, 0, none⟩) 4 4) _ _ (by kernel_rfl) (Only.al _ _) ⟨hI.1.trans (Only.al _ _), (hI.2.below ((Below.refl _ _).alloc (Nat.le_refl _) _)).le (by omega)⟩ ⟨_, rfl, fun k hk => ?_, by omega⟩
              rcases (by omega : k = 0 ∨ k = 1 ∨ k = 2 ∨ k = 3) with rfl | rfl | rfl | rfl
              all_goals exact ⟨_, by simp [go_sem]; rfl⟩
            refine Steps.cons (RStep.of rfl fun x W f hI hD K9 hK => ?_) ?_
            · clear hD
              go_wp2_with fail
              (with_reducible refine (pick_any lo g (K + f) 4 _ hI.2 (by omega) (by omega)).mono ?_)
              rintro e w7 ⟨k, rfl, hk, -, hO, hR6⟩
              exact hK (.int .i64 (k : Int)) _ _ (by kernel_rfl) hO ⟨hI.1.trans hO, hR6⟩ ⟨k, rfl, by have := hk (by omega); omega⟩
            refine Steps.cons (RStep.of rfl fun x W f hI hD K9 hK => ?_) ?_
            · have h3 : (fun v W => ∃ b : Nat, v = .slice (some ⟨b, 0, none⟩) 4 4 ∧ (∀ k : Nat, k < 4 → ∃ y : Int, W.cell? ⟨b, k, none⟩ = some (.int .i64 y)) ∧ g < b) (x 3) W := hD 3 (by decide)
              have h5 : (fun v W => ∃ k : Nat, v = .int .i64 (k : Int) ∧ k < 4) (x 5) W := hD 5 (by decide)
              clear hD
              obtain ⟨b, e7, h9, hgb⟩ := h3
              obtain ⟨k, e9, hk⟩ := h5
              simp only [e7, e9] at hK ⊢
              have hki : (0 : Int) ≤ (k : Int) ∧ (k : Int) < 4 := by omega
              go_simp
              exact hK (.pointer (some ⟨b, k, none⟩)) _ _ (by kernel_rfl) (Only.refl _ _) ⟨hI.1, hI.2.le (by omega)⟩ ⟨b, k, rfl, h9 k hk, hgb⟩
            refine Steps.cons (RStep.of rfl fun x W f hI hD K9 hK => ?_) ?_
            · have h6 : (fun v W => ∃ (b k : Nat), v = .pointer (some ⟨b, k, none⟩) ∧ (∃ y : Int, W.cell? ⟨b, k, none⟩ = some (.int .i64 y)) ∧ g < b) (x 6) W := hD 6 (by decide)
              clear hD
              obtain ⟨b, k, e10, ⟨y, hy⟩, hgb⟩ := h6
              simp only [e10] at hK ⊢
              go_simp
              exact hK (.int .i64 y) _ _ (by kernel_rfl) (Only.refl _ _) ⟨hI.1, hI.2.le (by omega)⟩ ⟨y, rfl⟩
            exact Steps.nil
          intro x W hI hV
          have e1 : x 1 = .slice (some ⟨gc, 0, none⟩) q.colours.length c2 := hV 1 (by decide)
          have h3 : (fun v W => ∃ b : Nat, v = .slice (some ⟨b, 0, none⟩) 4 4 ∧ (∀ k : Nat, k < 4 → ∃ y : Int, W.cell? ⟨b, k, none⟩ = some (.int .i64 y)) ∧ g < b) (x 3) W := hV 3 (by decide)
          have h5 : (fun v W => ∃ k : Nat, v = .int .i64 (k : Int) ∧ k < 4) (x 5) W := hV 5 (by decide)
          have h6 : (fun v W => ∃ (b k : Nat), v = .pointer (some ⟨b, k, none⟩) ∧ (∃ y : Int, W.cell? ⟨b, k, none⟩ = some (.int .i64 y)) ∧ g < b) (x 6) W := hV 6 (by decide)
          have h7 : (fun v W => ∃ y : Int, v = .int .i64 y) (x 7) W := hV 7 (by decide)
          clear hV
          simp only [e1]
          obtain ⟨y, e7⟩ := h7
          simp only [e7]
          clear h3 h5 h6
          have HP := HP.only hI.1 (by omega)
          have X4 := X4.only hI.1 (by simp; omega)
          have HO := HO.trans hI.1
          have HR := hI.2
          clear hI
          obtain ⟨y0, hy0⟩ : ∃ y0, q.colours[t]? = some y0 := ⟨q.colours[t]'(by omega), List.getElem?_eq_getElem _⟩
          have m1 : W.cell? ⟨gc, t, none⟩ = some (.int .i64 y0) := HP.cs.cell hy0
          have f1 := HP.cs.frozen t
          have HP2 := HP.setc t y
          have q0 := HP.q0; have q1 := HP.q1; have q2 := HP.q2; have q3 := HP.q3; have z0 := X4.c 0 _ rfl; have z1 := X4.c 1 _ rfl; have z2 := X4.c 2 _ rfl; have z3 := X4.c 3 _ rfl; have zf0 := X4.f 0; have zf1 := X4.f 1; have zf2 := X4.f 2; have zf3 := X4.f 3; have n1 := HN.out.1; have n2 := HN.out.2
          have n3 : b5 ≠ gc := by omega
          have n4 : w.heap.size ≠ gc := by omega
          clear hy0
          rw [hR]
          refine wpAny_ready (rs := [8]) (by kernel_rfl) (by simp) ?_
          refine AllReady.cons rfl (fun K9 hK9 => ?_) AllReady.nil
          go_simp
          refine hK9 _ _ ?_
          clear hK9
          refine wpAny_ready (rs := [9]) (by kernel_rfl) (by simp) ?_
          refine AllReady.cons rfl (fun K9 hK9 => ?_) AllReady.nil
          go_simp
          refine hK9 _ _ ?_
          clear hK9
          refine wpAny_done (by kernel_rfl) ?_ _
          clear hR
          go_wp2_with fail
          refine bodyPost_ret (v := .agg #[.slice A q.store.cells.length c, .slice A' q.store.roots.length c', .slice (some ⟨gc, 0, none⟩) q.colours.length c2, .bool q.active]) (by simp [results, Try.results59, go_sem, q0, q1, q2, q3, z0, z1, z2, z3, n1, n2]) rfl ⟨_, rfl, ⟨_, (((HP2.kbn (by simp)).only (S := [w.heap.size]) (by repeat (first | (with_reducible exact Only.refl _ _) | (with_reducible refine Only.drew ?_) | (refine Only.setCell ?_ (.inl (by simp)) _))) (fun x hx hc => by have := HP2.ap x hx; simp at hc; omega)).sq (fun x hx => by have := HP2.ap x hx; omega))⟩, ?_, ?_⟩
          · exact (by repeat (first | (with_reducible assumption) | (with_reducible refine Only.drew ?_) | (with_reducible refine Only.alloc ?_ _) | (refine Only.setCell ?_ (.inr (by simp only; omega)) _)))
          · exact (HR.keep (by repeat (first | (with_reducible exact Below.refl _ _) | (with_reducible refine Below.drew ?_) | ((with_reducible refine Below.allocc ?_ ?_ _); focus (first | omega | (simp; done) | (simp; omega))) | (refine Below.setCell ?_ (by simp only; omega) _)))).le (by omega)
        · have q0 := HP.q0; have q1 := HP.q1; have q2 := HP.q2; have q3 := HP.q3; have z0 := X4.c 0 _ rfl; have z1 := X4.c 1 _ rfl; have z2 := X4.c 2 _ rfl; have z3 := X4.c 3 _ rfl; have zf0 := X4.f 0; have zf1 := X4.f 1; have zf2 := X4.f 2; have zf3 := X4.f 3; have n1 := HN.out.1; have n2 := HN.out.2
          have bf3 := HP.qf 3
          go_wp2_with fail
          refine bodyPost_ret (v := .agg #[.slice A q.store.cells.length c, .slice A' q.store.roots.length c', .slice A2 q.colours.length c2, .bool (!q.active)]) (by simp [results, Try.results59, go_sem, q0, q1, q2, q3, z0, z1, z2, z3, n1, n2]) rfl ⟨_, rfl, ⟨_, (((HP.kba (b := !q.active)).only (S := [w.heap.size, b5]) (by repeat (first | (with_reducible exact Only.refl _ _) | (with_reducible refine Only.drew ?_) | (refine Only.setCell ?_ (.inl (by simp)) _))) (fun x hx hc => by have := HP.ap x hx; simp at hc; omega)).sq (fun x hx => by have := HP.ap x hx; omega))⟩, ?_, ?_⟩
          · exact (by repeat (first | (with_reducible assumption) | (with_reducible refine Only.drew ?_) | (with_reducible refine Only.alloc ?_ _) | (refine Only.setCell ?_ (.inr (by simp only; omega)) _)))
          · exact (HR.keep (by repeat (first | (with_reducible exact Below.refl _ _) | (with_reducible refine Below.drew ?_) | ((with_reducible refine Below.allocc ?_ ?_ _); focus (first | omega | (simp; done) | (simp; omega))) | (refine Below.setCell ?_ (by simp only; omega) _)))).le (by omega)
        · obtain ⟨gc, rfl, hgx⟩ := HP.cs.some_ (j := t) (by omega)
          have hga : w.heap.size + 1 ≤ gc ∧ gc ≠ b5 := HP.ap gc (by simp [pblks, blk])
          have hxl1 : (1 : Int) ≤ (q.colours.length : Int) := by omega
          have hcap : q.colours.length ≤ c2 := by
            rcases ownsRow_block HP.cs with ⟨h9, -⟩ | ⟨g9, cur, -, -, h9, -⟩
            · cases h9
            · exact h9
          have hc1 : (1 : Int) ≤ (c2 : Int) ∧ (q.colours.length : Int) ≤ (c2 : Int) := by omega
          have hb4 := X4.lt
          by_cases hone : c2 = 1
          · subst hone
            have hx1 : Hid (q.colours.length = 1) := by unfold Hid; omega
            have q0 := HP.q0; have q1 := HP.q1; have q2 := HP.q2; have q3 := HP.q3; have z0 := X4.c 0 _ rfl; have z1 := X4.c 1 _ rfl; have z2 := X4.c 2 _ rfl; have z3 := X4.c 3 _ rfl; have zf0 := X4.f 0; have zf1 := X4.f 1; have zf2 := X4.f 2; have zf3 := X4.f 3; have n1 := HN.out.1; have n2 := HN.out.2
            rw [hx1.out] at q2
            have bf2 := HP.qf 2
            clear hxl1 hcap hc1
            go_wp2_with fail
            refine bodyPost_ret (v := .agg #[.slice A q.store.cells.length c, .slice A' q.store.roots.length c', .slice (some ⟨gc, 0, none⟩) 0 0, .bool q.active]) (by simp [results, Try.results59, go_sem, q0, q1, q2, q3, z0, z1, z2, z3, n1, n2]) rfl ⟨_, rfl, ⟨_, (((HP.kb0 (n := 0) (k2 := 0) (j := 0) hx1.out rfl).only (S := [w.heap.size, b5]) (by repeat (first | (with_reducible exact Only.refl _ _) | (with_reducible refine Only.drew ?_) | (refine Only.setCell ?_ (.inl (by simp)) _))) (fun x hx hc => by have := HP.ap x hx; simp at hc; omega)).sq (fun x hx => by have := HP.ap x hx; omega))⟩, ?_, ?_⟩
            · exact (by repeat (first | (with_reducible assumption) | (with_reducible refine Only.drew ?_) | (with_reducible refine Only.alloc ?_ _) | (refine Only.setCell ?_ (.inr (by simp only; omega)) _)))
            · exact (HR.keep (by repeat (first | (with_reducible exact Below.refl _ _) | (with_reducible refine Below.drew ?_) | ((with_reducible refine Below.allocc ?_ ?_ _); focus (first | omega | (simp; done) | (simp; omega))) | (refine Below.setCell ?_ (by simp only; omega) _)))).le (by omega)
          have q0 := HP.q0; have q1 := HP.q1; have q2 := HP.q2; have q3 := HP.q3; have z0 := X4.c 0 _ rfl; have z1 := X4.c 1 _ rfl; have z2 := X4.c 2 _ rfl; have z3 := X4.c 3 _ rfl; have zf0 := X4.f 0; have zf1 := X4.f 1; have zf2 := X4.f 2; have zf3 := X4.f 3; have n1 := HN.out.1; have n2 := HN.out.2
          have bf2 := HP.qf 2
          go_wp2_with fail
          refine bodyPost_ret (v := .agg #[.slice A q.store.cells.length c, .slice A' q.store.roots.length c', .slice (some ⟨gc, 1, none⟩) (q.colours.length - 1) (c2 - 1), .bool q.active]) (by simp [results, Try.results59, go_sem, q0, q1, q2, q3, z0, z1, z2, z3, n1, n2]) rfl ⟨_, rfl, ⟨_, (((HP.kbt (n := q.colours.length - 1) (k2 := c2 - 1) (by simp)).only (S := [w.heap.size, b5]) (by repeat (first | (with_reducible exact Only.refl _ _) | (with_reducible refine Only.drew ?_) | (refine Only.setCell ?_ (.inl (by simp)) _))) (fun x hx hc => by have := HP.ap x hx; simp at hc; omega)).sq (fun x hx => by have := HP.ap x hx; omega))⟩, ?_, ?_⟩
          · exact (by repeat (first | (with_reducible assumption) | (with_reducible refine Only.drew ?_) | (with_reducible refine Only.alloc ?_ _) | (refine Only.setCell ?_ (.inr (by simp only; omega)) _)))
          · exact (HR.keep (by repeat (first | (with_reducible exact Below.refl _ _) | (with_reducible refine Below.drew ?_) | ((with_reducible refine Below.allocc ?_ ?_ _); focus (first | omega | (simp; done) | (simp; omega))) | (refine Below.setCell ?_ (by simp only; omega) _)))).le (by omega)
end Go.Proofs.Ytopbngfghpgbnaa

/- What the laws draw: painted heaps. -/
namespace Go.Proofs.Ytopbngfghpgbnaa
open Go.RowKit
set_option maxRecDepth 100000
set_option linter.unusedSimpArgs false
set_option linter.unusedVariables false
set_option maxHeartbeats 4000000 in
theorem drawPaintValid_any (C : Option Addr) (bs : List Int) (c : Nat) (w : World) (hr : RF fu w C bs) (hb : ∀ x ∈ bs, 0 ≤ x ∧ x < 256) (hc : bs.length ≤ c) (hc2 : c ≤ 9223372036854775807) :
    Calls Try.prog 15 #[.slice C bs.length c] w fun e w' => ∃ v p, e = .returned v ∧ RPt w' v p ∧ Below w.heap.size w w' := by
  go_enter Try.func15, Try.ntmps15
  go_wp2_with fail
  refine Calls.gen (fun W => Bx W w.heap.size [.slice none 0 0, .slice none 0 0, .slice none 0 0, .bool false] ∧ Below w.heap.size w W ∧ RF fu W C bs) ⟨Bx.new w [.slice none 0 0, .slice none 0 0, .slice none 0 0, .bool false] 28, blw_, hr.below blw_⟩ ?_
  clear hr
  rintro W0 ⟨X2, HB, hr⟩
  have zB := HB.size
  have hw0 := X2.lt
  (with_reducible refine (l20Open_any C bs c _ hr hb hc hc2).mono ?_); rintro e w1 ⟨g, rfl, HR, hB⟩
  have X2 := X2.below hB
  have HB := HB.trans (hB.mono zB)
  have hg := HR.lt
  have zb := hB.size
  clear hB hr zB
  go_wp2_with fail
  (with_reducible refine (l20Paint_any W0.heap.size g 1000 2 _ (HR.le (by omega)) (by omega) (by omega)).mono ?_); rintro e w2 ⟨v, rfl, ⟨p, hS⟩, hO, -⟩
  obtain ⟨A, k1, A', k2, A2, k3, rfl⟩ := hS.now.parts
  have X2 := X2.only hO (by simp; omega)
  have HB := HB.trans (hO.below (B := w.heap.size) HB.size (by simp; omega))
  clear hO HR
  have q0 := X2.c 0 _ rfl
  have qf0 := X2.f 0
  have q1 := X2.c 1 _ rfl
  have qf1 := X2.f 1
  have q2 := X2.c 2 _ rfl
  have qf2 := X2.f 2
  have q3 := X2.c 3 _ rfl
  have qf3 := X2.f 3
  go_wp2_with fail
  refine bodyPost_ret (v := .agg #[.slice A p.store.cells.length k1, .slice A' p.store.roots.length k2, .slice A2 p.colours.length k3, .bool p.active]) (by simp [results, Try.results15, go_sem, q0, q1, q2, q3]) rfl ⟨_, p, rfl, ?_, ?_⟩
  · refine SQ.now (lo := w1.heap.size) (SQ.only (S := [w.heap.size]) hS ?_ ?_)
    · exact (by repeat (first | (with_reducible exact Only.refl _ _) | (refine Only.setCell ?_ (.inl (by simp)) _)))
    · simp; omega
  · exact blw_
set_option maxHeartbeats 4000000 in
theorem drawPaintStart_any (C : Option Addr) (bs : List Int) (c : Nat) (w : World) (hr : RF fu w C bs) (hb : ∀ x ∈ bs, 0 ≤ x ∧ x < 256) (hc : bs.length ≤ c) (hc2 : c ≤ 9223372036854775807) :
    Calls Try.prog 19 #[.slice C bs.length c] w fun e w' => ∃ v p, e = .returned v ∧ RPt w' v p ∧ Below w.heap.size w w' := by
  go_enter Try.func19, Try.ntmps19
  go_wp2_with fail
  refine Calls.gen (fun W => Bx W w.heap.size [.slice none 0 0, .slice none 0 0, .slice none 0 0, .bool false] ∧ Below w.heap.size w W ∧ RF fu W C bs) ⟨Bx.new w [.slice none 0 0, .slice none 0 0, .slice none 0 0, .bool false] 28, blw_, hr.below blw_⟩ ?_
  clear hr
  rintro W0 ⟨X2, HB, hr⟩
  have zB := HB.size
  have hw0 := X2.lt
  (with_reducible refine (l20Open_any C bs c _ hr hb hc hc2).mono ?_); rintro e w1 ⟨g, rfl, HR, hB⟩
  have X2 := X2.below hB
  have HB := HB.trans (hB.mono zB)
  have hg := HR.lt
  have zb := hB.size
  clear hB hr zB
  go_wp2_with fail
  (with_reducible refine (l20Paint_any W0.heap.size g 1000 12 _ (HR.le (by omega)) (by omega) (by omega)).mono ?_); rintro e w2 ⟨v, rfl, ⟨p, hS⟩, hO, -⟩
  obtain ⟨A, k1, A', k2, A2, k3, rfl⟩ := hS.now.parts
  have X2 := X2.only hO (by simp; omega)
  have HB := HB.trans (hO.below (B := w.heap.size) HB.size (by simp; omega))
  clear hO HR
  have q0 := X2.c 0 _ rfl
  have qf0 := X2.f 0
  have q1 := X2.c 1 _ rfl
  have qf1 := X2.f 1
  have q2 := X2.c 2 _ rfl
  have qf2 := X2.f 2
  have q3 := X2.c 3 _ rfl
  have qf3 := X2.f 3
  go_wp2_with fail
  refine bodyPost_ret (v := .agg #[.slice A p.store.cells.length k1, .slice A' p.store.roots.length k2, .slice A2 p.colours.length k3, .bool p.active]) (by simp [results, Try.results19, go_sem, q0, q1, q2, q3]) rfl ⟨_, p, rfl, ?_, ?_⟩
  · refine SQ.now (lo := w1.heap.size) (SQ.only (S := [w.heap.size]) hS ?_ ?_)
    · exact (by repeat (first | (with_reducible exact Only.refl _ _) | (refine Only.setCell ?_ (.inl (by simp)) _)))
    · simp; omega
  · exact blw_
set_option maxHeartbeats 4000000 in
theorem drawPaintStep_any (C : Option Addr) (bs : List Int) (c : Nat) (w : World) (hr : RF fu w C bs) (hb : ∀ x ∈ bs, 0 ≤ x ∧ x < 256) (hc : bs.length ≤ c) (hc2 : c ≤ 9223372036854775807) :
    Calls Try.prog 24 #[.slice C bs.length c] w fun e w' => ∃ v p, e = .returned v ∧ RPt w' v p ∧ Below w.heap.size w w' := by
  go_enter Try.func24, Try.ntmps24
  go_wp2_with fail
  refine Calls.gen (fun W => Bx W w.heap.size [.slice none 0 0, .slice none 0 0, .slice none 0 0, .bool false] ∧ Below w.heap.size w W ∧ RF fu W C bs) ⟨Bx.new w [.slice none 0 0, .slice none 0 0, .slice none 0 0, .bool false] 28, blw_, hr.below blw_⟩ ?_
  clear hr
  rintro W0 ⟨X2, HB, hr⟩
  have zB := HB.size
  have hw0 := X2.lt
  (with_reducible refine (l20Open_any C bs c _ hr hb hc hc2).mono ?_); rintro e w1 ⟨g, rfl, HR, hB⟩
  have X2 := X2.below hB
  have HB := HB.trans (hB.mono zB)
  have hg := HR.lt
  have zb := hB.size
  clear hB hr zB
  go_wp2_with fail
  (with_reducible refine (l20Paint_any W0.heap.size g 1000 12 _ (HR.le (by omega)) (by omega) (by omega)).mono ?_); rintro e w2 ⟨v, rfl, ⟨p, hS⟩, hO, -⟩
  obtain ⟨A, k1, A', k2, A2, k3, rfl⟩ := hS.now.parts
  have X2 := X2.only hO (by simp; omega)
  have HB := HB.trans (hO.below (B := w.heap.size) HB.size (by simp; omega))
  clear hO HR
  have q0 := X2.c 0 _ rfl
  have qf0 := X2.f 0
  have q1 := X2.c 1 _ rfl
  have qf1 := X2.f 1
  have q2 := X2.c 2 _ rfl
  have qf2 := X2.f 2
  have q3 := X2.c 3 _ rfl
  have qf3 := X2.f 3
  go_wp2_with fail
  refine bodyPost_ret (v := .agg #[.slice A p.store.cells.length k1, .slice A' p.store.roots.length k2, .slice A2 p.colours.length k3, .bool p.active]) (by simp [results, Try.results24, go_sem, q0, q1, q2, q3]) rfl ⟨_, p, rfl, ?_, ?_⟩
  · refine SQ.now (lo := w1.heap.size) (SQ.only (S := [w.heap.size]) hS ?_ ?_)
    · exact (by repeat (first | (with_reducible exact Only.refl _ _) | (refine Only.setCell ?_ (.inl (by simp)) _)))
    · simp; omega
  · exact blw_
set_option maxHeartbeats 4000000 in
theorem drawPaintFinish_any (C : Option Addr) (bs : List Int) (c : Nat) (w : World) (hr : RF fu w C bs) (hb : ∀ x ∈ bs, 0 ≤ x ∧ x < 256) (hc : bs.length ≤ c) (hc2 : c ≤ 9223372036854775807) :
    Calls Try.prog 32 #[.slice C bs.length c] w fun e w' => ∃ v p, e = .returned v ∧ RPt w' v p ∧ Below w.heap.size w w' := by
  go_enter Try.func32, Try.ntmps32
  go_wp2_with fail
  refine Calls.gen (fun W => Bx W w.heap.size [.slice none 0 0, .slice none 0 0, .slice none 0 0, .bool false] ∧ Below w.heap.size w W ∧ RF fu W C bs) ⟨Bx.new w [.slice none 0 0, .slice none 0 0, .slice none 0 0, .bool false] 28, blw_, hr.below blw_⟩ ?_
  clear hr
  rintro W0 ⟨X2, HB, hr⟩
  have zB := HB.size
  have hw0 := X2.lt
  (with_reducible refine (l20Open_any C bs c _ hr hb hc hc2).mono ?_); rintro e w1 ⟨g, rfl, HR, hB⟩
  have X2 := X2.below hB
  have HB := HB.trans (hB.mono zB)
  have hg := HR.lt
  have zb := hB.size
  clear hB hr zB
  go_wp2_with fail
  (with_reducible refine (l20Paint_any W0.heap.size g 1000 12 _ (HR.le (by omega)) (by omega) (by omega)).mono ?_); rintro e w2 ⟨v, rfl, ⟨p, hS⟩, hO, -⟩
  obtain ⟨A, k1, A', k2, A2, k3, rfl⟩ := hS.now.parts
  have X2 := X2.only hO (by simp; omega)
  have HB := HB.trans (hO.below (B := w.heap.size) HB.size (by simp; omega))
  clear hO HR
  have q0 := X2.c 0 _ rfl
  have qf0 := X2.f 0
  have q1 := X2.c 1 _ rfl
  have qf1 := X2.f 1
  have q2 := X2.c 2 _ rfl
  have qf2 := X2.f 2
  have q3 := X2.c 3 _ rfl
  have qf3 := X2.f 3
  go_wp2_with fail
  refine bodyPost_ret (v := .agg #[.slice A p.store.cells.length k1, .slice A' p.store.roots.length k2, .slice A2 p.colours.length k3, .bool p.active]) (by simp [results, Try.results32, go_sem, q0, q1, q2, q3]) rfl ⟨_, p, rfl, ?_, ?_⟩
  · refine SQ.now (lo := w1.heap.size) (SQ.only (S := [w.heap.size]) hS ?_ ?_)
    · exact (by repeat (first | (with_reducible exact Only.refl _ _) | (refine Only.setCell ?_ (.inl (by simp)) _)))
    · simp; omega
  · exact blw_
set_option maxHeartbeats 4000000 in
theorem drawPaintCommand_any (C : Option Addr) (bs : List Int) (c : Nat) (w : World) (hr : RF fu w C bs) (hb : ∀ x ∈ bs, 0 ≤ x ∧ x < 256) (hc : bs.length ≤ c) (hc2 : c ≤ 9223372036854775807) :
    Calls Try.prog 27 #[.slice C bs.length c] w fun e w' => ∃ v p o, e = .returned (.tuple #[v, cmdV o]) ∧ RPt w' v p ∧ Below w.heap.size w w' := by
  go_enter Try.func27, Try.ntmps27
  go_wp2_with fail
  refine Calls.gen (fun W => Bx W w.heap.size [.slice none 0 0, .slice none 0 0, .slice none 0 0, .bool false] ∧ Bx W (w.heap.size + 1) [.int .i64 0, .int .i64 0, .int .i64 0, .int .i64 0] ∧ Below w.heap.size w W ∧ RF fu W C bs ∧ W.heap.size = w.heap.size + 2) ⟨(Bx.new w [.slice none 0 0, .slice none 0 0, .slice none 0 0, .bool false] 28).below blw_, by simpa using Bx.new (w.alloc (.cells #[.slice none 0 0, .slice none 0 0, .slice none 0 0, .bool false] 28)) [.int .i64 0, .int .i64 0, .int .i64 0, .int .i64 0] 41, blw_, hr.below blw_, by simp⟩ ?_
  clear hr
  rintro W0 ⟨X2, X3, HB, hr, hz0⟩
  have zB := HB.size
  (with_reducible refine (l20Open_any C bs c _ hr hb hc hc2).mono ?_); rintro e w1 ⟨g, rfl, HR, hB⟩
  rw [hz0] at HR
  have X2 := X2.below hB
  have X3 := X3.below hB
  have HB := HB.trans (hB.mono zB)
  have hg := HR.lt
  clear hB hr zB
  go_wp2_with fail
  (with_reducible refine (l20Paint_any (w.heap.size + 2) g 1000 14 _ (HR.le (by omega)) (by omega) (by omega)).mono ?_); rintro e w2 ⟨v, rfl, ⟨p, hS⟩, hO, HR⟩
  obtain ⟨A, k1, A', k2, A2, k3, rfl⟩ := hS.now.parts
  have X2 := X2.only hO (by simp; omega)
  have X3 := X3.only hO (by simp; omega)
  have HB := HB.trans (hO.below (B := w.heap.size) HB.size (by simp; omega))
  have hz2 := hO.size
  clear hO
  go_upto_region 3 with fail
  refine Code.gen (fun W => Bx W w.heap.size [.slice none 0 0, .slice none 0 0, .slice none 0 0, .bool false] ∧ Bx W (w.heap.size + 1) [.int .i64 0, .int .i64 0, .int .i64 0, .int .i64 0] ∧ Bx W w2.heap.size [.slice A p.store.cells.length k1, .slice A' p.store.roots.length k2, .slice A2 p.colours.length k3, .bool p.active] ∧ SQ (fun W9 => RPt W9 (.agg #[.slice A p.store.cells.length k1, .slice A' p.store.roots.length k2, .slice A2 p.colours.length k3, .bool p.active]) p) w1.heap.size W ∧ Below w.heap.size w W ∧ Rd (w.heap.size + 2) W g 1000)
    ⟨X2.below blw_, X3.below blw_, Bx.new w2 [.slice A p.store.cells.length k1, .slice A' p.store.roots.length k2, .slice A2 p.colours.length k3, .bool p.active] 28, hS.below blw_, blw_, HR.below blw_⟩ ?_
  have hg2 : Hid (g < w1.heap.size ∧ w1.heap.size ≤ w2.heap.size ∧ w.heap.size + 2 ≤ g) := ⟨hg.1, hz2, hg.2⟩
  generalize w2.heap.size = b5 at hg2 ⊢
  clear X2 X3 hS HB HR hg hz2
  rintro W ⟨X2, X3, X5, hS, HB, HR⟩
  refine wp_region_R (by kernel_rfl) (fun R wd hR hwd => ?_)
  have hBd : Below W.heap.size W wd := by rw [hwd]; exact blw_
  have X2 := X2.below hBd
  have X3 := X3.below hBd
  have X5 := X5.below hBd
  have hS := hS.below hBd
  have HB := HB.trans (hBd.mono HB.size)
  have HR := HR.below hBd
  clear hBd hwd
  rw [hR]
  (refine wpAny_take (i := 1) (v := ?v9_1_u0) rfl (by kernel_rfl) (by kernel_rfl) (by kernel_rfl) (fun _ _ _ h => h) (Or.inl ⟨by kernel_rfl, ?h9_1_u0⟩) ?r9_1_u0; (case h9_1_u0 => (intro w9; go_simp; try with_reducible rfl)))
  rw [← hR]
  refine rel_at (fr := ?fr_0) hR (fun f W => Bx W w.heap.size [.slice none 0 0, .slice none 0 0, .slice none 0 0, .bool false] ∧ Bx W (w.heap.size + 1) [.int .i64 0, .int .i64 0, .int .i64 0, .int .i64 0] ∧ Bx W b5 [.slice A p.store.cells.length k1, .slice A' p.store.roots.length k2, .slice A2 p.colours.length k3, .bool p.active] ∧ SQ (fun W9 => RPt W9 (.agg #[.slice A p.store.cells.length k1, .slice A' p.store.roots.length k2, .slice A2 p.colours.length k3, .bool p.active]) p) w1.heap.size W ∧ Below w.heap.size w W ∧ Rd (w.heap.size + 2) W g (16 * f)) [(fun v W => v = .agg #[.slice A p.store.cells.length k1, .slice A' p.store.roots.length k2, .slice A2 p.colours.length k3, .bool p.active]), tt, (fun v W => ∃ o : CmdM, v = cmdV o), tt, tt] (fun W W' => Only [g] W W') [(0, []), (2, []), (3, [0, 2]), (4, [0, 2])] [(10, 0), (12, 2)] [0, 2] #[true, true, true, false, false] 4 2 (by kernel_rfl) (by kernel_rfl) ?hfr_0 ?h0_0 ?mono_0 ?steps_0 ?_
  case hfr_0 => intro x; (simp [frOf, fill, Act.put, List.lookup]; with_reducible rfl)
  case h0_0 => exact ⟨X2, X3, X5, hS, HB, HR.le (by omega)⟩
  case mono_0 => exact (Pm.cons (fun _ _ _ _ h => h) (Pm.cons (fun _ _ _ _ h => h) (Pm.cons (fun _ _ _ _ h => h) (Pm.cons (fun _ _ _ _ h => h) (Pm.cons (fun _ _ _ _ h => h) Pm.nil)))))
  case steps_0 =>
    refine Steps.cons (RStep.of rfl fun x W f hI hD K9 hK => ?_) ?_
    · clear hD
      have c0 := hI.2.2.1.c 0 _ rfl
      have c1 := hI.2.2.1.c 1 _ rfl
      have c2 := hI.2.2.1.c 2 _ rfl
      have c3 := hI.2.2.1.c 3 _ rfl
      go_simp
      exact hK (.agg #[.slice A p.store.cells.length k1, .slice A' p.store.roots.length k2, .slice A2 p.colours.length k3, .bool p.active]) _ _ (by kernel_rfl) (Only.refl _ _) (⟨hI.1, hI.2.1, hI.2.2.1, hI.2.2.2.1, hI.2.2.2.2.1, hI.2.2.2.2.2.le (by omega)⟩) rfl
    refine Steps.cons (RStep.of rfl fun x W f hI hD K9 hK => ?_) ?_
    · clear hD
      have hg9 := hg2.out
      go_wp2_with fail
      (with_reducible refine (l20Command_any (w.heap.size + 2) g (16 * f) 14 _ (hI.2.2.2.2.2.le (by omega)) (by omega) (by omega)).mono ?_)
      rintro e w6 ⟨o, rfl, -, hO, hR6⟩
      exact hK (cmdV o) _ _ (by kernel_rfl) hO ⟨hI.1.only hO (by simp; omega), hI.2.1.only hO (by simp; omega), hI.2.2.1.only hO (by simp; omega), hI.2.2.2.1.only hO (by simp; omega), hI.2.2.2.2.1.trans (hO.below (B := w.heap.size) hI.2.2.2.2.1.size (by simp; omega)), hR6⟩ ⟨o, rfl⟩
    exact Steps.nil
  intro x W hI hV
  have e0 : x 0 = .agg #[.slice A p.store.cells.length k1, .slice A' p.store.roots.length k2, .slice A2 p.colours.length k3, .bool p.active] := hV 0 (by decide)
  have h2 : (fun v W => ∃ o : CmdM, v = cmdV o) (x 2) W := hV 2 (by decide)
  clear hV
  simp only [e0]
  obtain ⟨o, e2⟩ := h2
  simp only [e2, cmdV]
  obtain ⟨X2, X3, -, hS, HB, -⟩ := hI
  have q0 := X2.c 0 _ rfl
  have qf0 := X2.f 0
  have q1 := X2.c 1 _ rfl
  have qf1 := X2.f 1
  have q2 := X2.c 2 _ rfl
  have qf2 := X2.f 2
  have q3 := X2.c 3 _ rfl
  have qf3 := X2.f 3
  have r0 := X3.c 0 _ rfl
  have rf0 := X3.f 0
  have r1 := X3.c 1 _ rfl
  have rf1 := X3.f 1
  have r2 := X3.c 2 _ rfl
  have rf2 := X3.f 2
  have r3 := X3.c 3 _ rfl
  have rf3 := X3.f 3
  have n1 : w.heap.size ≠ w.heap.size + 1 := by omega
  have n2 : w.heap.size + 1 ≠ w.heap.size := by omega
  rw [hR]
  refine wpAny_ready (rs := [3]) (by kernel_rfl) (by simp) ?_
  refine AllReady.cons rfl (fun K9 hK9 => ?_) AllReady.nil
  go_simp
  refine hK9 _ _ ?_
  clear hK9
  refine wpAny_ready (rs := [4]) (by kernel_rfl) (by simp) ?_
  refine AllReady.cons rfl (fun K9 hK9 => ?_) AllReady.nil
  go_simp
  refine hK9 _ _ ?_
  clear hK9
  refine wpAny_done (by kernel_rfl) ?_ _
  go_wp2_with fail
  refine bodyPost_ret (v := .tuple #[.agg #[.slice A p.store.cells.length k1, .slice A' p.store.roots.length k2, .slice A2 p.colours.length k3, .bool p.active], cmdV o]) (by simp [results, Try.results27, go_sem, q0, q1, q2, q3, r0, r1, r2, r3, n1, n2, cmdV]) rfl ⟨_, p, o, rfl, ?_, ?_⟩
  · refine SQ.now (lo := w1.heap.size) (SQ.only (S := [w.heap.size, w.heap.size + 1]) hS ?_ ?_)
    · exact (by repeat (first | (with_reducible exact Only.refl _ _) | (refine Only.setCell ?_ (.inl (by simp)) _)))
    · have := hg2.out; simp; omega
  · exact blw_
end Go.Proofs.Ytopbngfghpgbnaa
