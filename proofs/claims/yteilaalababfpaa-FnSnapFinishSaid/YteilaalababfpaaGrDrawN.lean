/- Texts of one family, one behind the other: DrawN, DrawND. -/
import Derived.Test.YteilaalababfpaaChecked
import Derived.Deep.QuietTactic
import Derived.BigQuiet
import Derived.IntWalk
import Derived.Deep.RegionWith
import Derived.Test.YteilaalababfpaaKb
import Derived.Test.YteilaalababfpaaDraw8
import Derived.Test.YteilaalababfpaaRelQ
import Derived.Test.YteilaalababfpaaOver
import Derived.Test.YteilaalababfpaaSnapStS
import Derived.Test.YteilaalababfpaaGrSnap
import Derived.Test.YteilaalababfpaaSnapG
import Derived.Test.YteilaalababfpaaGrIso
import Derived.Test.YteilaalababfpaaGrDraw
import Derived.Test.YteilaalababfpaaGrCtx
/- The reference's drawing: snapshots. -/
namespace Go.Proofs.Yteilaalababfpaa
open Go.RowKit
set_option maxRecDepth 100000
set_option linter.unusedSimpArgs false
set_option linter.unusedVariables false
/-- What is drawn: it reads, while the blocks from lo on stay. -/
def SQN (lo : Nat) (w : World) (v : Value) : Prop := ∃ p : TwoM, SQ (fun W => RTw W v p) lo w
def SBn (q : TwoM) : Prop := q.x.length ≤ 40 ∧ q.y.length = q.x.length
theorem okN_zero : SBn zeroT := ⟨by simp [zeroT], rfl⟩
theorem okN_of {q : TwoM} (h : snapM q = true) : SBn q := by
  obtain ⟨h1, -, -, h2, h3, -⟩ := snap_small h
  exact ⟨by omega, by omega⟩
theorem okN_start (h : HeapM) : SBn (snapStartM h) := by
  rcases bool_ft (validM h) with hv | hv
  · unfold snapStartM; rw [hv]; exact okN_zero
  · exact okN_of (snapStart_valid hv)
theorem okN_step (q : TwoM) : SBn (snapStepM q).1 := by
  unfold snapStepM
  split
  · rename_i h; exact okN_of (snapM_step h)
  · exact okN_zero
theorem okN_cmd {q : TwoM} {o : CmdM} (hq : SBn q) : SBn (snapCmdM q o).1 := by
  unfold snapCmdM
  split
  · rename_i h
    obtain ⟨h1, h2⟩ := Bool.and_eq_true_iff.1 h
    split
    · rename_i h3; exact okN_of (law_SnapCommand h1 h2 h3).1
    · exact hq
  · exact okN_zero
set_option maxHeartbeats 8000000 in
theorem l20Snap_any (lo g K : Nat) (n : Int) (w : World) (h : Rd lo w g (K + 7000)) (hn1 : 0 ≤ n) (hn2 : n ≤ 1048576) :
    Calls Try.prog 67 #[.pointer (some ⟨g, 0, none⟩), .int .i64 n] w fun e w' => ∃ v, e = .returned v ∧ SQN w.heap.size w' v ∧ Only [g] w w' ∧ Rd lo w' g K := by
  have hlt := h.lt.1
  go_enter Try.func67, Try.ntmps67
  go_wp2_with fail
  refine Calls.gen (fun W => Bx W w.heap.size [.slice none 0 0, .slice none 0 0, .slice none 0 0, .slice none 0 0] ∧ Only [g] w W ∧ Rd lo W g (K + 7000)) ⟨Bx.new w [.slice none 0 0, .slice none 0 0, .slice none 0 0, .slice none 0 0] 29, Only.of_below blw_, h.below blw_⟩ ?_
  clear h
  rintro W ⟨X4, HO, HR⟩
  (with_reducible refine (l20Heap_any lo g (K + 5000) 0 _ (HR.le (by omega)) (by omega) (by omega)).mono ?_); rintro e w1 ⟨v, hm0, rfl, hS, hO1, HR⟩
  have X4 := X4.only hO1 (by simp; omega)
  have HO := HO.trans hO1
  clear hO1
  go_wp2_with fail
  (with_reducible refine (specSnapStart_any _ hm0 _ hS.now).mono ?_); rintro e w3 ⟨v3, rfl, oH, hB⟩
  have hz2 := X4.lt
  have X4 := X4.below hB
  have HO := HO.trans (Only.of_below hB)
  have HR := HR.below hB
  have hb4 := X4.lt
  have hM : SBn (snapStartM hm0) := okN_start hm0
  generalize snapStartM hm0 = q at oH hM
  obtain ⟨A, c, A', c', os, A2, c2, A3, c3, rfl, hm, ho, hx, hy, hnd, hlo, hxl, hyl⟩ := oH
  have hlo1 : ∀ b ∈ hblks A os A' ++ blk A2 ++ blk A3, w.heap.size + 1 ≤ b := fun b hb => by have := hlo b hb; omega
  have HPq := PTx.mk_ (lo := w.heap.size + 1) hm ho hx hy hnd hlo1 hxl hyl (by omega) 29
  go_upto_region 2 with fail
  refine Code.gen (fun W => (∃ q A c A' c' os A2 c2 A3 c3, PTx (w.heap.size + 1) W w3.heap.size q A c A' c' os A2 c2 A3 c3 ∧ Hid (SBn q)) ∧ Bx W w.heap.size [.slice none 0 0, .slice none 0 0, .slice none 0 0, .slice none 0 0] ∧ Only [g] w W ∧ Rd lo W g (K + 5000)) ⟨⟨q, A, c, A', c', os, A2, c2, A3, c3, HPq, hM⟩, X4.below blw_, HO.trans (Only.of_below blw_), HR.below blw_⟩ ?_
  have HN : Hid (w3.heap.size ≠ w.heap.size ∧ w.heap.size ≠ w3.heap.size) := ⟨by omega, by omega⟩
  generalize w3.heap.size = b5 at HN ⊢
  clear X4 HO HR hb4 hz2 hS hB hm ho hx hy hnd hlo hlo1 hxl hyl HPq hM
  rintro W ⟨⟨q, A, c, A', c', os, A2, c2, A3, c3, HP, HM⟩, X4, HO, HR⟩
  go_wp2_with fail
  (with_reducible refine (pick_any lo g (K + 4900) 12 _ (HR.le (by omega)) (by omega) (by omega)).mono ?_); rintro e w3 ⟨k, rfl, hk, -, hO1, HR⟩
  have hk40 := hk (by omega)
  have HP := HP.only hO1 (by omega)
  have X4 := X4.only hO1 (by simp; omega)
  have HO := HO.trans hO1
  clear hO1 hk
  go_wp2_with fail
  go_loopw [6] (fun s6 W => ∃ (j : Nat) (q : TwoM) (A : Option Addr) (c : Nat) (A' : Option Addr) (c' : Nat) (os : List OCell) (A2 : Option Addr) (c2 : Nat) (A3 : Option Addr) (c3 : Nat), s6 = .int .i64 (j : Int) ∧ j ≤ 11 ∧ PTx (w.heap.size + 1) W b5 q A c A' c' os A2 c2 A3 c3 ∧ Hid (SBn q) ∧ Bx W w.heap.size [.slice none 0 0, .slice none 0 0, .slice none 0 0, .slice none 0 0] ∧ Only [g] w W ∧ Rd lo W g (K + 100 + 150 * j)) (fun s6 _ => (intOf s6).toNat)
  case atStart => exact ⟨k, q, A, c, A', c', os, A2, c2, A3, c3, rfl, by omega, HP, HM, X4, HO, HR.le (by omega)⟩
  case round =>
    clear HP HM X4 HO HR hk40
    obtain ⟨j, q, A, c, A', c', os, A2, c2, A3, c3, rfl, hj, HP, HM, X4, HO, HR⟩ := hrel
    by_cases hj0 : 0 < j
    · have hj0i : (0 : Int) < (j : Int) := by omega
      go_wp2_with fail
      (with_reducible refine (pick_any lo g (K + 99 + 150 * j) 2 _ (HR.le (by omega)) (by omega) (by omega)).mono ?_); rintro e w4 ⟨k, rfl, hk, -, hO1, HR⟩
      have hk2 := hk (by omega)
      have HP := HP.only hO1 (by omega)
      have X4 := X4.only hO1 (by simp; omega)
      have HO := HO.trans hO1
      clear hO1 hk
      rcases (by omega : k = 0 ∨ k = 1) with rfl | rfl
      · have q0 := HP.q0; have q1 := HP.q1; have q2 := HP.q2; have q3 := HP.q3; have qf0 := HP.qf 0; have qf1 := HP.qf 1; have qf2 := HP.qf 2; have qf3 := HP.qf 3
        go_wp2_with fail
        (with_reducible refine (specSnapStep_any _ q _ HP.opt.rt).mono ?_)
        rintro e w5 ⟨v5, rfl, ⟨E, f, E', f', os5, E2, f2, E3, f3, rfl, hm5, hO5, hX5, hY5, hnd5, hlo5, hxl5, hyl5⟩, hB⟩
        clear q0 q1 q2 q3 qf0 qf1 qf2 qf3
        have HM5 := Lib.hid (okN_step q)
        (have hzb := hB.size; have HP5 := (HP.below hB).over1 hm5 hO5 hX5 hY5 hnd5 hlo5 hxl5 hyl5 (by have := HP.lo_; have := HP.lt; omega) HP.lt; have X5 := X4.below hB; have HO5_ := HO.trans (Only.of_below hB); have HR5 := HR.below hB; have q0 := (HP.below hB).q0; have q1 := (HP.below hB).q1; have q2 := (HP.below hB).q2; have q3 := (HP.below hB).q3; have qf0 := (HP.below hB).qf 0; have qf1 := (HP.below hB).qf 1; have qf2 := (HP.below hB).qf 2; have qf3 := (HP.below hB).qf 3; have hnb := HN.out; have hlob := HP.lo_; clear HP X4 HO HR hB hm5 hO5 hX5 hY5 hnd5 hlo5 hxl5 hyl5)
        go_wp2_with fail; go_roundw; (case rel => exact ⟨j - 1, _, E, f, E', f', os5, E2, f2, E3, f3, by rw [show ((j - 1 : Nat) : Int) = (j : Int) - 1 by omega], by omega, HP5, HM5, X5.only (S := [b5]) (by repeat (first | (with_reducible exact Only.refl _ _) | (with_reducible refine Only.drew ?_) | (refine Only.setCell ?_ (.inl (by simp)) _))) (by simp; omega), (by repeat (first | (with_reducible assumption) | (with_reducible refine Only.drew ?_) | (with_reducible refine Only.alloc ?_ _) | (refine Only.setCell ?_ (.inr (by simp only; omega)) _))), (HR5.keep (by repeat (first | (with_reducible exact Below.refl _ _) | (with_reducible refine Below.drew ?_) | ((with_reducible refine Below.allocc ?_ ?_ _); focus (first | omega | (simp; done) | (simp; omega))) | (refine Below.setCell ?_ (by simp only; omega) _)))).le (by omega)⟩); (case measure => simp [intOf]; omega)
      · go_wp2_with fail
        refine wp_region_R (by kernel_rfl) (fun R wd hR hwd => ?_)
        have hBd : Below w4.heap.size w4 wd := by rw [hwd]; exact blw_
        have HP := HP.below hBd
        have X4 := X4.below hBd
        have HO := HO.trans (Only.of_below hBd)
        have HR := HR.below hBd
        have hnb := HN.out
        have hlob := HP.lo_
        have hltb := HP.lt
        clear hBd hwd
        rw [hR]
        (refine wpAny_take (i := 1) (v := ?v9_1_u0) rfl (by kernel_rfl) (by kernel_rfl) (by kernel_rfl) (fun _ _ _ h => h) (Or.inl ⟨by kernel_rfl, ?h9_1_u0⟩) ?r9_1_u0; (case h9_1_u0 => (intro w9; go_simp; try with_reducible rfl)))
        rw [← hR]
        refine rel_atq 6 (fr := ?fr_0) hR (fun f W => Only [g] wd W ∧ Rd lo W g (K + 90 + 150 * (j - 1) + 16 * f)) [(fun v W => v = .agg #[.slice A q.store.cells.length c, .slice A' q.store.roots.length c', .slice A2 q.x.length c2, .slice A3 q.y.length c3]), tt, (fun v W => ∃ o : CmdM, v = cmdV o), (fun v W => ∃ (u : Value) (y : TwoM) (b : Bool), v = .tuple #[u, .bool b] ∧ OTw (b5 + 1) W u y ∧ SBn y), (fun v W => ∃ (u : Value) (y : TwoM) (b : Bool), v = .tuple #[u, .bool b] ∧ OTw (b5 + 1) W u y ∧ SBn y), (fun v W => ∃ y : TwoM, OTw (b5 + 1) W v y ∧ SBn y), (fun v W => ∃ b : Bool, v = .bool b), tt] (fun W W' => Only [g] W W') [(0, []), (2, []), (3, [0, 2]), (4, [3, 0, 2]), (5, [4, 3, 0, 2]), (6, [4, 3, 0, 2]), (7, [0, 2, 3, 4, 5])] [(26, 0), (28, 2), (29, 3), (25, 4), (30, 5), (31, 6)] [0, 2, 3, 4, 5, 6] #[true, true, true, true, true, true, true, false] 7 1 (by kernel_rfl) (by kernel_rfl) rfl (fun _ _ _ _ h => h) (by kernel_rfl) (fun f W hI => ⟨hI.1, hI.2.le (by omega)⟩) ?hfr_0 ?h0_0 ?mono_0 ?float_0 ?steps_0 ?_
        case hfr_0 => intro x; (simp [frOf, fill, Act.put, List.lookup]; with_reducible rfl)
        case h0_0 => exact ⟨Only.refl _ _, HR.le (by omega)⟩
        case mono_0 => exact (Pm.cons (fun _ _ _ _ h => h) (Pm.cons (fun _ _ _ _ h => h) (Pm.cons (fun _ _ _ _ h => h) (Pm.cons (fun _ _ _ hG ⟨u, y, b, e, h9, hm⟩ => ⟨u, y, b, e, h9.only_ hG (by simp; omega), hm⟩) (Pm.cons (fun _ _ _ hG ⟨u, y, b, e, h9, hm⟩ => ⟨u, y, b, e, h9.only_ hG (by simp; omega), hm⟩) (Pm.cons (fun _ _ _ hG ⟨y, h9, hm⟩ => ⟨y, h9.only_ hG (by simp; omega), hm⟩) (Pm.cons (fun _ _ _ _ h => h) (Pm.cons (fun _ _ _ _ h => h) Pm.nil))))))))
        case steps_0 =>
          refine Steps.cons (RStep.of rfl fun x W f hI hD K9 hK => ?_) ?_
          · clear hD
            have c0 := (HP.only hI.1 (by omega)).q0
            have c1 := (HP.only hI.1 (by omega)).q1
            have c2_ := (HP.only hI.1 (by omega)).q2
            have c3_ := (HP.only hI.1 (by omega)).q3
            go_simp
            exact hK (.agg #[.slice A q.store.cells.length c, .slice A' q.store.roots.length c', .slice A2 q.x.length c2, .slice A3 q.y.length c3]) _ _ (by kernel_rfl) (Only.refl _ _) (⟨hI.1, hI.2.le (by omega)⟩) rfl
          refine Steps.cons (RStep.of rfl fun x W f hI hD K9 hK => ?_) ?_
          · clear hD
            go_wp2_with fail
            (with_reducible refine (l20Command_any lo g (K + 90 + 150 * (j - 1) + 16 * f) 0 _ (hI.2.le (by omega)) (by omega) (by omega)).mono ?_)
            rintro e w6 ⟨o, rfl, -, hO, hR6⟩
            exact hK (cmdV o) _ _ (by kernel_rfl) hO ⟨hI.1.trans hO, hR6⟩ ⟨o, rfl⟩
          refine Steps.cons (RStep.of rfl fun x W f hI hD K9 hK => ?_) ?_
          · have e0 : x 0 = .agg #[.slice A q.store.cells.length c, .slice A' q.store.roots.length c', .slice A2 q.x.length c2, .slice A3 q.y.length c3] := hD 0 (by decide)
            have h2 : (fun v W => ∃ o : CmdM, v = cmdV o) (x 2) W := hD 2 (by decide)
            clear hD
            simp only [e0] at hK ⊢
            obtain ⟨o, e2⟩ := h2
            simp only [e2, cmdV] at hK ⊢
            go_wp2_with fail
            (with_reducible refine (specSnapCommand_any _ q o _ (HP.only hI.1 (by omega)).opt.rt).mono ?_)
            rintro e w6 ⟨v6, rfl, oH, hB⟩
            exact hK (.tuple #[v6, .bool (snapCmdM q o).2]) _ _ (by kernel_rfl) (Only.of_below hB) ⟨hI.1.trans (Only.of_below hB), (hI.2.below hB).le (by omega)⟩ ⟨v6, _, _, rfl, oH.lo_ (by have := hI.1.size; omega), okN_cmd HM.out⟩
          refine Steps.cons (RStep.of rfl fun x W f hI hD K9 hK => ?_) ?_
          · have h3 : (fun v W => ∃ (u : Value) (y : TwoM) (b : Bool), v = .tuple #[u, .bool b] ∧ OTw (b5 + 1) W u y ∧ SBn y) (x 3) W := hD 3 (by decide)
            clear hD
            obtain ⟨u, y, b, e3, h9, hm⟩ := h3
            simp only [e3] at hK ⊢
            go_simp
            exact hK (.tuple #[u, .bool b]) _ _ (by kernel_rfl) (Only.refl _ _) ⟨hI.1, hI.2.le (by omega)⟩ ⟨u, y, b, rfl, h9, hm⟩
          refine Steps.cons (RStep.of rfl fun x W f hI hD K9 hK => ?_) ?_
          · have h4 : (fun v W => ∃ (u : Value) (y : TwoM) (b : Bool), v = .tuple #[u, .bool b] ∧ OTw (b5 + 1) W u y ∧ SBn y) (x 4) W := hD 4 (by decide)
            clear hD
            obtain ⟨u, y, b, e4, h9, hm⟩ := h4
            simp only [e4] at hK ⊢
            go_simp
            exact hK u _ _ (by kernel_rfl) (Only.refl _ _) ⟨hI.1, hI.2.le (by omega)⟩ ⟨y, h9, hm⟩
          refine Steps.cons (RStep.of rfl fun x W f hI hD K9 hK => ?_) ?_
          · have h4 : (fun v W => ∃ (u : Value) (y : TwoM) (b : Bool), v = .tuple #[u, .bool b] ∧ OTw (b5 + 1) W u y ∧ SBn y) (x 4) W := hD 4 (by decide)
            clear hD
            obtain ⟨u, y, b, e4, h9, hm⟩ := h4
            simp only [e4] at hK ⊢
            go_simp
            exact hK (.bool b) _ _ (by kernel_rfl) (Only.refl _ _) ⟨hI.1, hI.2.le (by omega)⟩ ⟨b, rfl⟩
          exact Steps.nil
        case float_0 =>
          intro x W hD
          have h4 : (fun v W => ∃ (u : Value) (y : TwoM) (b : Bool), v = .tuple #[u, .bool b] ∧ OTw (b5 + 1) W u y ∧ SBn y) (x 4) W := hD 4 (by decide)
          obtain ⟨u, y, b, e4, h9, hm⟩ := h4
          simp only [e4]
          refine ⟨_, .bool b, rfl, .inl ⟨by kernel_rfl, fun w9 => ?_⟩, ⟨b, rfl⟩⟩
          go_simp
        intro x W hI hV
        have e0 : x 0 = .agg #[.slice A q.store.cells.length c, .slice A' q.store.roots.length c', .slice A2 q.x.length c2, .slice A3 q.y.length c3] := hV 0 (by decide)
        have h2 : (fun v W => ∃ o : CmdM, v = cmdV o) (x 2) W := hV 2 (by decide)
        have h3 : (fun v W => ∃ (u : Value) (y : TwoM) (b : Bool), v = .tuple #[u, .bool b] ∧ OTw (b5 + 1) W u y ∧ SBn y) (x 3) W := hV 3 (by decide)
        have h4 : (fun v W => ∃ (u : Value) (y : TwoM) (b : Bool), v = .tuple #[u, .bool b] ∧ OTw (b5 + 1) W u y ∧ SBn y) (x 4) W := hV 4 (by decide)
        have h5 : (fun v W => ∃ y : TwoM, OTw (b5 + 1) W v y ∧ SBn y) (x 5) W := hV 5 (by decide)
        have h6 : (fun v W => ∃ b : Bool, v = .bool b) (x 6) W := hV 6 (by decide)
        clear hV
        simp only [e0]
        obtain ⟨y, ⟨E, f, E', f', os5, E2, f2, E3, f3, e5, hm5, hO5, hX5, hY5, hnd5, hlo5, hxl5, hyl5⟩, hmy⟩ := h5
        have HM5 := Lib.hid hmy
        clear hmy
        obtain ⟨b6, e6_⟩ := h6
        simp only [e5, e6_]
        clear h2 h3 h4
        have HPW := HP.only hI.1 (by omega)
        have HP5 := HPW.over1 hm5 hO5 hX5 hY5 hnd5 hlo5 hxl5 hyl5 (by omega) (by omega)
        have X5 := X4.only hI.1 (by simp; omega)
        have HO5_ := HO.trans hI.1
        have HR5 := hI.2
        have q0 := HPW.q0
        have q1 := HPW.q1
        have q2 := HPW.q2
        have q3 := HPW.q3
        have qf0 := HPW.qf 0
        have qf1 := HPW.qf 1
        have qf2 := HPW.qf 2
        have qf3 := HPW.qf 3
        clear HP X4 HO HR hI HPW hm5 hO5 hX5 hY5 hnd5 hlo5 hxl5 hyl5
        rw [hR]
        refine wpAny_ready (rs := [7]) (by kernel_rfl) (by simp) ?_
        refine AllReady.cons rfl (fun K9 hK9 => ?_) AllReady.nil
        go_simp
        refine hK9 _ _ ?_
        clear hK9
        refine wpAny_done (by kernel_rfl) ?_ _
        clear hR
        go_wp2_with fail; go_roundw; (case rel => exact ⟨j - 1, _, E, f, E', f', os5, E2, f2, E3, f3, by rw [show ((j - 1 : Nat) : Int) = (j : Int) - 1 by omega], by omega, HP5, HM5, X5.only (S := [b5]) (by repeat (first | (with_reducible exact Only.refl _ _) | (with_reducible refine Only.drew ?_) | (refine Only.setCell ?_ (.inl (by simp)) _))) (by simp; omega), (by repeat (first | (with_reducible assumption) | (with_reducible refine Only.drew ?_) | (with_reducible refine Only.alloc ?_ _) | (refine Only.setCell ?_ (.inr (by simp only; omega)) _))), (HR5.keep (by repeat (first | (with_reducible exact Below.refl _ _) | (with_reducible refine Below.drew ?_) | ((with_reducible refine Below.allocc ?_ ?_ _); focus (first | omega | (simp; done) | (simp; omega))) | (refine Below.setCell ?_ (by simp only; omega) _)))).le (by omega)⟩); (case measure => simp [intOf]; omega)
    · have hj0i : ¬ (0 : Int) < (j : Int) := by omega
      have hlob := HP.lo_
      have HR := HR.le (K' := K + 90) (by omega)
      clear hj hj0
      by_cases hl0 : q.x.length = 0
      · have q0 := HP.q0; have q1 := HP.q1; have q2 := HP.q2; have q3 := HP.q3; have z0 := X4.c 0 _ rfl; have z1 := X4.c 1 _ rfl; have z2 := X4.c 2 _ rfl; have z3 := X4.c 3 _ rfl; have zf0 := X4.f 0; have zf1 := X4.f 1; have zf2 := X4.f 2; have zf3 := X4.f 3; have n1 := HN.out.1; have n2 := HN.out.2
        have hl1 : ¬ ((0 : Int) < (q.x.length : Int)) := by omega
        clear hl0
        go_wp2_with fail
        refine bodyPost_ret (v := .agg #[.slice A q.store.cells.length c, .slice A' q.store.roots.length c', .slice A2 q.x.length c2, .slice A3 q.y.length c3]) (by simp [results, Try.results67, go_sem, q0, q1, q2, q3, z0, z1, z2, z3, n1, n2]) rfl ⟨_, rfl, ⟨_, ((HP.kb.only (S := [w.heap.size]) (by repeat (first | (with_reducible exact Only.refl _ _) | (with_reducible refine Only.drew ?_) | (refine Only.setCell ?_ (.inl (by simp)) _))) (fun x hx hc => by have := HP.ap x hx; simp at hc; omega)).sq (fun x hx => by have := HP.ap x hx; omega))⟩, ?_, ?_⟩
        · exact (by repeat (first | (with_reducible assumption) | (with_reducible refine Only.drew ?_) | (with_reducible refine Only.alloc ?_ _) | (refine Only.setCell ?_ (.inr (by simp only; omega)) _)))
        · exact (HR.keep (by repeat (first | (with_reducible exact Below.refl _ _) | (with_reducible refine Below.drew ?_) | ((with_reducible refine Below.allocc ?_ ?_ _); focus (first | omega | (simp; done) | (simp; omega))) | (refine Below.setCell ?_ (by simp only; omega) _)))).le (by omega)
      have hl1 : (0 : Int) < (q.x.length : Int) := by omega
      have q2 := HP.q2
      go_wp2_with fail
      (with_reducible refine (odd_any lo g (K + 80) n _ (HR.le (by omega)) hn1 hn2).mono ?_); rintro e w4 ⟨b, rfl, -, hO1, HR⟩
      have HP := HP.only hO1 (by omega)
      have X4 := X4.only hO1 (by simp; omega)
      have HO := HO.trans hO1
      clear hO1 q2
      cases b with
      | false =>
        have q0 := HP.q0; have q1 := HP.q1; have q2 := HP.q2; have q3 := HP.q3; have z0 := X4.c 0 _ rfl; have z1 := X4.c 1 _ rfl; have z2 := X4.c 2 _ rfl; have z3 := X4.c 3 _ rfl; have zf0 := X4.f 0; have zf1 := X4.f 1; have zf2 := X4.f 2; have zf3 := X4.f 3; have n1 := HN.out.1; have n2 := HN.out.2
        go_wp2_with fail
        refine bodyPost_ret (v := .agg #[.slice A q.store.cells.length c, .slice A' q.store.roots.length c', .slice A2 q.x.length c2, .slice A3 q.y.length c3]) (by simp [results, Try.results67, go_sem, q0, q1, q2, q3, z0, z1, z2, z3, n1, n2]) rfl ⟨_, rfl, ⟨_, ((HP.kb.only (S := [w.heap.size]) (by repeat (first | (with_reducible exact Only.refl _ _) | (with_reducible refine Only.drew ?_) | (refine Only.setCell ?_ (.inl (by simp)) _))) (fun x hx hc => by have := HP.ap x hx; simp at hc; omega)).sq (fun x hx => by have := HP.ap x hx; omega))⟩, ?_, ?_⟩
        · exact (by repeat (first | (with_reducible assumption) | (with_reducible refine Only.drew ?_) | (with_reducible refine Only.alloc ?_ _) | (refine Only.setCell ?_ (.inr (by simp only; omega)) _)))
        · exact (HR.keep (by repeat (first | (with_reducible exact Below.refl _ _) | (with_reducible refine Below.drew ?_) | ((with_reducible refine Below.allocc ?_ ?_ _); focus (first | omega | (simp; done) | (simp; omega))) | (refine Below.setCell ?_ (by simp only; omega) _)))).le (by omega)
      | true =>
        have q2 := HP.q2
        have hxm : Hid (q.x.length ≤ 1048576 ∧ q.y.length = q.x.length) := ⟨by have := HM.out.1; omega, HM.out.2⟩
        go_wp2_with fail
        (with_reducible refine (pick_any lo g (K + 70) q.x.length _ (HR.le (by omega)) (by omega) (by have := hxm.out.1; omega)).mono ?_); rintro e w5 ⟨t, rfl, ht, -, hO1, HR⟩
        have ht1 := ht (by omega)
        have HP := HP.only hO1 (by omega)
        have X4 := X4.only hO1 (by simp; omega)
        have HO := HO.trans hO1
        clear hO1 q2 ht
        go_wp2_with fail
        (with_reducible refine (pick_any lo g (K + 60) 3 _ (HR.le (by omega)) (by omega) (by omega)).mono ?_); rintro e w6 ⟨m, rfl, hm, -, hO1, HR⟩
        have hm3 := hm (by omega)
        have HP := HP.only hO1 (by omega)
        have X4 := X4.only hO1 (by simp; omega)
        have HO := HO.trans hO1
        clear hO1 hm
        have j0 : (0 : Int) ≤ (t : Int) := by omega
        rcases (by omega : m = 0 ∨ m = 1 ∨ m = 2) with rfl | rfl | rfl
        · obtain ⟨gx, rfl, hgx⟩ := HP.xs.some_ (j := t) (by omega)
          obtain ⟨y, hy⟩ : ∃ y, q.x[t]? = some y := ⟨q.x[t]'(by omega), List.getElem?_eq_getElem _⟩
          have m1 : w6.cell? ⟨gx, t, none⟩ = some (.bool y) := HP.xs.cell hy
          have f1 := HP.xs.frozen t
          have HP2 := HP.setx t (!y)
          have hga : w.heap.size + 1 ≤ gx ∧ gx ≠ b5 := HP.ap gx (by simp [tblks, blk])
          have q0 := HP.q0; have q1 := HP.q1; have q2 := HP.q2; have q3 := HP.q3; have z0 := X4.c 0 _ rfl; have z1 := X4.c 1 _ rfl; have z2 := X4.c 2 _ rfl; have z3 := X4.c 3 _ rfl; have zf0 := X4.f 0; have zf1 := X4.f 1; have zf2 := X4.f 2; have zf3 := X4.f 3; have n1 := HN.out.1; have n2 := HN.out.2
          clear hy
          have n3 : b5 ≠ gx := by omega
          have n4 : w.heap.size ≠ gx := by omega
          go_wp2_with fail
          go_still_tail 9, (by kernel_rfl)
          change wpList _ _ _ _ _ w6.drew
          go_wp2_with fail
          refine bodyPost_ret (v := .agg #[.slice A q.store.cells.length c, .slice A' q.store.roots.length c', .slice (some ⟨gx, 0, none⟩) q.x.length c2, .slice A3 q.y.length c3]) (by simp [results, Try.results67, go_sem, q0, q1, q2, q3, z0, z1, z2, z3, n1, n2]) rfl ⟨_, rfl, ⟨_, (((HP2.kbn (by simp) (by simp)).only (S := [w.heap.size]) (by repeat (first | (with_reducible exact Only.refl _ _) | (with_reducible refine Only.drew ?_) | (refine Only.setCell ?_ (.inl (by simp)) _))) (fun x hx hc => by have := HP2.ap x hx; simp at hc; omega)).sq (fun x hx => by have := HP2.ap x hx; omega))⟩, ?_, ?_⟩
          · exact (by repeat (first | (with_reducible assumption) | (with_reducible refine Only.drew ?_) | (with_reducible refine Only.alloc ?_ _) | (refine Only.setCell ?_ (.inr (by simp only; omega)) _)))
          · exact (HR.keep (by repeat (first | (with_reducible exact Below.refl _ _) | (with_reducible refine Below.drew ?_) | ((with_reducible refine Below.allocc ?_ ?_ _); focus (first | omega | (simp; done) | (simp; omega))) | (refine Below.setCell ?_ (by simp only; omega) _)))).le (by omega)
        · obtain ⟨gy, rfl, hgy⟩ := HP.ys.some_ (j := t) (by have := hxm.out; omega)
          obtain ⟨y, hy⟩ : ∃ y, q.y[t]? = some y := ⟨q.y[t]'(by have := hxm.out; omega), List.getElem?_eq_getElem _⟩
          have m1 : w6.cell? ⟨gy, t, none⟩ = some (.bool y) := HP.ys.cell hy
          have f1 := HP.ys.frozen t
          have HP2 := HP.sety t (!y)
          have hga : w.heap.size + 1 ≤ gy ∧ gy ≠ b5 := HP.ap gy (by simp [tblks, blk])
          have j3 : (t : Int) < (q.y.length : Int) := by have := hxm.out; omega
          have q0 := HP.q0; have q1 := HP.q1; have q2 := HP.q2; have q3 := HP.q3; have z0 := X4.c 0 _ rfl; have z1 := X4.c 1 _ rfl; have z2 := X4.c 2 _ rfl; have z3 := X4.c 3 _ rfl; have zf0 := X4.f 0; have zf1 := X4.f 1; have zf2 := X4.f 2; have zf3 := X4.f 3; have n1 := HN.out.1; have n2 := HN.out.2
          clear hy
          have n3 : b5 ≠ gy := by omega
          have n4 : w.heap.size ≠ gy := by omega
          go_wp2_with fail
          go_still_tail 9, (by kernel_rfl)
          change wpList _ _ _ _ _ w6.drew
          go_wp2_with fail
          refine bodyPost_ret (v := .agg #[.slice A q.store.cells.length c, .slice A' q.store.roots.length c', .slice A2 q.x.length c2, .slice (some ⟨gy, 0, none⟩) q.y.length c3]) (by simp [results, Try.results67, go_sem, q0, q1, q2, q3, z0, z1, z2, z3, n1, n2]) rfl ⟨_, rfl, ⟨_, (((HP2.kbn (by simp) (by simp)).only (S := [w.heap.size]) (by repeat (first | (with_reducible exact Only.refl _ _) | (with_reducible refine Only.drew ?_) | (refine Only.setCell ?_ (.inl (by simp)) _))) (fun x hx hc => by have := HP2.ap x hx; simp at hc; omega)).sq (fun x hx => by have := HP2.ap x hx; omega))⟩, ?_, ?_⟩
          · exact (by repeat (first | (with_reducible assumption) | (with_reducible refine Only.drew ?_) | (with_reducible refine Only.alloc ?_ _) | (refine Only.setCell ?_ (.inr (by simp only; omega)) _)))
          · exact (HR.keep (by repeat (first | (with_reducible exact Below.refl _ _) | (with_reducible refine Below.drew ?_) | ((with_reducible refine Below.allocc ?_ ?_ _); focus (first | omega | (simp; done) | (simp; omega))) | (refine Below.setCell ?_ (by simp only; omega) _)))).le (by omega)
        · obtain ⟨gx, rfl, hgx⟩ := HP.xs.some_ (j := t) (by omega)
          have hga : w.heap.size + 1 ≤ gx ∧ gx ≠ b5 := HP.ap gx (by simp [tblks, blk])
          have hxl1 : (1 : Int) ≤ (q.x.length : Int) := by omega
          have hcap : q.x.length ≤ c2 := by
            rcases ownsRow_block HP.xs with ⟨h9, -⟩ | ⟨g9, cur, -, -, h9, -⟩
            · cases h9
            · exact h9
          have hc1 : (1 : Int) ≤ (c2 : Int) ∧ (q.x.length : Int) ≤ (c2 : Int) := by omega
          have hb4 := X4.lt
          have hb45 := HP.lo_
          by_cases hone : c2 = 1
          · subst hone
            have hx1 : Hid (q.x.length = 1) := by unfold Hid; omega
            have q0 := HP.q0; have q1 := HP.q1; have q2 := HP.q2; have q3 := HP.q3; have z0 := X4.c 0 _ rfl; have z1 := X4.c 1 _ rfl; have z2 := X4.c 2 _ rfl; have z3 := X4.c 3 _ rfl; have zf0 := X4.f 0; have zf1 := X4.f 1; have zf2 := X4.f 2; have zf3 := X4.f 3; have n1 := HN.out.1; have n2 := HN.out.2
            rw [hx1.out] at q2
            have bf2 := HP.qf 2
            clear hxl1 hcap hc1
            go_wp2_with fail
            refine bodyPost_ret (v := .agg #[.slice A q.store.cells.length c, .slice A' q.store.roots.length c', .slice (some ⟨gx, 0, none⟩) 0 0, .slice A3 q.y.length c3]) (by simp [results, Try.results67, go_sem, q0, q1, q2, q3, z0, z1, z2, z3, n1, n2]) rfl ⟨_, rfl, ⟨_, (((HP.kb0 (n := 0) (k2 := 0) (j := 0) hx1.out rfl).only (S := [w.heap.size, b5]) (by repeat (first | (with_reducible exact Only.refl _ _) | (with_reducible refine Only.drew ?_) | (refine Only.setCell ?_ (.inl (by simp)) _))) (fun x hx hc => by have := HP.ap x hx; simp at hc; omega)).sq (fun x hx => by have := HP.ap x hx; omega))⟩, ?_, ?_⟩
            · exact (by repeat (first | (with_reducible assumption) | (with_reducible refine Only.drew ?_) | (with_reducible refine Only.alloc ?_ _) | (refine Only.setCell ?_ (.inr (by simp only; omega)) _)))
            · exact (HR.keep (by repeat (first | (with_reducible exact Below.refl _ _) | (with_reducible refine Below.drew ?_) | ((with_reducible refine Below.allocc ?_ ?_ _); focus (first | omega | (simp; done) | (simp; omega))) | (refine Below.setCell ?_ (by simp only; omega) _)))).le (by omega)
          have q0 := HP.q0; have q1 := HP.q1; have q2 := HP.q2; have q3 := HP.q3; have z0 := X4.c 0 _ rfl; have z1 := X4.c 1 _ rfl; have z2 := X4.c 2 _ rfl; have z3 := X4.c 3 _ rfl; have zf0 := X4.f 0; have zf1 := X4.f 1; have zf2 := X4.f 2; have zf3 := X4.f 3; have n1 := HN.out.1; have n2 := HN.out.2
          have bf2 := HP.qf 2
          go_wp2_with fail
          refine bodyPost_ret (v := .agg #[.slice A q.store.cells.length c, .slice A' q.store.roots.length c', .slice (some ⟨gx, 1, none⟩) (q.x.length - 1) (c2 - 1), .slice A3 q.y.length c3]) (by simp [results, Try.results67, go_sem, q0, q1, q2, q3, z0, z1, z2, z3, n1, n2]) rfl ⟨_, rfl, ⟨_, (((HP.kbt (n := q.x.length - 1) (k2 := c2 - 1) (by simp)).only (S := [w.heap.size, b5]) (by repeat (first | (with_reducible exact Only.refl _ _) | (with_reducible refine Only.drew ?_) | (refine Only.setCell ?_ (.inl (by simp)) _))) (fun x hx hc => by have := HP.ap x hx; simp at hc; omega)).sq (fun x hx => by have := HP.ap x hx; omega))⟩, ?_, ?_⟩
          · exact (by repeat (first | (with_reducible assumption) | (with_reducible refine Only.drew ?_) | (with_reducible refine Only.alloc ?_ _) | (refine Only.setCell ?_ (.inr (by simp only; omega)) _)))
          · exact (HR.keep (by repeat (first | (with_reducible exact Below.refl _ _) | (with_reducible refine Below.drew ?_) | ((with_reducible refine Below.allocc ?_ ?_ _); focus (first | omega | (simp; done) | (simp; omega))) | (refine Below.setCell ?_ (by simp only; omega) _)))).le (by omega)

end Go.Proofs.Yteilaalababfpaa

/- What the laws draw: snapshots. -/
namespace Go.Proofs.Yteilaalababfpaa
open Go.RowKit
set_option maxRecDepth 100000
set_option linter.unusedSimpArgs false
set_option linter.unusedVariables false
set_option maxHeartbeats 4000000 in
theorem drawSnapValid_any (C : Option Addr) (bs : List Int) (c : Nat) (w : World) (hr : RF fu w C bs) (hb : ∀ x ∈ bs, 0 ≤ x ∧ x < 256) (hc : bs.length ≤ c) (hc2 : c ≤ 9223372036854775807) :
    Calls Try.prog 15 #[.slice C bs.length c] w fun e w' => ∃ v p, e = .returned v ∧ RTw w' v p ∧ Below w.heap.size w w' := by
  go_enter Try.func15, Try.ntmps15
  go_wp2_with fail
  refine Calls.gen (fun W => Bx W w.heap.size [.slice none 0 0, .slice none 0 0, .slice none 0 0, .slice none 0 0] ∧ Below w.heap.size w W ∧ RF fu W C bs) ⟨Bx.new w [.slice none 0 0, .slice none 0 0, .slice none 0 0, .slice none 0 0] 29, blw_, hr.below blw_⟩ ?_
  clear hr
  rintro W0 ⟨X2, HB, hr⟩
  have zB := HB.size
  have hw0 := X2.lt
  (with_reducible refine (l20Open_any C bs c _ hr hb hc hc2).mono ?_); rintro e w1 ⟨g, rfl, HR, hB⟩
  have X2 := X2.below hB
  have HB := HB.trans (hB.mono zB)
  have hg := HR.lt
  have zb := hB.size
  clear hB hr zB
  go_wp2_with fail
  (with_reducible refine (l20Snap_any W0.heap.size g 1000 2 _ (HR.le (by omega)) (by omega) (by omega)).mono ?_); rintro e w2 ⟨v, rfl, ⟨p, hS⟩, hO, -⟩
  obtain ⟨A, k1, A', k2, A2, k3, A3, k4, rfl⟩ := hS.now.parts
  have X2 := X2.only hO (by simp; omega)
  have HB := HB.trans (hO.below (B := w.heap.size) HB.size (by simp; omega))
  clear hO HR
  have q0 := X2.c 0 _ rfl
  have qf0 := X2.f 0
  have q1 := X2.c 1 _ rfl
  have qf1 := X2.f 1
  have q2 := X2.c 2 _ rfl
  have qf2 := X2.f 2
  have q3 := X2.c 3 _ rfl
  have qf3 := X2.f 3
  go_wp2_with fail
  refine bodyPost_ret (v := .agg #[.slice A p.store.cells.length k1, .slice A' p.store.roots.length k2, .slice A2 p.x.length k3, .slice A3 p.y.length k4]) (by simp [results, Try.results15, go_sem, q0, q1, q2, q3]) rfl ⟨_, p, rfl, ?_, ?_⟩
  · refine SQ.now (lo := w1.heap.size) (SQ.only (S := [w.heap.size]) hS ?_ ?_)
    · exact (by repeat (first | (with_reducible exact Only.refl _ _) | (refine Only.setCell ?_ (.inl (by simp)) _)))
    · simp; omega
  · exact blw_
set_option maxHeartbeats 4000000 in
theorem drawSnapStep_any (C : Option Addr) (bs : List Int) (c : Nat) (w : World) (hr : RF fu w C bs) (hb : ∀ x ∈ bs, 0 ≤ x ∧ x < 256) (hc : bs.length ≤ c) (hc2 : c ≤ 9223372036854775807) :
    Calls Try.prog 25 #[.slice C bs.length c] w fun e w' => ∃ v p, e = .returned v ∧ RTw w' v p ∧ Below w.heap.size w w' := by
  go_enter Try.func25, Try.ntmps25
  go_wp2_with fail
  refine Calls.gen (fun W => Bx W w.heap.size [.slice none 0 0, .slice none 0 0, .slice none 0 0, .slice none 0 0] ∧ Below w.heap.size w W ∧ RF fu W C bs) ⟨Bx.new w [.slice none 0 0, .slice none 0 0, .slice none 0 0, .slice none 0 0] 29, blw_, hr.below blw_⟩ ?_
  clear hr
  rintro W0 ⟨X2, HB, hr⟩
  have zB := HB.size
  have hw0 := X2.lt
  (with_reducible refine (l20Open_any C bs c _ hr hb hc hc2).mono ?_); rintro e w1 ⟨g, rfl, HR, hB⟩
  have X2 := X2.below hB
  have HB := HB.trans (hB.mono zB)
  have hg := HR.lt
  have zb := hB.size
  clear hB hr zB
  go_wp2_with fail
  (with_reducible refine (l20Snap_any W0.heap.size g 1000 12 _ (HR.le (by omega)) (by omega) (by omega)).mono ?_); rintro e w2 ⟨v, rfl, ⟨p, hS⟩, hO, -⟩
  obtain ⟨A, k1, A', k2, A2, k3, A3, k4, rfl⟩ := hS.now.parts
  have X2 := X2.only hO (by simp; omega)
  have HB := HB.trans (hO.below (B := w.heap.size) HB.size (by simp; omega))
  clear hO HR
  have q0 := X2.c 0 _ rfl
  have qf0 := X2.f 0
  have q1 := X2.c 1 _ rfl
  have qf1 := X2.f 1
  have q2 := X2.c 2 _ rfl
  have qf2 := X2.f 2
  have q3 := X2.c 3 _ rfl
  have qf3 := X2.f 3
  go_wp2_with fail
  refine bodyPost_ret (v := .agg #[.slice A p.store.cells.length k1, .slice A' p.store.roots.length k2, .slice A2 p.x.length k3, .slice A3 p.y.length k4]) (by simp [results, Try.results25, go_sem, q0, q1, q2, q3]) rfl ⟨_, p, rfl, ?_, ?_⟩
  · refine SQ.now (lo := w1.heap.size) (SQ.only (S := [w.heap.size]) hS ?_ ?_)
    · exact (by repeat (first | (with_reducible exact Only.refl _ _) | (refine Only.setCell ?_ (.inl (by simp)) _)))
    · simp; omega
  · exact blw_
set_option maxHeartbeats 4000000 in
theorem drawSnapFinish_any (C : Option Addr) (bs : List Int) (c : Nat) (w : World) (hr : RF fu w C bs) (hb : ∀ x ∈ bs, 0 ≤ x ∧ x < 256) (hc : bs.length ≤ c) (hc2 : c ≤ 9223372036854775807) :
    Calls Try.prog 32 #[.slice C bs.length c] w fun e w' => ∃ v p, e = .returned v ∧ RTw w' v p ∧ Below w.heap.size w w' := by
  go_enter Try.func32, Try.ntmps32
  go_wp2_with fail
  refine Calls.gen (fun W => Bx W w.heap.size [.slice none 0 0, .slice none 0 0, .slice none 0 0, .slice none 0 0] ∧ Below w.heap.size w W ∧ RF fu W C bs) ⟨Bx.new w [.slice none 0 0, .slice none 0 0, .slice none 0 0, .slice none 0 0] 29, blw_, hr.below blw_⟩ ?_
  clear hr
  rintro W0 ⟨X2, HB, hr⟩
  have zB := HB.size
  have hw0 := X2.lt
  (with_reducible refine (l20Open_any C bs c _ hr hb hc hc2).mono ?_); rintro e w1 ⟨g, rfl, HR, hB⟩
  have X2 := X2.below hB
  have HB := HB.trans (hB.mono zB)
  have hg := HR.lt
  have zb := hB.size
  clear hB hr zB
  go_wp2_with fail
  (with_reducible refine (l20Snap_any W0.heap.size g 1000 6 _ (HR.le (by omega)) (by omega) (by omega)).mono ?_); rintro e w2 ⟨v, rfl, ⟨p, hS⟩, hO, -⟩
  obtain ⟨A, k1, A', k2, A2, k3, A3, k4, rfl⟩ := hS.now.parts
  have X2 := X2.only hO (by simp; omega)
  have HB := HB.trans (hO.below (B := w.heap.size) HB.size (by simp; omega))
  clear hO HR
  have q0 := X2.c 0 _ rfl
  have qf0 := X2.f 0
  have q1 := X2.c 1 _ rfl
  have qf1 := X2.f 1
  have q2 := X2.c 2 _ rfl
  have qf2 := X2.f 2
  have q3 := X2.c 3 _ rfl
  have qf3 := X2.f 3
  go_wp2_with fail
  refine bodyPost_ret (v := .agg #[.slice A p.store.cells.length k1, .slice A' p.store.roots.length k2, .slice A2 p.x.length k3, .slice A3 p.y.length k4]) (by simp [results, Try.results32, go_sem, q0, q1, q2, q3]) rfl ⟨_, p, rfl, ?_, ?_⟩
  · refine SQ.now (lo := w1.heap.size) (SQ.only (S := [w.heap.size]) hS ?_ ?_)
    · exact (by repeat (first | (with_reducible exact Only.refl _ _) | (refine Only.setCell ?_ (.inl (by simp)) _)))
    · simp; omega
  · exact blw_
set_option maxHeartbeats 4000000 in
theorem drawSnapCommand_any (C : Option Addr) (bs : List Int) (c : Nat) (w : World) (hr : RF fu w C bs) (hb : ∀ x ∈ bs, 0 ≤ x ∧ x < 256) (hc : bs.length ≤ c) (hc2 : c ≤ 9223372036854775807) :
    Calls Try.prog 28 #[.slice C bs.length c] w fun e w' => ∃ v p o, e = .returned (.tuple #[v, cmdV o]) ∧ RTw w' v p ∧ Below w.heap.size w w' := by
  go_enter Try.func28, Try.ntmps28
  go_wp2_with fail
  refine Calls.gen (fun W => Bx W w.heap.size [.slice none 0 0, .slice none 0 0, .slice none 0 0, .slice none 0 0] ∧ Bx W (w.heap.size + 1) [.int .i64 0, .int .i64 0, .int .i64 0, .int .i64 0] ∧ Below w.heap.size w W ∧ RF fu W C bs ∧ W.heap.size = w.heap.size + 2) ⟨(Bx.new w [.slice none 0 0, .slice none 0 0, .slice none 0 0, .slice none 0 0] 29).below blw_, by simpa using Bx.new (w.alloc (.cells #[.slice none 0 0, .slice none 0 0, .slice none 0 0, .slice none 0 0] 29)) [.int .i64 0, .int .i64 0, .int .i64 0, .int .i64 0] 42, blw_, hr.below blw_, by simp⟩ ?_
  clear hr
  rintro W0 ⟨X2, X3, HB, hr, hz0⟩
  have zB := HB.size
  (with_reducible refine (l20Open_any C bs c _ hr hb hc hc2).mono ?_); rintro e w1 ⟨g, rfl, HR, hB⟩
  rw [hz0] at HR
  have X2 := X2.below hB
  have X3 := X3.below hB
  have HB := HB.trans (hB.mono zB)
  have hg := HR.lt
  clear hB hr zB
  go_wp2_with fail
  (with_reducible refine (l20Snap_any (w.heap.size + 2) g 1000 14 _ (HR.le (by omega)) (by omega) (by omega)).mono ?_); rintro e w2 ⟨v, rfl, ⟨p, hS⟩, hO, HR⟩
  obtain ⟨A, k1, A', k2, A2, k3, A3, k4, rfl⟩ := hS.now.parts
  have X2 := X2.only hO (by simp; omega)
  have X3 := X3.only hO (by simp; omega)
  have HB := HB.trans (hO.below (B := w.heap.size) HB.size (by simp; omega))
  have hz2 := hO.size
  clear hO
  go_upto_region 3 with fail
  refine Code.gen (fun W => Bx W w.heap.size [.slice none 0 0, .slice none 0 0, .slice none 0 0, .slice none 0 0] ∧ Bx W (w.heap.size + 1) [.int .i64 0, .int .i64 0, .int .i64 0, .int .i64 0] ∧ Bx W w2.heap.size [.slice A p.store.cells.length k1, .slice A' p.store.roots.length k2, .slice A2 p.x.length k3, .slice A3 p.y.length k4] ∧ SQ (fun W9 => RTw W9 (.agg #[.slice A p.store.cells.length k1, .slice A' p.store.roots.length k2, .slice A2 p.x.length k3, .slice A3 p.y.length k4]) p) w1.heap.size W ∧ Below w.heap.size w W ∧ Rd (w.heap.size + 2) W g 1000)
    ⟨X2.below blw_, X3.below blw_, Bx.new w2 [.slice A p.store.cells.length k1, .slice A' p.store.roots.length k2, .slice A2 p.x.length k3, .slice A3 p.y.length k4] 29, hS.below blw_, blw_, HR.below blw_⟩ ?_
  have hg2 : Hid (g < w1.heap.size ∧ w1.heap.size ≤ w2.heap.size ∧ w.heap.size + 2 ≤ g) := ⟨hg.1, hz2, hg.2⟩
  generalize w2.heap.size = b5 at hg2 ⊢
  clear X2 X3 hS HB HR hg hz2
  rintro W ⟨X2, X3, X5, hS, HB, HR⟩
  refine wp_region_R (by kernel_rfl) (fun R wd hR hwd => ?_)
  have hBd : Below W.heap.size W wd := by rw [hwd]; exact blw_
  have X2 := X2.below hBd
  have X3 := X3.below hBd
  have X5 := X5.below hBd
  have hS := hS.below hBd
  have HB := HB.trans (hBd.mono HB.size)
  have HR := HR.below hBd
  clear hBd hwd
  rw [hR]
  (refine wpAny_take (i := 1) (v := ?v9_1_u0) rfl (by kernel_rfl) (by kernel_rfl) (by kernel_rfl) (fun _ _ _ h => h) (Or.inl ⟨by kernel_rfl, ?h9_1_u0⟩) ?r9_1_u0; (case h9_1_u0 => (intro w9; go_simp; try with_reducible rfl)))
  rw [← hR]
  refine rel_at (fr := ?fr_0) hR (fun f W => Bx W w.heap.size [.slice none 0 0, .slice none 0 0, .slice none 0 0, .slice none 0 0] ∧ Bx W (w.heap.size + 1) [.int .i64 0, .int .i64 0, .int .i64 0, .int .i64 0] ∧ Bx W b5 [.slice A p.store.cells.length k1, .slice A' p.store.roots.length k2, .slice A2 p.x.length k3, .slice A3 p.y.length k4] ∧ SQ (fun W9 => RTw W9 (.agg #[.slice A p.store.cells.length k1, .slice A' p.store.roots.length k2, .slice A2 p.x.length k3, .slice A3 p.y.length k4]) p) w1.heap.size W ∧ Below w.heap.size w W ∧ Rd (w.heap.size + 2) W g (16 * f)) [(fun v W => v = .agg #[.slice A p.store.cells.length k1, .slice A' p.store.roots.length k2, .slice A2 p.x.length k3, .slice A3 p.y.length k4]), tt, (fun v W => ∃ o : CmdM, v = cmdV o), tt, tt] (fun W W' => Only [g] W W') [(0, []), (2, []), (3, [0, 2]), (4, [0, 2])] [(10, 0), (12, 2)] [0, 2] #[true, true, true, false, false] 4 2 (by kernel_rfl) (by kernel_rfl) ?hfr_0 ?h0_0 ?mono_0 ?steps_0 ?_
  case hfr_0 => intro x; (simp [frOf, fill, Act.put, List.lookup]; with_reducible rfl)
  case h0_0 => exact ⟨X2, X3, X5, hS, HB, HR.le (by omega)⟩
  case mono_0 => exact (Pm.cons (fun _ _ _ _ h => h) (Pm.cons (fun _ _ _ _ h => h) (Pm.cons (fun _ _ _ _ h => h) (Pm.cons (fun _ _ _ _ h => h) (Pm.cons (fun _ _ _ _ h => h) Pm.nil)))))
  case steps_0 =>
    refine Steps.cons (RStep.of rfl fun x W f hI hD K9 hK => ?_) ?_
    · clear hD
      have c0 := hI.2.2.1.c 0 _ rfl
      have c1 := hI.2.2.1.c 1 _ rfl
      have c2 := hI.2.2.1.c 2 _ rfl
      have c3 := hI.2.2.1.c 3 _ rfl
      go_simp
      exact hK (.agg #[.slice A p.store.cells.length k1, .slice A' p.store.roots.length k2, .slice A2 p.x.length k3, .slice A3 p.y.length k4]) _ _ (by kernel_rfl) (Only.refl _ _) (⟨hI.1, hI.2.1, hI.2.2.1, hI.2.2.2.1, hI.2.2.2.2.1, hI.2.2.2.2.2.le (by omega)⟩) rfl
    refine Steps.cons (RStep.of rfl fun x W f hI hD K9 hK => ?_) ?_
    · clear hD
      have hg9 := hg2.out
      go_wp2_with fail
      (with_reducible refine (l20Command_any (w.heap.size + 2) g (16 * f) 14 _ (hI.2.2.2.2.2.le (by omega)) (by omega) (by omega)).mono ?_)
      rintro e w6 ⟨o, rfl, -, hO, hR6⟩
      exact hK (cmdV o) _ _ (by kernel_rfl) hO ⟨hI.1.only hO (by simp; omega), hI.2.1.only hO (by simp; omega), hI.2.2.1.only hO (by simp; omega), hI.2.2.2.1.only hO (by simp; omega), hI.2.2.2.2.1.trans (hO.below (B := w.heap.size) hI.2.2.2.2.1.size (by simp; omega)), hR6⟩ ⟨o, rfl⟩
    exact Steps.nil
  intro x W hI hV
  have e0 : x 0 = .agg #[.slice A p.store.cells.length k1, .slice A' p.store.roots.length k2, .slice A2 p.x.length k3, .slice A3 p.y.length k4] := hV 0 (by decide)
  have h2 : (fun v W => ∃ o : CmdM, v = cmdV o) (x 2) W := hV 2 (by decide)
  clear hV
  simp only [e0]
  obtain ⟨o, e2⟩ := h2
  simp only [e2, cmdV]
  obtain ⟨X2, X3, -, hS, HB, -⟩ := hI
  have q0 := X2.c 0 _ rfl
  have qf0 := X2.f 0
  have q1 := X2.c 1 _ rfl
  have qf1 := X2.f 1
  have q2 := X2.c 2 _ rfl
  have qf2 := X2.f 2
  have q3 := X2.c 3 _ rfl
  have qf3 := X2.f 3
  have r0 := X3.c 0 _ rfl
  have rf0 := X3.f 0
  have r1 := X3.c 1 _ rfl
  have rf1 := X3.f 1
  have r2 := X3.c 2 _ rfl
  have rf2 := X3.f 2
  have r3 := X3.c 3 _ rfl
  have rf3 := X3.f 3
  have n1 : w.heap.size ≠ w.heap.size + 1 := by omega
  have n2 : w.heap.size + 1 ≠ w.heap.size := by omega
  rw [hR]
  refine wpAny_ready (rs := [3]) (by kernel_rfl) (by simp) ?_
  refine AllReady.cons rfl (fun K9 hK9 => ?_) AllReady.nil
  go_simp
  refine hK9 _ _ ?_
  clear hK9
  refine wpAny_ready (rs := [4]) (by kernel_rfl) (by simp) ?_
  refine AllReady.cons rfl (fun K9 hK9 => ?_) AllReady.nil
  go_simp
  refine hK9 _ _ ?_
  clear hK9
  refine wpAny_done (by kernel_rfl) ?_ _
  go_wp2_with fail
  refine bodyPost_ret (v := .tuple #[.agg #[.slice A p.store.cells.length k1, .slice A' p.store.roots.length k2, .slice A2 p.x.length k3, .slice A3 p.y.length k4], cmdV o]) (by simp [results, Try.results28, go_sem, q0, q1, q2, q3, r0, r1, r2, r3, n1, n2, cmdV]) rfl ⟨_, p, o, rfl, ?_, ?_⟩
  · refine SQ.now (lo := w1.heap.size) (SQ.only (S := [w.heap.size, w.heap.size + 1]) hS ?_ ?_)
    · exact (by repeat (first | (with_reducible exact Only.refl _ _) | (refine Only.setCell ?_ (.inl (by simp)) _)))
    · have := hg2.out; simp; omega
  · exact blw_
end Go.Proofs.Yteilaalababfpaa
