/- FnPaintValid: the law's call returns true. -/
import Derived.Test.YtopbngfghpgbnaaChecked
import Derived.Deep.QuietTactic
import Derived.BigQuiet
import Derived.Deep.RegionWith
import Derived.Test.YtopbngfghpgbnaaGrCtx
import Derived.Test.YtopbngfghpgbnaaGrDrawP
import Derived.Test.YtopbngfghpgbnaaGrSam
import Derived.Test.YtopbngfghpgbnaaGrSame
import Derived.Test.YtopbngfghpgbnaaPaintV
import Derived.Test.YtopbngfghpgbnaaPaintVS
import Derived.Test.YtopbngfghpgbnaaPvI
import Derived.Test.YtopbngfghpgbnaaAppK
import Derived.Test.YtopbngfghpgbnaaGrIso
namespace Go.Proofs.Ytopbngfghpgbnaa
open Go.RowKit
set_option maxRecDepth 100000
set_option linter.unusedSimpArgs false
set_option linter.unusedVariables false
set_option maxHeartbeats 8000000 in
theorem walkPaintValid (C : Option Addr) (bs : List Int) (c : Nat) (w : World) (hr : RF fu w C bs) (hb : ∀ x ∈ bs, 0 ≤ x ∧ x < 256) (hc : bs.length ≤ c) (hc2 : c ≤ 9223372036854775807) :
    Calls Try.prog 3 #[.slice C bs.length c] w fun e w' => e = .returned (.bool true) ∧ Below w.heap.size w w' := by
  by_cases hbig : 1048576 < bs.length
  · go_enter Try.func3, Try.ntmps3
    go_wp2
    go_ret
    exact ⟨rfl, blw_⟩
  go_enter Try.func3, Try.ntmps3
  go_wp2_with fail
  (with_reducible refine (drawPaintValid_any C bs c _ hr hb hc hc2).mono ?_); rintro e w1 ⟨v1, p, rfl, hV, hB⟩
  have hV_p := hV
  clear hV
  obtain ⟨A_p, n_p, B_p, m_p, C_p, k_p, rfl⟩ := hV_p.parts
  clear hr hb
  have zB := hB.size
  go_upto_region 4 with fail
  refine Code.gen (Stb (fun W => RPt W (.agg #[.slice A_p p.store.cells.length n_p, .slice B_p p.store.roots.length m_p, .slice C_p p.colours.length k_p, .bool p.active]) p ∧ Bx W (w1.heap.size) [.slice A_p p.store.cells.length n_p, .slice B_p p.store.roots.length m_p, .slice C_p p.colours.length k_p, .bool p.active] ∧ Below w.heap.size w W)) (Stb.and (Stb.rpt (hV_p.below blw_)) (Stb.and (Stb.bx (Bx.new w1 [.slice A_p p.store.cells.length n_p, .slice B_p p.store.roots.length m_p, .slice C_p p.colours.length k_p, .bool p.active] 28)) (Stb.here blw_))) ?_
  generalize w1.heap.size = bx_p
  clear hV_p hB zB
  rintro W HI
  have c_p0 := HI.now.2.1.c 0 _ rfl
  have c_p1 := HI.now.2.1.c 1 _ rfl
  have c_p2 := HI.now.2.1.c 2 _ rfl
  have c_p3 := HI.now.2.1.c 3 _ rfl
  have z_p := HI.now.2.1.lt
  go_wp2_with fail
  refine Calls.gen (Stb (fun W => RPt W (.agg #[.slice A_p p.store.cells.length n_p, .slice B_p p.store.roots.length m_p, .slice C_p p.colours.length k_p, .bool p.active]) p ∧ Bx W bx_p [.slice A_p p.store.cells.length n_p, .slice B_p p.store.roots.length m_p, .slice C_p p.colours.length k_p, .bool p.active] ∧ Below w.heap.size w W)) (HI.step blw_) ?_
  clear c_p0 c_p1 c_p2 c_p3 z_p
  clear HI 
  rintro W HI
  (with_reducible refine (implPaintValid_any _ p _ HI.now.1).mono ?_); rintro e w2 ⟨rfl, hB⟩
  replace HI := HI.step hB
  clear hB
  have c_p0 := HI.now.2.1.c 0 _ rfl
  have c_p1 := HI.now.2.1.c 1 _ rfl
  have c_p2 := HI.now.2.1.c 2 _ rfl
  have c_p3 := HI.now.2.1.c 3 _ rfl
  have z_p := HI.now.2.1.lt
  go_wp2_with fail
  refine Calls.gen (Stb (fun W => RPt W (.agg #[.slice A_p p.store.cells.length n_p, .slice B_p p.store.roots.length m_p, .slice C_p p.colours.length k_p, .bool p.active]) p ∧ Bx W bx_p [.slice A_p p.store.cells.length n_p, .slice B_p p.store.roots.length m_p, .slice C_p p.colours.length k_p, .bool p.active] ∧ Below w.heap.size w W)) (HI.step blw_) ?_
  clear c_p0 c_p1 c_p2 c_p3 z_p
  clear HI 
  rintro W HI
  (with_reducible refine (specPaintValid_any _ p _ HI.now.1).mono ?_); rintro e w2 ⟨rfl, hB⟩
  replace HI := HI.step hB
  clear hB
  rcases bool_ft (paintM p) with hva | hva
  · rw [hva]
    go_wp2_with fail
    refine Calls.gen (Stb (fun W => RPt W (.agg #[.slice A_p p.store.cells.length n_p, .slice B_p p.store.roots.length m_p, .slice C_p p.colours.length k_p, .bool p.active]) p ∧ Bx W bx_p [.slice A_p p.store.cells.length n_p, .slice B_p p.store.roots.length m_p, .slice C_p p.colours.length k_p, .bool p.active] ∧ Below w.heap.size w W)) (HI.step blw_) ?_
    clear HI 
    rintro W HI
    (with_reducible refine (alive_any _).mono ?_); rintro e w2 ⟨rfl, hB⟩
    replace HI := HI.step hB
    clear hB
    have HB := HI.now.2.2
    have zB := HB.size
    clear HI
    go_wp2_with fail
    go_ret
    exact ⟨rfl, blw_⟩
  rw [hva]
  have HL := Lib.hid (law_PaintValid hva)
  have HS := Lib.hid (paint_small hva)
  clear hva
  have c_p0 := HI.now.2.1.c 0 _ rfl
  have c_p1 := HI.now.2.1.c 1 _ rfl
  have c_p2 := HI.now.2.1.c 2 _ rfl
  have c_p3 := HI.now.2.1.c 3 _ rfl
  have z_p := HI.now.2.1.lt
  go_upto_region 11 with fail
  clear c_p0 c_p1 c_p2 c_p3 z_p
  refine Code.gen (fun W => PVI (.slice A_p p.store.cells.length n_p) (.slice B_p p.store.roots.length m_p) w2.heap.size w2 0 [] 0 [] W) (PVI.start ((Bx.new w2 [.slice A_p p.store.cells.length n_p, .slice B_p p.store.roots.length m_p, .slice none 0 0, .bool true] 28).below blw_) (by simpa using Bx.new (w2.alloc (.cells #[.slice A_p p.store.cells.length n_p, .slice B_p p.store.roots.length m_p, .slice none 0 0, .bool true] 28 (0, 0))) [.slice A_p p.store.cells.length n_p, .slice B_p p.store.roots.length m_p, .slice none 0 0, .bool true] 28) blw_) ?_
  generalize hbw : w2.heap.size = bw
  have HBW := Lib.hid hbw
  clear hbw
  rintro W HP0
  have HN40 : Hid (p.store.cells.length ≤ 40) := HS.out.1
  go_wp2
  go_loopw [7] (fun s7 wr => ∃ k : Nat, s7 = .int .i64 (k : Int) ∧ k ≤ p.store.cells.length ∧ PVI (.slice A_p p.store.cells.length n_p) (.slice B_p p.store.roots.length m_p) bw w2 k ((paintAll 2 p.store).take k) k ((paintAll 1 p.store).take k) wr) (fun s7 _ => p.store.cells.length - (intOf s7).toNat)
  case atStart => exact ⟨0, rfl, by omega, HP0⟩
  case round =>
    clear HP0
    obtain ⟨k, rfl, hk, HP⟩ := hrel
    obtain ⟨Y5, hY5⟩ : ∃ Y, Hid (Y = (paintAll 2 p.store).take k) := ⟨_, rfl⟩
    obtain ⟨Y6, hY6⟩ : ∃ Y, Hid (Y = (paintAll 1 p.store).take k) := ⟨_, rfl⟩
    rw [← hY5.out, ← hY6.out] at HP
    obtain ⟨S5, c5, S6, c6, e5, e6, X5, X6, O5, O6, L5, L6, YW⟩ := HP
    have E5 := Lib.hid e5
    have E6 := Lib.hid e6
    clear e5 e6
    have HIr := HI.step (by rw [HBW.out]; exact YW)
    have c_p0 := HIr.now.2.1.c 0 _ rfl
    have z_p := HIr.now.2.1.lt
    by_cases hlt : k < p.store.cells.length
    · obtain ⟨b, o, cc, Ar, cr, eA, gx, m0, -⟩ := HIr.now.1.inv.1.cells.at_ hlt
      rw [eA] at c_p0
      clear eA
      have i0 : (0 : Int) ≤ (k : Int) := by omega
      have i1 : (k : Int) < (p.store.cells.length : Int) := by omega
      have i3 : Hid ((k : Int) + 1 < 9223372036854775807) := by have := HN40.out; unfold Hid; omega
      have G5 : Hid ((paintAll 2 p.store).take (k + 1) = Y5 ++ [if cc.used then 2 else 0]) := by rw [hY5.out]; exact paintAll_snoc gx
      have G6 : Hid ((paintAll 1 p.store).take (k + 1) = Y6 ++ [if cc.used then 1 else 0]) := by rw [hY6.out]; exact paintAll_snoc gx
      clear gx hY5 hY6 HI HIr
      rcases bool_ft cc.used with hu | hu
      · rw [hu] at m0 G5 G6
        simp only [Bool.false_eq_true, if_false] at G5 G6
        go_upto_region 17 with fail
        have d5 := X5.c 2 _ rfl
        have z5 := X5.lt
        have n5 : bw ∉ blk S5 := fun h => by have := (L5 _ h).1; omega
        go_upto_region 18 with (at_builtin; (refine wpList_appi rfl (.tmp 54) (.tmp 55) rfl Y5 (by rw [← E5.out]; rfl) rfl (O5.below blw_) (RF.sngK (x := 0) (by simp [go_sem, fi])) (by have := E5.out; have := HN40.out; simp; omega) ?_); intro S7 c7 w7 hO7 hOn7 hg7; have y2 := hOn7.cell (cell_below d5 blw_) n5; have yf2 : w7.frozen? ⟨bw, 2, none⟩ = false := (hOn7.frozenAt _ _ (by simp; omega) n5).trans (((bcell (show Below wr.heap.size wr _ from blw_)).2.1 _ _ z5).trans (X5.f 2)))
        refine Code.gen (fun W => PVI (.slice A_p p.store.cells.length n_p) (.slice B_p p.store.roots.length m_p) bw w2 (Y5.length + 1) (Y5 ++ [0]) k Y6 W) (PVI.push5 X5 X6 O5 O6 L5 L6 YW E6.out blw_ hO7 hOn7 hg7 (by simp)) ?_
        clear d5 z5 n5 y2 yf2 hO7 hOn7 hg7 X5 X6 O5 O6 L5 L6 YW
        rintro wr HP
        obtain ⟨S5, c5, S6, c6, e5', -, X5, X6, O5, O6, L5, L6, YW⟩ := HP
        have E5_ := Lib.hid E5.out
        clear E5
        have E5 := Lib.hid e5'
        clear e5'
        have d6 := X6.c 2 _ rfl
        have z6 := X6.lt
        have n5 : bw + 1 ∉ blk S6 := fun h => by have := L6 _ h; omega
        go_upto_region 13 with (at_builtin; (refine wpList_appi rfl (.tmp 59) (.tmp 60) rfl Y6 (by rw [← E6.out]; rfl) rfl (O6.below blw_) (RF.sngK (x := 0) (by simp [go_sem, fi])) (by have := E6.out; have := HN40.out; simp; omega) ?_); intro S7 c7 w7 hO7 hOn7 hg7; have y2 := hOn7.cell (cell_below d6 blw_) n5; have yf2 : w7.frozen? ⟨bw + 1, 2, none⟩ = false := (hOn7.frozenAt _ _ (by simp; omega) n5).trans (((bcell (show Below wr.heap.size wr _ from blw_)).2.1 _ _ z6).trans (X6.f 2)))
        refine Code.gen (fun W => PVI (.slice A_p p.store.cells.length n_p) (.slice B_p p.store.roots.length m_p) bw w2 (Y5.length + 1) (Y5 ++ [0]) (Y6.length + 1) (Y6 ++ [0]) W) (PVI.push6 X5 X6 O5 O6 L5 L6 YW E5.out blw_ hO7 hOn7 hg7 (by simp)) ?_
        clear d6 z6 n5 y2 yf2 hO7 hOn7 hg7 X5 X6 O5 O6 L5 L6 YW
        rintro wr HP
        have i3v : (k : Int) + 1 < 9223372036854775807 := i3.out
        go_wp2
        go_roundw
        case rel => exact ⟨k + 1, by go_num, by omega, by rw [G5.out, G6.out, show k + 1 = Y5.length + 1 by have := E5_.out; omega]; rw [show Y5.length + 1 = Y6.length + 1 by have := E5_.out; have := E6.out; omega] at HP ⊢; exact HP⟩
        case measure => simp [intOf]; omega
      · rw [hu] at m0 G5 G6
        simp only [if_true] at G5 G6
        go_upto_region 15 with fail
        have d5 := X5.c 2 _ rfl
        have z5 := X5.lt
        have n5 : bw ∉ blk S5 := fun h => by have := (L5 _ h).1; omega
        go_upto_region 16 with (at_builtin; (refine wpList_appi rfl (.tmp 44) (.tmp 45) rfl Y5 (by rw [← E5.out]; rfl) rfl (O5.below blw_) (RF.sngK (x := 2) (by simp [go_sem, fi])) (by have := E5.out; have := HN40.out; simp; omega) ?_); intro S7 c7 w7 hO7 hOn7 hg7; have y2 := hOn7.cell (cell_below d5 blw_) n5; have yf2 : w7.frozen? ⟨bw, 2, none⟩ = false := (hOn7.frozenAt _ _ (by simp; omega) n5).trans (((bcell (show Below wr.heap.size wr _ from blw_)).2.1 _ _ z5).trans (X5.f 2)))
        refine Code.gen (fun W => PVI (.slice A_p p.store.cells.length n_p) (.slice B_p p.store.roots.length m_p) bw w2 (Y5.length + 1) (Y5 ++ [2]) k Y6 W) (PVI.push5 X5 X6 O5 O6 L5 L6 YW E6.out blw_ hO7 hOn7 hg7 (by simp)) ?_
        clear d5 z5 n5 y2 yf2 hO7 hOn7 hg7 X5 X6 O5 O6 L5 L6 YW
        rintro wr HP
        obtain ⟨S5, c5, S6, c6, e5', -, X5, X6, O5, O6, L5, L6, YW⟩ := HP
        have E5_ := Lib.hid E5.out
        clear E5
        have E5 := Lib.hid e5'
        clear e5'
        have d6 := X6.c 2 _ rfl
        have z6 := X6.lt
        have n5 : bw + 1 ∉ blk S6 := fun h => by have := L6 _ h; omega
        go_upto_region 13 with (at_builtin; (refine wpList_appi rfl (.tmp 49) (.tmp 50) rfl Y6 (by rw [← E6.out]; rfl) rfl (O6.below blw_) (RF.sngK (x := 1) (by simp [go_sem, fi])) (by have := E6.out; have := HN40.out; simp; omega) ?_); intro S7 c7 w7 hO7 hOn7 hg7; have y2 := hOn7.cell (cell_below d6 blw_) n5; have yf2 : w7.frozen? ⟨bw + 1, 2, none⟩ = false := (hOn7.frozenAt _ _ (by simp; omega) n5).trans (((bcell (show Below wr.heap.size wr _ from blw_)).2.1 _ _ z6).trans (X6.f 2)))
        refine Code.gen (fun W => PVI (.slice A_p p.store.cells.length n_p) (.slice B_p p.store.roots.length m_p) bw w2 (Y5.length + 1) (Y5 ++ [2]) (Y6.length + 1) (Y6 ++ [1]) W) (PVI.push6 X5 X6 O5 O6 L5 L6 YW E5.out blw_ hO7 hOn7 hg7 (by simp)) ?_
        clear d6 z6 n5 y2 yf2 hO7 hOn7 hg7 X5 X6 O5 O6 L5 L6 YW
        rintro wr HP
        have i3v : (k : Int) + 1 < 9223372036854775807 := i3.out
        go_wp2
        go_roundw
        case rel => exact ⟨k + 1, by go_num, by omega, by rw [G5.out, G6.out, show k + 1 = Y5.length + 1 by have := E5_.out; omega]; rw [show Y5.length + 1 = Y6.length + 1 by have := E5_.out; have := E6.out; omega] at HP ⊢; exact HP⟩
        case measure => simp [intOf]; omega
    · have i4 : ¬ (k : Int) < (p.store.cells.length : Int) := by omega
      have G5 : Hid (Y5 = paintAll 2 p.store) := by rw [hY5.out, List.take_of_length_le (by rw [paintAll_len]; omega)]; rfl
      have G6 : Hid (Y6 = paintAll 1 p.store) := by rw [hY6.out, List.take_of_length_le (by rw [paintAll_len]; omega)]; rfl
      go_upto_region 19 with fail
      have HI := HIr
      clear HIr
      rw [G5.out] at O5 E5
      rw [G6.out] at O6 E6
      have HV := HI.now.1.inv.1
      have V5 : RPt wr (.agg #[.slice A_p p.store.cells.length n_p, .slice B_p p.store.roots.length m_p, .slice S5 k c5, .bool true]) ⟨p.store, paintAll 2 p.store, true⟩ := RPt.of_ HV O5.rf (by rw [paintAll_len]; have := HN40.out; omega) E5.out
      have V6 : RPt wr (.agg #[.slice A_p p.store.cells.length n_p, .slice B_p p.store.roots.length m_p, .slice S6 k c6, .bool true]) ⟨p.store, paintAll 1 p.store, true⟩ := RPt.of_ HV O6.rf (by rw [paintAll_len]; have := HN40.out; omega) E6.out
      refine Code.gen (Stb (fun W => Bx W bw [.slice A_p p.store.cells.length n_p, .slice B_p p.store.roots.length m_p, .slice S5 k c5, .bool true] ∧ Bx W (bw + 1) [.slice A_p p.store.cells.length n_p, .slice B_p p.store.roots.length m_p, .slice S6 k c6, .bool true] ∧ RPt W (.agg #[.slice A_p p.store.cells.length n_p, .slice B_p p.store.roots.length m_p, .slice S5 k c5, .bool true]) ⟨p.store, paintAll 2 p.store, true⟩ ∧ RPt W (.agg #[.slice A_p p.store.cells.length n_p, .slice B_p p.store.roots.length m_p, .slice S6 k c6, .bool true]) ⟨p.store, paintAll 1 p.store, true⟩ ∧ RPt W (.agg #[.slice A_p p.store.cells.length n_p, .slice B_p p.store.roots.length m_p, .slice C_p p.colours.length k_p, .bool p.active]) p ∧ Bx W bx_p [.slice A_p p.store.cells.length n_p, .slice B_p p.store.roots.length m_p, .slice C_p p.colours.length k_p, .bool p.active] ∧ Below w.heap.size w W)) (Stb.and (Stb.bx (X5.below blw_)) (Stb.and (Stb.bx (X6.below blw_)) (Stb.and (Stb.rpt (V5.below blw_)) (Stb.and (Stb.rpt (V6.below blw_)) (HI.step blw_))))) ?_
      clear HI V5 V6 HV X5 X6 O5 O6 L5 L6 YW E5 E6 c_p0 z_p G5 G6 hY5 hY6 HBW hk hlt i4
      rintro W HI
      have HC40 : Hid (p.colours.length ≤ 40) := HS.out.2.2.2.1
      refine wp_region_R (by kernel_rfl) (fun R wd hR hwd => ?_)
      have hBd : Below W.heap.size W wd := by rw [hwd]; exact blw_
      have HJ := HI.step hBd
      clear HI hwd hBd
      refine rel_at (fr := ?fr_0) hR (fun f W => Below wd.heap.size wd W) [(fun v W => v = .agg #[.slice A_p p.store.cells.length n_p, .slice B_p p.store.roots.length m_p, .slice S5 k c5, .bool true]), (fun v W => v = .bool true), (fun v W => v = .bool true), (fun v W => v = .agg #[.slice A_p p.store.cells.length n_p, .slice B_p p.store.roots.length m_p, .slice S6 k c6, .bool true]), (fun v W => v = .bool true), (fun v W => v = .bool true), (fun v W => v = .bool true), (fun v W => v = .pointer (some ⟨bx_p, 0, none⟩)), (fun v W => v = .agg #[.slice A_p p.store.cells.length n_p, .slice B_p p.store.roots.length m_p]), (fun v W => ∃ S : Option Addr, v = .slice S 0 0 ∧ OF 3 fi W S 0 ([] : List Int) ∧ ∀ g ∈ blk S, wd.heap.size ≤ g), (fun v W => v = .pointer (some ⟨bx_p, 2, none⟩)), (fun v W => v = .slice C_p p.colours.length k_p), (fun v W => ∃ (S : Option Addr) (c : Nat), v = .slice S p.colours.length c ∧ OF 3 fi W S c p.colours ∧ ∀ g ∈ blk S, wd.heap.size ≤ g), (fun v W => ∃ b : Nat, v = .slice (some ⟨b, 0, none⟩) 1 1 ∧ OF 3 fi W (some ⟨b, 0, none⟩) 1 ([0] : List Int)), (fun v W => ∃ (S : Option Addr) (c : Nat), v = .slice S (p.colours.length + 1) c ∧ OF 3 fi W S c (p.colours ++ [0])), (fun v W => v = .pointer (some ⟨bx_p, 3, none⟩)), (fun v W => v = .bool p.active), (fun v W => ∃ (S : Option Addr) (c : Nat), v = .agg #[.slice A_p p.store.cells.length n_p, .slice B_p p.store.roots.length m_p, .slice S (p.colours.length + 1) c, .bool p.active] ∧ OF 3 fi W S c (p.colours ++ [0])), (fun v W => v = .bool false), (fun v W => v = .bool true), (fun v W => v = .bool true), (fun v W => v = .bool true)] (fun W W' => Below wd.heap.size W W' ∧ Kp p.colours.length (fi 0) W W') [(0, []), (1, [0]), (2, [1, 0]), (3, [2, 1, 0]), (4, [2, 1, 0, 3]), (5, [2, 1, 0, 4, 3]), (6, [5, 2, 1, 0, 4, 3]), (7, [6, 5, 2, 1, 0, 4, 3]), (8, [6, 5, 2, 1, 0, 4, 3, 7]), (9, [6, 5, 2, 1, 0, 4, 3]), (10, [6, 5, 2, 1, 0, 4, 3]), (11, [6, 5, 2, 1, 0, 4, 3, 10]), (12, [6, 5, 2, 1, 0, 4, 3, 9, 11, 10]), (13, [6, 5, 2, 1, 0, 4, 3]), (14, [6, 5, 2, 1, 0, 4, 3, 12, 9, 11, 10, 13]), (15, [6, 5, 2, 1, 0, 4, 3]), (16, [6, 5, 2, 1, 0, 4, 3, 15]), (17, [6, 5, 2, 1, 0, 4, 3, 8, 7, 14, 12, 9, 11, 10, 13, 16, 15]), (18, [6, 5, 2, 1, 0, 4, 3, 17, 8, 7, 14, 12, 9, 11, 10, 13, 16, 15]), (19, [6, 5, 2, 1, 0, 4, 3, 18, 17, 8, 7, 14, 12, 9, 11, 10, 13, 16, 15]), (20, [6, 5, 2, 1, 0, 4, 3, 19, 18, 17, 8, 7, 14, 12, 9, 11, 10, 13, 16, 15]), (21, [20, 6, 5, 2, 1, 0, 4, 3, 19, 18, 17, 8, 7, 14, 12, 9, 11, 10, 13, 16, 15])] [(63, 0), (64, 1), (65, 2), (66, 3), (67, 4), (68, 5), (69, 6), (70, 7), (71, 8), (72, 9), (73, 10), (74, 11), (75, 12), (76, 13), (77, 14), (78, 15), (79, 16), (80, 17), (81, 18), (82, 19), (83, 20), (2, 21)] [0, 1, 2, 3, 4, 5, 6, 7, 8, 9, 10, 11, 12, 13, 14, 15, 16, 17, 18, 19, 20, 21] #[true, true, true, true, true, true, true, true, true, true, true, true, true, true, true, true, true, true, true, true, true, true] 22 0 (by kernel_rfl) (by kernel_rfl) ?hfr_0 ?h0_0 ?mono_0 ?steps_0 ?_
      case hfr_0 => intro x; (simp [frOf, fill, Act.put, List.lookup]; with_reducible rfl)
      case h0_0 => exact Below.refl _ _
      case mono_0 => exact (Pm.cons (fun _ _ _ _ h => h) (Pm.cons (fun _ _ _ _ h => h) (Pm.cons (fun _ _ _ _ h => h) (Pm.cons (fun _ _ _ _ h => h) (Pm.cons (fun _ _ _ _ h => h) (Pm.cons (fun _ _ _ _ h => h) (Pm.cons (fun _ _ _ _ h => h) (Pm.cons (fun _ _ _ _ h => h) (Pm.cons (fun _ _ _ _ h => h) (Pm.cons (fun _ _ _ hG ⟨S, e, h, hl⟩ => ⟨S, e, hG.2.row h (fun k x _ hx => by simp at hx), hl⟩) (Pm.cons (fun _ _ _ _ h => h) (Pm.cons (fun _ _ _ _ h => h) (Pm.cons (fun _ _ _ hG ⟨S, c, e, h, hl⟩ => ⟨S, c, e, hG.2.row h (fun k x hn hx => by have := (List.getElem?_eq_some_iff.1 hx).1; omega), hl⟩) (Pm.cons (fun _ _ _ hG ⟨b, e, h⟩ => ⟨b, e, hG.2.row h (fun k x _ hx => one_zero hx)⟩) (Pm.cons (fun _ _ _ hG ⟨S, c, e, h⟩ => ⟨S, c, e, hG.2.row h (fun k x hn hx => tail_zero hn hx)⟩) (Pm.cons (fun _ _ _ _ h => h) (Pm.cons (fun _ _ _ _ h => h) (Pm.cons (fun _ _ _ hG ⟨S, c, e, h⟩ => ⟨S, c, e, hG.2.row h (fun k x hn hx => tail_zero hn hx)⟩) (Pm.cons (fun _ _ _ _ h => h) (Pm.cons (fun _ _ _ _ h => h) (Pm.cons (fun _ _ _ _ h => h) (Pm.cons (fun _ _ _ _ h => h) Pm.nil))))))))))))))))))))))
      case steps_0 =>
        refine Steps.cons (RStep.of rfl fun x W f hI hD K9 hK => ?_) ?_
        · clear hD
          have d0 := (HJ.step hI).now.1.c 0 _ rfl
          have d1 := (HJ.step hI).now.1.c 1 _ rfl
          have d2 := (HJ.step hI).now.1.c 2 _ rfl
          have d3 := (HJ.step hI).now.1.c 3 _ rfl
          go_simp
          exact hK (.agg #[.slice A_p p.store.cells.length n_p, .slice B_p p.store.roots.length m_p, .slice S5 k c5, .bool true]) _ _ (by kernel_rfl) (⟨Below.refl _ _, Kp.below (Below.refl _ _)⟩) (hI) rfl
        refine Steps.cons (RStep.of rfl fun x W f hI hD K9 hK => ?_) ?_
        · have e0 : x 0 = .agg #[.slice A_p p.store.cells.length n_p, .slice B_p p.store.roots.length m_p, .slice S5 k c5, .bool true] := hD 0 (by decide)
          clear hD
          simp only [e0] at hK ⊢
          go_wp2_with fail
          (with_reducible refine (implPaintValid_any _ ⟨p.store, paintAll 2 p.store, true⟩ _ (HJ.step hI).now.2.2.1).mono ?_); rw [HL.out.1]
          rintro e w6 ⟨rfl, hB⟩
          exact hK _ _ _ (by kernel_rfl) ⟨hB.mono hI.size, Kp.below hB⟩ (hI.trans (hB.mono hI.size)) rfl
        refine Steps.cons (RStep.of rfl fun x W f hI hD K9 hK => ?_) ?_
        · have e1 : x 1 = .bool true := hD 1 (by decide)
          clear hD
          simp only [e1] at hK ⊢
          go_simp
          exact hK (.bool true) _ _ (by kernel_rfl) (⟨Below.refl _ _, Kp.below (Below.refl _ _)⟩) (hI) rfl
        refine Steps.cons (RStep.of rfl fun x W f hI hD K9 hK => ?_) ?_
        · have e2 : x 2 = .bool true := hD 2 (by decide)
          clear hD
          have d0 := (HJ.step hI).now.2.1.c 0 _ rfl
          have d1 := (HJ.step hI).now.2.1.c 1 _ rfl
          have d2 := (HJ.step hI).now.2.1.c 2 _ rfl
          have d3 := (HJ.step hI).now.2.1.c 3 _ rfl
          simp only [e2] at hK ⊢
          go_simp
          exact hK (.agg #[.slice A_p p.store.cells.length n_p, .slice B_p p.store.roots.length m_p, .slice S6 k c6, .bool true]) _ _ (by kernel_rfl) (⟨Below.refl _ _, Kp.below (Below.refl _ _)⟩) (hI) rfl
        refine Steps.cons (RStep.of rfl fun x W f hI hD K9 hK => ?_) ?_
        · have e2 : x 2 = .bool true := hD 2 (by decide)
          have e3 : x 3 = .agg #[.slice A_p p.store.cells.length n_p, .slice B_p p.store.roots.length m_p, .slice S6 k c6, .bool true] := hD 3 (by decide)
          clear hD
          simp only [e2, e3] at hK ⊢
          go_wp2_with fail
          (with_reducible refine (implPaintValid_any _ ⟨p.store, paintAll 1 p.store, true⟩ _ (HJ.step hI).now.2.2.2.1).mono ?_); rw [HL.out.2.1]
          rintro e w6 ⟨rfl, hB⟩
          exact hK _ _ _ (by kernel_rfl) ⟨hB.mono hI.size, Kp.below hB⟩ (hI.trans (hB.mono hI.size)) rfl
        refine Steps.cons (RStep.of rfl fun x W f hI hD K9 hK => ?_) ?_
        · have e2 : x 2 = .bool true := hD 2 (by decide)
          have e4 : x 4 = .bool true := hD 4 (by decide)
          clear hD
          simp only [e2, e4] at hK ⊢
          go_simp
          exact hK (.bool true) _ _ (by kernel_rfl) (⟨Below.refl _ _, Kp.below (Below.refl _ _)⟩) (hI) rfl
        refine Steps.cons (RStep.of rfl fun x W f hI hD K9 hK => ?_) ?_
        · have e5 : x 5 = .bool true := hD 5 (by decide)
          clear hD
          simp only [e5] at hK ⊢
          go_simp
          exact hK (.bool true) _ _ (by kernel_rfl) (⟨Below.refl _ _, Kp.below (Below.refl _ _)⟩) (hI) rfl
        refine Steps.cons (RStep.of rfl fun x W f hI hD K9 hK => ?_) ?_
        · have e6 : x 6 = .bool true := hD 6 (by decide)
          clear hD
          simp only [e6] at hK ⊢
          go_simp
          exact hK (.pointer (some ⟨bx_p, 0, none⟩)) _ _ (by kernel_rfl) (⟨Below.refl _ _, Kp.below (Below.refl _ _)⟩) (hI) rfl
        refine Steps.cons (RStep.of rfl fun x W f hI hD K9 hK => ?_) ?_
        · have e6 : x 6 = .bool true := hD 6 (by decide)
          have e7 : x 7 = .pointer (some ⟨bx_p, 0, none⟩) := hD 7 (by decide)
          clear hD
          have d0 := (HJ.step hI).now.2.2.2.2.2.1.c 0 _ rfl
          have d1 := (HJ.step hI).now.2.2.2.2.2.1.c 1 _ rfl
          simp only [e6, e7] at hK ⊢
          go_simp
          exact hK (.agg #[.slice A_p p.store.cells.length n_p, .slice B_p p.store.roots.length m_p]) _ _ (by kernel_rfl) (⟨Below.refl _ _, Kp.below (Below.refl _ _)⟩) (hI) rfl
        refine Steps.cons (RStep.of rfl fun x W f hI hD K9 hK => ?_) ?_
        · have e6 : x 6 = .bool true := hD 6 (by decide)
          clear hD
          simp only [e6] at hK ⊢
          go_simp
          exact hK (.slice (some ⟨W.heap.size, 0, none⟩) 0 0) _ _ (by kernel_rfl) ⟨Below.mono (show Below W.heap.size W _ from blw_) hI.size, Kp.below blw_⟩ (hI.trans (Below.mono (show Below W.heap.size W _ from blw_) hI.size)) ⟨_, rfl, OF.of_blkn (T := 3) (by simp) (heap_alloc_at _ _ _ rfl) (by simp only [maxLen]; simp), fun g hg => by rw [mem_blk_some hg]; exact hI.size⟩
        refine Steps.cons (RStep.of rfl fun x W f hI hD K9 hK => ?_) ?_
        · have e6 : x 6 = .bool true := hD 6 (by decide)
          clear hD
          simp only [e6] at hK ⊢
          go_simp
          exact hK (.pointer (some ⟨bx_p, 2, none⟩)) _ _ (by kernel_rfl) (⟨Below.refl _ _, Kp.below (Below.refl _ _)⟩) (hI) rfl
        refine Steps.cons (RStep.of rfl fun x W f hI hD K9 hK => ?_) ?_
        · have e6 : x 6 = .bool true := hD 6 (by decide)
          have e10 : x 10 = .pointer (some ⟨bx_p, 2, none⟩) := hD 10 (by decide)
          clear hD
          have d2 := (HJ.step hI).now.2.2.2.2.2.1.c 2 _ rfl
          simp only [e6, e10] at hK ⊢
          go_simp
          exact hK (.slice C_p p.colours.length k_p) _ _ (by kernel_rfl) (⟨Below.refl _ _, Kp.below (Below.refl _ _)⟩) (hI) rfl
        refine Steps.cons (RStep.of rfl fun x W f hI hD K9 hK => ?_) ?_
        · have e6 : x 6 = .bool true := hD 6 (by decide)
          have h9 : (fun v W => ∃ S : Option Addr, v = .slice S 0 0 ∧ OF 3 fi W S 0 ([] : List Int) ∧ ∀ g ∈ blk S, wd.heap.size ≤ g) (x 9) W := hD 9 (by decide)
          have e11 : x 11 = .slice C_p p.colours.length k_p := hD 11 (by decide)
          clear hD
          simp only [e6, e11] at hK ⊢
          obtain ⟨S9, e9, h9, l9⟩ := h9
          simp only [e9] at hK ⊢
          have hc40 := HC40.out
          refine step_g (by kernel_rfl) ?_
          refine step_app0 (.tmp 72) (.tmp 74) rfl rfl rfl h9 (HJ.step hI).now.2.2.2.2.1.co (by omega) ?_
          intro S7 c7 w7 hO7 hOn7 hg7 hk7
          have hB7 : Below wd.heap.size W w7 := hOn7.below hI.size l9
          exact hK _ _ _ (by kernel_rfl) ⟨hB7, Kp.of_old hk7⟩ (hI.trans hB7) ⟨S7, c7, rfl, hO7, fun g hg => by rcases hg7 g hg with h | h; exact l9 g h; exact Nat.le_trans hI.size h⟩
        refine Steps.cons (RStep.of rfl fun x W f hI hD K9 hK => ?_) ?_
        · have e6 : x 6 = .bool true := hD 6 (by decide)
          clear hD
          simp only [e6] at hK ⊢
          go_simp
          exact hK (.slice (some ⟨W.heap.size, 0, none⟩) 1 1) _ _ (by kernel_rfl) ⟨Below.mono (show Below W.heap.size W _ from blw_) hI.size, Kp.below blw_⟩ (hI.trans (Below.mono (show Below W.heap.size W _ from blw_) hI.size)) ⟨_, rfl, OF.of_blkn (T := 3) (by simp) (heap_alloc_at _ _ _ rfl) (by simp only [maxLen]; simp)⟩
        refine Steps.cons (RStep.of rfl fun x W f hI hD K9 hK => ?_) ?_
        · have e6 : x 6 = .bool true := hD 6 (by decide)
          have h12 : (fun v W => ∃ (S : Option Addr) (c : Nat), v = .slice S p.colours.length c ∧ OF 3 fi W S c p.colours ∧ ∀ g ∈ blk S, wd.heap.size ≤ g) (x 12) W := hD 12 (by decide)
          have h13 : (fun v W => ∃ b : Nat, v = .slice (some ⟨b, 0, none⟩) 1 1 ∧ OF 3 fi W (some ⟨b, 0, none⟩) 1 ([0] : List Int)) (x 13) W := hD 13 (by decide)
          clear hD
          simp only [e6] at hK ⊢
          obtain ⟨S2, c2, e12, h12, l12⟩ := h12
          obtain ⟨b3, e13, h13⟩ := h13
          simp only [e12, e13] at hK ⊢
          have hc40 := HC40.out
          refine step_g (by kernel_rfl) ?_
          refine step_app1 (.tmp 75) (.tmp 76) rfl p.colours rfl rfl h12 (h13.cell rfl) (by omega) ?_
          intro S7 c7 w7 hO7 hOn7 hg7 hk7
          have hB7 : Below wd.heap.size W w7 := hOn7.below hI.size l12
          exact hK (.slice S7 (p.colours ++ [0]).length c7) _ _ (by kernel_rfl) ⟨hB7, hk7⟩ (hI.trans hB7) ⟨S7, c7, by simp only [List.length_append, List.length_singleton], hO7⟩
        refine Steps.cons (RStep.of rfl fun x W f hI hD K9 hK => ?_) ?_
        · have e6 : x 6 = .bool true := hD 6 (by decide)
          clear hD
          simp only [e6] at hK ⊢
          go_simp
          exact hK (.pointer (some ⟨bx_p, 3, none⟩)) _ _ (by kernel_rfl) (⟨Below.refl _ _, Kp.below (Below.refl _ _)⟩) (hI) rfl
        refine Steps.cons (RStep.of rfl fun x W f hI hD K9 hK => ?_) ?_
        · have e6 : x 6 = .bool true := hD 6 (by decide)
          have e15 : x 15 = .pointer (some ⟨bx_p, 3, none⟩) := hD 15 (by decide)
          clear hD
          have d3 := (HJ.step hI).now.2.2.2.2.2.1.c 3 _ rfl
          simp only [e6, e15] at hK ⊢
          go_simp
          exact hK (.bool p.active) _ _ (by kernel_rfl) (⟨Below.refl _ _, Kp.below (Below.refl _ _)⟩) (hI) rfl
        refine Steps.cons (RStep.of rfl fun x W f hI hD K9 hK => ?_) ?_
        · have e6 : x 6 = .bool true := hD 6 (by decide)
          have e8 : x 8 = .agg #[.slice A_p p.store.cells.length n_p, .slice B_p p.store.roots.length m_p] := hD 8 (by decide)
          have h14 : (fun v W => ∃ (S : Option Addr) (c : Nat), v = .slice S (p.colours.length + 1) c ∧ OF 3 fi W S c (p.colours ++ [0])) (x 14) W := hD 14 (by decide)
          have e16 : x 16 = .bool p.active := hD 16 (by decide)
          clear hD
          simp only [e6, e8, e16] at hK ⊢
          obtain ⟨S4, c4, e14, h14⟩ := h14
          simp only [e14] at hK ⊢
          go_simp
          exact hK (.agg #[.slice A_p p.store.cells.length n_p, .slice B_p p.store.roots.length m_p, .slice S4 (p.colours.length + 1) c4, .bool p.active]) _ _ (by kernel_rfl) ⟨Below.refl _ _, Kp.below (Below.refl _ _)⟩ hI ⟨S4, c4, rfl, h14⟩
        refine Steps.cons (RStep.of rfl fun x W f hI hD K9 hK => ?_) ?_
        · have e6 : x 6 = .bool true := hD 6 (by decide)
          have h17 : (fun v W => ∃ (S : Option Addr) (c : Nat), v = .agg #[.slice A_p p.store.cells.length n_p, .slice B_p p.store.roots.length m_p, .slice S (p.colours.length + 1) c, .bool p.active] ∧ OF 3 fi W S c (p.colours ++ [0])) (x 17) W := hD 17 (by decide)
          clear hD
          simp only [e6] at hK ⊢
          obtain ⟨S4, c4, e17, h17⟩ := h17
          simp only [e17] at hK ⊢
          have hc40 := HC40.out
          have hq : RPt W (.agg #[.slice A_p p.store.cells.length n_p, .slice B_p p.store.roots.length m_p, .slice S4 (p.colours.length + 1) c4, .bool p.active]) ⟨p.store, p.colours ++ [0], p.active⟩ := RPt.of_ (HJ.step hI).now.2.2.2.2.1.inv.1 h17.rf (by simp; omega) (by simp)
          clear hc40
          go_wp2_with fail
          (with_reducible refine (implPaintValid_any _ ⟨p.store, p.colours ++ [0], p.active⟩ _ hq).mono ?_); rw [HL.out.2.2]
          rintro e w6 ⟨rfl, hB⟩
          exact hK _ _ _ (by kernel_rfl) ⟨hB.mono hI.size, Kp.below hB⟩ (hI.trans (hB.mono hI.size)) rfl
        refine Steps.cons (RStep.of rfl fun x W f hI hD K9 hK => ?_) ?_
        · have e6 : x 6 = .bool true := hD 6 (by decide)
          have e18 : x 18 = .bool false := hD 18 (by decide)
          clear hD
          simp only [e6, e18] at hK ⊢
          go_simp
          exact hK (.bool true) _ _ (by kernel_rfl) (⟨Below.refl _ _, Kp.below (Below.refl _ _)⟩) (hI) rfl
        refine Steps.cons (RStep.of rfl fun x W f hI hD K9 hK => ?_) ?_
        · have e6 : x 6 = .bool true := hD 6 (by decide)
          have e19 : x 19 = .bool true := hD 19 (by decide)
          clear hD
          simp only [e6, e19] at hK ⊢
          go_simp
          exact hK (.bool true) _ _ (by kernel_rfl) (⟨Below.refl _ _, Kp.below (Below.refl _ _)⟩) (hI) rfl
        refine Steps.cons (RStep.of rfl fun x W f hI hD K9 hK => ?_) ?_
        · have e20 : x 20 = .bool true := hD 20 (by decide)
          clear hD
          simp only [e20] at hK ⊢
          go_simp
          exact hK (.bool true) _ _ (by kernel_rfl) (⟨Below.refl _ _, Kp.below (Below.refl _ _)⟩) (hI) rfl
        exact Steps.nil
      intro x W hI hV
      have e0 : x 0 = .agg #[.slice A_p p.store.cells.length n_p, .slice B_p p.store.roots.length m_p, .slice S5 k c5, .bool true] := hV 0 (by decide)
      have e1 : x 1 = .bool true := hV 1 (by decide)
      have e2 : x 2 = .bool true := hV 2 (by decide)
      have e3 : x 3 = .agg #[.slice A_p p.store.cells.length n_p, .slice B_p p.store.roots.length m_p, .slice S6 k c6, .bool true] := hV 3 (by decide)
      have e4 : x 4 = .bool true := hV 4 (by decide)
      have e5 : x 5 = .bool true := hV 5 (by decide)
      have e6 : x 6 = .bool true := hV 6 (by decide)
      have e7 : x 7 = .pointer (some ⟨bx_p, 0, none⟩) := hV 7 (by decide)
      have e8 : x 8 = .agg #[.slice A_p p.store.cells.length n_p, .slice B_p p.store.roots.length m_p] := hV 8 (by decide)
      have h9 : (fun v W => ∃ S : Option Addr, v = .slice S 0 0 ∧ OF 3 fi W S 0 ([] : List Int) ∧ ∀ g ∈ blk S, wd.heap.size ≤ g) (x 9) W := hV 9 (by decide)
      have e10 : x 10 = .pointer (some ⟨bx_p, 2, none⟩) := hV 10 (by decide)
      have e11 : x 11 = .slice C_p p.colours.length k_p := hV 11 (by decide)
      have h12 : (fun v W => ∃ (S : Option Addr) (c : Nat), v = .slice S p.colours.length c ∧ OF 3 fi W S c p.colours ∧ ∀ g ∈ blk S, wd.heap.size ≤ g) (x 12) W := hV 12 (by decide)
      have h13 : (fun v W => ∃ b : Nat, v = .slice (some ⟨b, 0, none⟩) 1 1 ∧ OF 3 fi W (some ⟨b, 0, none⟩) 1 ([0] : List Int)) (x 13) W := hV 13 (by decide)
      have h14 : (fun v W => ∃ (S : Option Addr) (c : Nat), v = .slice S (p.colours.length + 1) c ∧ OF 3 fi W S c (p.colours ++ [0])) (x 14) W := hV 14 (by decide)
      have e15 : x 15 = .pointer (some ⟨bx_p, 3, none⟩) := hV 15 (by decide)
      have e16 : x 16 = .bool p.active := hV 16 (by decide)
      have h17 : (fun v W => ∃ (S : Option Addr) (c : Nat), v = .agg #[.slice A_p p.store.cells.length n_p, .slice B_p p.store.roots.length m_p, .slice S (p.colours.length + 1) c, .bool p.active] ∧ OF 3 fi W S c (p.colours ++ [0])) (x 17) W := hV 17 (by decide)
      have e18 : x 18 = .bool false := hV 18 (by decide)
      have e19 : x 19 = .bool true := hV 19 (by decide)
      have e20 : x 20 = .bool true := hV 20 (by decide)
      have e21 : x 21 = .bool true := hV 21 (by decide)
      clear hV
      simp only [e0, e1, e2, e3, e4, e5, e6, e7, e8, e10, e11, e15, e16, e18, e19, e20, e21]
      clear h9 h12 h13 h14 h17
      rw [hR]
      refine wpAny_done (by kernel_rfl) ?_ _
      clear hR
      have HI := HJ.step hI
      clear HJ hI
      have HB := HI.now.2.2.2.2.2.2
      have zB := HB.size
      clear HI
      go_wp2_with fail
      go_ret
      exact ⟨rfl, blw_⟩
end Go.Proofs.Ytopbngfghpgbnaa
