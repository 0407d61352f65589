/- copyAged and barrier of the program. -/
import Derived.Test.YtmlgndeihfpfgaaChecked
import Derived.Deep.RegionHeld3
import Derived.Deep.DeepCutAuto
import Derived.Lib.QuietBelow
import Derived.Test.YtmlgndeihfpfgaaGrKeep
import Derived.Test.YtmlgndeihfpfgaaGrSnap
namespace Go.Proofs.Ytmlgndeihfpfgaa
open Go.RowKit
open Go.Sort
set_option maxRecDepth 100000
set_option linter.unusedSimpArgs false
set_option linter.unusedVariables false
set_option maxHeartbeats 4000000 in
theorem copyAged_any (v : Value) (p : TwoM) (w : World) (hv : RTw w v p) (hn : p.store.cells.length ≤ 1048576) (hr : ∀ d ∈ p.store.cells, d.refs.length ≤ 1048576) (hn2 : p.store.roots.length ≤ 1048576) (hn3 : p.x.length ≤ 1048576) (hn4 : p.y.length ≤ 1048576) :
    Calls Try.prog 96 #[v] w fun e w' => ∃ v', e = .returned v' ∧ OTw w.heap.size w' v' p ∧ Below w.heap.size w w' := by
  obtain ⟨A, c, A', c', A2, c2, A3, c3, rfl, hh, hx, -, hy, -⟩ := hv
  have HG0 : Hid (∀ W, Below (((w.alloc (.cells #[.slice A p.store.cells.length c, .slice A' p.store.roots.length c', .slice A2 p.x.length c2, .slice A3 p.y.length c3] 45)).alloc (.cells #[.slice none 0 0, .slice none 0 0, .slice none 0 0, .slice none 0 0] 45))).heap.size (((w.alloc (.cells #[.slice A p.store.cells.length c, .slice A' p.store.roots.length c', .slice A2 p.x.length c2, .slice A3 p.y.length c3] 45)).alloc (.cells #[.slice none 0 0, .slice none 0 0, .slice none 0 0, .slice none 0 0] 45))) W → (W.cell? ⟨w.heap.size + 1, 0, none⟩ = some (.slice none 0 0) ∧ W.cell? ⟨w.heap.size + 1, 1, none⟩ = some (.slice none 0 0) ∧ W.cell? ⟨w.heap.size + 1, 2, none⟩ = some (.slice none 0 0) ∧ W.cell? ⟨w.heap.size + 1, 3, none⟩ = some (.slice none 0 0) ∧ ∀ o, W.frozen? ⟨w.heap.size + 1, o, none⟩ = false)) := fun W hW => ⟨cell_below (by simp [go_sem]) hW, cell_below (by simp [go_sem]) hW, cell_below (by simp [go_sem]) hW, cell_below (by simp [go_sem]) hW, fun o => ((bcell hW).2.1 _ _ (by simp)).trans (by simp [go_sem])⟩
  have HF0 : Hid (∀ W, Only [w.heap.size + 1] (((w.alloc (.cells #[.slice A p.store.cells.length c, .slice A' p.store.roots.length c', .slice A2 p.x.length c2, .slice A3 p.y.length c3] 45)).alloc (.cells #[.slice none 0 0, .slice none 0 0, .slice none 0 0, .slice none 0 0] 45))) W → (W.cell? ⟨w.heap.size, 0, none⟩ = some (.slice A p.store.cells.length c) ∧ W.cell? ⟨w.heap.size, 1, none⟩ = some (.slice A' p.store.roots.length c') ∧ W.cell? ⟨w.heap.size, 2, none⟩ = some (.slice A2 p.x.length c2) ∧ W.cell? ⟨w.heap.size, 3, none⟩ = some (.slice A3 p.y.length c3))) := fun W hW => ⟨hW.cell (by simp [go_sem]) (by simp), hW.cell (by simp [go_sem]) (by simp), hW.cell (by simp [go_sem]) (by simp), hW.cell (by simp [go_sem]) (by simp)⟩
  have hz0 : (((w.alloc (.cells #[.slice A p.store.cells.length c, .slice A' p.store.roots.length c', .slice A2 p.x.length c2, .slice A3 p.y.length c3] 45)).alloc (.cells #[.slice none 0 0, .slice none 0 0, .slice none 0 0, .slice none 0 0] 45))).heap.size = w.heap.size + 2 := by simp
  have hW0 : Below w.heap.size w (((w.alloc (.cells #[.slice A p.store.cells.length c, .slice A' p.store.roots.length c', .slice A2 p.x.length c2, .slice A3 p.y.length c3] 45)).alloc (.cells #[.slice none 0 0, .slice none 0 0, .slice none 0 0, .slice none 0 0] 45))) := blw_
  go_enter Try.func96, Try.ntmps96
  go_upto_region 1 with fail
  generalize (((w.alloc (.cells #[.slice A p.store.cells.length c, .slice A' p.store.roots.length c', .slice A2 p.x.length c2, .slice A3 p.y.length c3] 45)).alloc (.cells #[.slice none 0 0, .slice none 0 0, .slice none 0 0, .slice none 0 0] 45))) = W0 at *
  have hh0 := hh.below hW0
  have hx0 := hx.below hW0
  have hy0 := hy.below hW0
  clear hh hx hy
  go_region_held3 (fun W => (W.cell? ⟨w.heap.size, 0, none⟩ = some (.slice A p.store.cells.length c) ∧ W.cell? ⟨w.heap.size, 1, none⟩ = some (.slice A' p.store.roots.length c') ∧ W.cell? ⟨w.heap.size, 2, none⟩ = some (.slice A2 p.x.length c2) ∧ W.cell? ⟨w.heap.size, 3, none⟩ = some (.slice A3 p.y.length c3)))
    (first | with_reducible exact HF0.out _ (by repeat (first | (with_reducible refine Only.setCell ?_ (.inl (by simp)) _) | (with_reducible refine Only.drew ?_) | (with_reducible refine Only.alloc ?_ _) | (with_reducible assumption) | (with_reducible exact Only.refl _ _) | (with_reducible refine Only.trans ?_ (Only.of_below (by with_reducible assumption))))))
    (first
      | (go_at_call 86; (with_reducible refine (copyHeap_any _ p.store _ ((hh0.below blw_).rh _ _) hn hr hn2).mono ?_); rintro e wh ⟨vh, rfl, ⟨B, d, B', d', os, rfl, hm, ho, hlo⟩, hBh⟩; (have z_hBh := Below.size hBh); (try simp only [World.size_alloc, World.size_setCell, World.size_drew, World.heap_drewN] at z_hBh); have HM := Lib.hid hm; clear hm; have HL := Lib.hid hlo; clear hlo; have HO := Lib.hid ho; clear ho; have Yh : Below W0.heap.size W0 wh := blw_)
      | (go_at_call 115; (with_reducible refine (cloneBool_any A2 p.x _ _ (hx0.below blw_) (by omega)).mono ?_); rintro e wb ⟨S2, d2, rfl, hS2, hg2, hB2⟩; (have z_hB2 := Below.size hB2); (try simp only [World.size_alloc, World.size_setCell, World.size_drew, World.heap_drewN] at z_hB2); have Yb : Below W0.heap.size W0 wb := blw_; obtain ⟨r0, r1, r2, r3, rf⟩ := HG0.out wb Yb; have rf0 := rf 0; have rf1 := rf 1; have rf2 := rf 2; have rf3 := rf 3)
      | (go_at_call 115; (with_reducible refine (cloneBool_any A3 p.y _ _ (hy0.below blw_) (by omega)).mono ?_); rintro e wc ⟨S3, d3, rfl, hS3, hg3, hB3⟩; (have z_hB3 := Below.size hB3); (try simp only [World.size_alloc, World.size_setCell, World.size_drew, World.heap_drewN] at z_hB3); have Yc : Below W0.heap.size W0 wc := blw_; obtain ⟨r0, r1, r2, r3, rf⟩ := HG0.out wc Yc; have rf0 := rf 0; have rf1 := rf 1; have rf2 := rf 2; have rf3 := rf 3))
  have hL := HL.out
  have hlt := HO.out.lt
  have hlt2 := hS2.lt
  have hlt3 := hS3.lt
  try simp only [World.size_alloc, World.size_setCell, World.size_drew, World.heap_drewN, heap_drew_] at hL hg2 hg3
  have i1 : ∀ b ∈ hblks B os B', w.heap.size + 2 ≤ b ∧ b < wh.heap.size := fun b hb => ⟨by have := hL b hb; omega, hlt b hb⟩
  have i2 : ∀ b ∈ blk S2, wh.heap.size ≤ b ∧ b < wb.heap.size := fun b hb => ⟨by have := hg2 b hb; omega, hlt2 b hb⟩
  have i3 : ∀ b ∈ blk S3, wb.heap.size ≤ b ∧ b < wc.heap.size := fun b hb => ⟨by have := hg3 b hb; omega, hlt3 b hb⟩
  have sYh := Yh.size
  have hOc : OHs wc B d B' d' os p.store.roots := (HO.out.below (show Below wh.heap.size wh wb from hB2)).below (show Below wb.heap.size wb wc from hB3)
  have hS2c : OF 4 fb wc S2 d2 p.x := hS2.below (show Below wb.heap.size wb wc from hB3)
  have X : Below w.heap.size w wc := hW0.trans (Yc.mono hW0.size)
  have hb : OTw (w.heap.size + 2) wc (.agg #[.slice B p.store.cells.length d, .slice B' p.store.roots.length d', .slice S2 p.x.length d2, .slice S3 p.y.length d3]) p :=
    ⟨B, d, B', d', os, S2, d2, S3, d3, rfl, HM.out, hOc, hS2c, hS3, nd3_of HO.out.nodup (blk_nodup _) (blk_nodup _) (fun b h1 h2 => by have := i2 b h1; have := i1 b h2; omega) (fun b h1 h2 => by have := i3 b h1; have := i1 b h2; omega) (fun b h1 h2 => by have := i3 b h1; have := i2 b h2; omega), fun b hb => by
      simp only [List.mem_append] at hb
      rcases hb with (hb | hb) | hb
      · exact (i1 _ hb).1
      · have := i2 _ hb; omega
      · have := i3 _ hb; omega, by omega, by omega⟩
  have HB := Lib.hid hb
  have HX := Lib.hid X
  clear hb X hOc hS2c i1 i2 i3 hL hlt hlt2 hlt3 hg2 hg3 hS2 hS3 hB2 hB3 hBh Yh Yb Yc
  go_wp2_with fail
  refine bodyPost_ret (v := .agg #[.slice B p.store.cells.length d, .slice B' p.store.roots.length d', .slice S2 p.x.length d2, .slice S3 p.y.length d3]) (by simp [results, Try.results96, go_sem, r0, r1, r2, r3]) rfl ⟨_, rfl, ?_, (((HX.out.setCell (by simp) _).setCell (by simp) _).setCell (by simp) _).setCell (by simp) _⟩
  exact ((((HB.out.setlt (by simp) _).setlt (by simp) _).setlt (by simp) _).setlt (by simp) _).lo_ (by omega)
set_option maxHeartbeats 4000000 in
theorem barrier_any (lo g : Nat) (p : TwoM) (o : CmdM) (A A' A2 A3 : Option Addr) (c c' c2 c3 : Nat) (os : List OCell) (w : World) (h : PTx lo w g p A c A' c' os A2 c2 A3 c3) (hlo1 : lo ≤ w.heap.size) (hv : agedM p = true) (hok : cmdOk o = true) (hps : possO p.store o = true) :
    Calls Try.prog 98 #[.pointer (some ⟨g, 0, none⟩), .agg #[.int .i64 o.op, .int .i64 o.a, .int .i64 o.b, .int .i64 o.c]] w fun e w' => e = .returned (.tuple #[]) ∧ PTx lo w' g ⟨p.store, p.x, noteM p o⟩ A c A' c' os A2 c2 A3 c3 ∧ Below lo w w' := by
  obtain ⟨op, oa, ob, oc⟩ := o
  dsimp only
  rcases Classical.em (op = 3) with hop | hop
  · subst hop
    obtain ⟨hvs, hxl, hyl⟩ := agedM_parts hv
    obtain ⟨v1, v2, -⟩ := valid_small hvs
    obtain ⟨-, lt2⟩ := validM_lt hvs
    obtain ⟨-, -, a0, a3, b0, b3, -, -⟩ := cmdOk_parts hok
    dsimp only at a0 a3 b0 b3
    have b3' : ob ≤ 3 := b3
    have hrA : 0 ≤ rootAt p.store oa := by
      unfold possO placeOk at hps
      simp at hps
      exact hps.1
    obtain ⟨ra, hra⟩ : ∃ ra, p.store.roots[oa.toNat]? = some ra := ⟨_, List.getElem?_eq_getElem (by omega)⟩
    obtain ⟨rb, hrb⟩ : ∃ rb, p.store.roots[ob.toNat]? = some rb := ⟨_, List.getElem?_eq_getElem (by omega)⟩
    have era : rootAt p.store oa = ra := by unfold rootAt; rw [hra]
    have erb : rootAt p.store ob = rb := by unfold rootAt; rw [hrb]
    rw [era] at hrA
    obtain ⟨n, rfl⟩ := Int.eq_ofNat_of_zero_le hrA
    have hnc : n < p.store.cells.length := by have := lt2 _ (List.mem_of_getElem? hra); omega
    have hrb64 : rb < 64 := by have := lt2 _ (List.mem_of_getElem? hrb); omega
    have hyb := youngRef_bit p (by omega) (by omega) ((validM_leads hvs).2 _ (List.mem_of_getElem? hrb))
    have hy64 : youngBits p < 18446744073709551616 := andN_lt (used64 hvs)
    obtain ⟨bx, hbx⟩ : ∃ b, p.x[n]? = some b := ⟨_, List.getElem?_eq_getElem (by omega)⟩
    have hbd : p.x.getD n false = bx := by rw [List.getD, hbx]; rfl
    have HNB : Hid (noteM p ⟨3, oa, ob, oc⟩ = if bx && youngRef p.x rb then p.y.set n true else p.y) := by
      unfold Hid noteM noteB
      simp only [era, erb, Int.toNat_natCast, hbd]
      simp
    obtain ⟨gA, hgA, -⟩ := h.own.roots.some_ (j := oa.toNat) (by omega)
    subst hgA
    have m1 : w.cell? ⟨gA, oa.toNat, none⟩ = some (.int .i64 (n : Int)) := h.own.roots.cell hra
    have m2 : w.cell? ⟨gA, ob.toNat, none⟩ = some (.int .i64 rb) := h.own.roots.cell hrb
    obtain ⟨gx, hgx, -⟩ := h.xs.some_ (j := n) (by omega)
    subst hgx
    have m3 : w.cell? ⟨gx, n, none⟩ = some (.bool bx) := h.xs.cell hbx
    obtain ⟨gy, hgy, -⟩ := h.ys.some_ (j := n) (by omega)
    subst hgy
    have HM4 := Lib.hid h.ys
    have q0 := h.q0
    have q1 := h.q1
    have q2 := h.q2
    have q3 := h.q3
    have hlt := h.lt
    have hlo := h.lo_
    have H := Lib.hid h
    have hal : Below w.heap.size w ((w.alloc (.cells #[.int .i64 3, .int .i64 oa, .int .i64 ob, .int .i64 oc] 62))) := blw_
    have ha1 : oa < (p.store.roots.length : Int) := by omega
    have hb1 : ob < (p.store.roots.length : Int) := by omega
    have hrl : p.store.roots.length ≤ 4 := by omega
    have hnx : n < p.x.length := by omega
    have hny : n < p.y.length := by omega
    have hxx : p.x.length ≤ 40 := by omega
    have hyy : p.y.length ≤ 40 := by omega
    have HLX := Lib.hid hxl
    have HLY := Lib.hid hyl
    clear h hv hok hps hvs hxl hyl v2 lt2 hra hrb era erb hbx hbd a3 b3 b3' hrA
    go_enter Try.func98, Try.ntmps98
    go_wp2_with fail
    have b1 : ((w.alloc (.cells #[.int .i64 3, .int .i64 oa, .int .i64 ob, .int .i64 oc] 62))).cell? ⟨w.heap.size, 1, none⟩ = some (.int .i64 oa) := by simp [go_sem]
    have b2 : ((w.alloc (.cells #[.int .i64 3, .int .i64 oa, .int .i64 ob, .int .i64 oc] 62))).cell? ⟨w.heap.size, 2, none⟩ = some (.int .i64 ob) := by simp [go_sem]
    generalize ((w.alloc (.cells #[.int .i64 3, .int .i64 oa, .int .i64 ob, .int .i64 oc] 62))) = W at *
    have k1 := cell_regrown b1
    have k2 := cell_regrown b2
    have e0 := cell_regrown (cell_below q0 hal)
    have e1 := cell_regrown (cell_below q1 hal)
    have e2 := cell_regrown (cell_below q2 hal)
    have e3 := cell_regrown (cell_below q3 hal)
    have f1 := cell_regrown (cell_below m1 hal)
    have f2 := cell_regrown (cell_below m2 hal)
    have f3 := cell_regrown (cell_below m3 hal)
    refine wp_region_quiet_below (by kernel_rfl) (by kernel_rfl) ?_
    (with_reducible refine wpQuiet_step (fun K hK => ?_)); go_simp; (with_reducible refine hK _ ?_); clear hK K; (with_reducible refine wpQuiet_step (fun K hK => ?_)); go_simp; (with_reducible refine hK _ ?_); clear hK K; (with_reducible refine wpQuiet_step (fun K hK => ?_)); go_simp; (with_reducible refine hK _ ?_); clear hK K; (with_reducible refine wpQuiet_step (fun K hK => ?_)); go_simp; (with_reducible refine hK _ ?_); clear hK K; (with_reducible refine wpQuiet_step (fun K hK => ?_)); go_simp; (with_reducible refine hK _ ?_); clear hK K
    (with_reducible refine wpQuiet_step (fun K hK => ?_)); go_simp; (with_reducible refine hK _ ?_); clear hK K; (with_reducible refine wpQuiet_step (fun K hK => ?_)); go_simp; (with_reducible refine hK _ ?_); clear hK K; (with_reducible refine wpQuiet_step (fun K hK => ?_)); go_simp; (with_reducible refine hK _ ?_); clear hK K; (with_reducible refine wpQuiet_step (fun K hK => ?_)); go_simp; (with_reducible refine hK _ ?_); clear hK K; (with_reducible refine wpQuiet_step (fun K hK => ?_)); go_simp; (with_reducible refine hK _ ?_); clear hK K
    refine wpQuiet_nil ?_
    intro _ hw'
    obtain ⟨⟨dq, osq⟩, hw''⟩ := hw'
    subst hw''
    obtain ⟨V, hV⟩ : ∃ V, V = grow (redrawn W dq) osq := ⟨_, rfl⟩
    have hBV : Below W.heap.size W V := by rw [hV]; exact below_regrown _ _ _
    rw [← hV]
    have HV := Lib.hid hV
    clear hV
    clear e0 e1 e2 e3 f1 f2 f3 k1 k2
    have g0 := cell_below (cell_below q0 hal) hBV
    have g1 := cell_below (cell_below q1 hal) hBV
    have g2 := cell_below (cell_below q2 hal) hBV
    have g3 := cell_below (cell_below q3 hal) hBV
    have j2 := cell_below (cell_below m2 hal) hBV
    have j3 := cell_below (cell_below m3 hal) hBV
    have l2 := cell_below b2 hBV
    have hwV : Below w.heap.size w V := hal.trans (hBV.mono hal.size)
    have e0 := cell_regrown g0
    have e1 := cell_regrown g1
    have e2 := cell_regrown g2
    have e3 := cell_regrown g3
    have f2 := cell_regrown j2
    have f3 := cell_regrown j3
    have k2 := cell_regrown l2
    clear hal hBV b1 b2 m1 m2 q0 q1 q2
    have hrt := H.out.opt.rt
    have HRT : Hid (∀ d os_, RTw (grow (redrawn V d) os_) (.agg #[.slice A p.store.cells.length c, .slice (some ⟨gA, 0, none⟩) p.store.roots.length c', .slice (some ⟨gx, 0, none⟩) p.x.length c2, .slice (some ⟨gy, 0, none⟩) p.y.length c3]) p) := fun d os_ => hrt.below (hwV.trans ((below_regrown V d os_).mono hwV.size))
    have v1' : p.store.cells.length ≤ 64 := by omega
    have hx64 : p.x.length ≤ 64 := by omega
    have HYB := Lib.hid hyb
    clear hrt hyb
    rcases bool_ft bx with hbf | hbt
    · subst hbf
      have HN2 : Hid (noteM p ⟨3, oa, ob, oc⟩ = p.y) := by unfold Hid; rw [HNB.out]; rfl
      go_wp2_with fail
      refine wp_region_quiet_below (by kernel_rfl) (by kernel_rfl) ?_
      (with_reducible refine wpQuiet_step (fun K hK => ?_)); go_simp; (with_reducible refine hK _ ?_); clear hK K; (with_reducible refine wpQuiet_step (fun K hK => ?_)); go_simp; (with_reducible refine hK _ ?_); clear hK K; (with_reducible refine wpQuiet_step (fun K hK => ?_)); go_simp; (with_reducible refine hK _ ?_); clear hK K; (with_reducible refine wpQuiet_step (fun K hK => ?_)); go_simp; (with_reducible refine hK _ ?_); clear hK K; (with_reducible refine wpQuiet_step (fun K hK => ?_)); go_simp; (with_reducible refine hK _ ?_); clear hK K
      (with_reducible refine wpQuiet_step (fun K hK => ?_)); go_simp; (with_reducible refine hK _ ?_); clear hK K; (with_reducible refine wpQuiet_step (fun K hK => ?_)); go_simp; (with_reducible refine hK _ ?_); clear hK K; (with_reducible refine wpQuiet_step (fun K hK => ?_)); go_simp; (with_reducible refine hK _ ?_); clear hK K; (with_reducible refine wpQuiet_step (fun K hK => ?_)); go_simp; (with_reducible refine hK _ ?_); clear hK K; (with_reducible refine wpQuiet_step (fun K hK => ?_)); go_simp; (with_reducible refine hK _ ?_); clear hK K
      (with_reducible refine wpQuiet_step (fun K hK => ?_)); go_simp; (with_reducible refine hK _ ?_); clear hK K; (with_reducible refine wpQuiet_step (fun K hK => ?_)); go_simp; (with_reducible refine hK _ ?_); clear hK K; (with_reducible refine wpQuiet_step (fun K hK => ?_)); go_simp; (with_reducible refine hK _ ?_); clear hK K; (with_reducible refine wpQuiet_step (fun K hK => ?_)); go_simp; (with_reducible refine hK _ ?_); clear hK K; (with_reducible refine wpQuiet_step (fun K hK => ?_)); go_simp; (with_reducible refine hK _ ?_); clear hK K
      (with_reducible refine wpQuiet_step (fun K hK => ?_)); go_simp; (with_reducible refine hK _ ?_); clear hK K; (with_reducible refine wpQuiet_step (fun K hK => ?_)); go_simp; (with_reducible refine hK _ ?_); clear hK K; (with_reducible refine wpQuiet_step (fun K hK => ?_)); go_simp; (with_reducible refine hK _ ?_); clear hK K; (with_reducible refine wpQuiet_step (fun K hK => ?_)); go_simp; (with_reducible refine hK _ ?_); clear hK K; (with_reducible refine wpQuiet_step (fun K hK => ?_)); go_simp; (with_reducible refine hK _ ?_); clear hK K
      (with_reducible refine wpQuiet_step (fun K hK => ?_)); go_simp; (with_reducible refine hK _ ?_); clear hK K
      (with_reducible refine wpQuiet_step (fun K hK => ?_)); go_simp; (with_reducible refine hK _ ?_); clear hK K
      (with_reducible refine wpQuiet_step (fun K hK => ?_)); go_simp; (with_reducible refine hK _ ?_); clear hK K
      refine wpQuiet_nil ?_
      intro _ hw'
      obtain ⟨⟨dq2, osq2⟩, hw''⟩ := hw'
      subst hw''
      have hw2 : Below w.heap.size w (grow (redrawn V dq2) osq2) := hwV.trans ((below_regrown V dq2 osq2).mono hwV.size)
      go_wp2
      go_end0
      refine ⟨rfl, ?_, hw2.mono hlo1⟩
      rw [HN2.out]; exact H.out.below hw2
    · subst hbt
      have cY : ∀ d os_, Calls Try.prog 102 #[.agg #[.slice A p.store.cells.length c, .slice (some ⟨gA, 0, none⟩) p.store.roots.length c', .slice (some ⟨gx, 0, none⟩) p.x.length c2, .slice (some ⟨gy, 0, none⟩) p.y.length c3]] (grow (redrawn V d) os_) fun e w'' => e = .returned (.int .u64 ((youngBits p : Nat) : Int)) ∧ ∃ q : Regrown, w'' = grow (redrawn V q.d) q.os := fun d os_ => Calls.regrown_of (young_any _ p _ (HRT.out d os_) v1' hx64)
      rcases bool_ft (youngRef p.x rb) with hyr | hyr
      · have cH : ∀ d os_, Calls Try.prog 106 #[.int .u64 ((youngBits p : Nat) : Int), .int .i64 rb] (grow (redrawn V d) os_) fun e w'' => e = .returned (.bool false) ∧ ∃ q : Regrown, w'' = grow (redrawn V q.d) q.os := fun d os_ => Calls.regrown_of ((has_any (youngBits p) rb _ hrb64 hy64).mono fun _ _ h9 => ⟨by rw [h9.1, HYB.out, hyr], h9.2 ▸ Below.refl _ _⟩)
        have HN2 : Hid (noteM p ⟨3, oa, ob, oc⟩ = p.y) := by unfold Hid; rw [HNB.out, hyr]; rfl
        clear hyr
        go_wp2_with fail
        refine wp_region_quiet_below (by kernel_rfl) (by kernel_rfl) ?_
        (with_reducible refine wpQuiet_step (fun K hK => ?_)); go_simp; (with_reducible refine hK _ ?_); clear hK K; (with_reducible refine wpQuiet_step (fun K hK => ?_)); go_simp; (with_reducible refine hK _ ?_); clear hK K; (with_reducible refine wpQuiet_step (fun K hK => ?_)); go_simp; (with_reducible refine hK _ ?_); clear hK K; (with_reducible refine wpQuiet_step (fun K hK => ?_)); go_simp; (with_reducible refine hK _ ?_); clear hK K; (with_reducible refine wpQuiet_step (fun K hK => ?_)); go_simp; (with_reducible refine hK _ ?_); clear hK K
        (with_reducible refine wpQuiet_step (fun K hK => ?_)); go_simp; (with_reducible refine hK _ ?_); clear hK K; (with_reducible refine wpQuiet_step (fun K hK => ?_)); go_simp; (with_reducible refine hK _ ?_); clear hK K; (with_reducible refine wpQuiet_step (fun K hK => ?_)); go_simp; (with_reducible refine hK _ ?_); clear hK K; (with_reducible refine wpQuiet_step (fun K hK => ?_)); go_simp; (with_reducible refine hK _ ?_); clear hK K; (with_reducible refine wpQuiet_step (fun K hK => ?_)); go_simp; (with_reducible refine hK _ ?_); clear hK K
        (with_reducible refine wpQuiet_step (fun K hK => ?_)); go_simp; (with_reducible refine hK _ ?_); clear hK K
        (with_reducible refine wpQuiet_step (fun K hK => ?_)); go_simp; apply Exists.intro; refine ⟨fun _ => ?_, hK _ ?_⟩; exact cY _ _; clear hK K
        (with_reducible refine wpQuiet_step (fun K hK => ?_)); go_simp; (with_reducible refine hK _ ?_); clear hK K; (with_reducible refine wpQuiet_step (fun K hK => ?_)); go_simp; (with_reducible refine hK _ ?_); clear hK K; (with_reducible refine wpQuiet_step (fun K hK => ?_)); go_simp; (with_reducible refine hK _ ?_); clear hK K; (with_reducible refine wpQuiet_step (fun K hK => ?_)); go_simp; (with_reducible refine hK _ ?_); clear hK K; (with_reducible refine wpQuiet_step (fun K hK => ?_)); go_simp; (with_reducible refine hK _ ?_); clear hK K
        (with_reducible refine wpQuiet_step (fun K hK => ?_)); go_simp; (with_reducible refine hK _ ?_); clear hK K
        (with_reducible refine wpQuiet_step (fun K hK => ?_)); go_simp; (with_reducible refine hK _ ?_); clear hK K
        (with_reducible refine wpQuiet_step (fun K hK => ?_)); go_simp; (with_reducible refine hK _ ?_); clear hK K
        (with_reducible refine wpQuiet_step (fun K hK => ?_)); go_simp; (with_reducible refine hK _ ?_); clear hK K
        (with_reducible refine wpQuiet_step (fun K hK => ?_)); go_simp; apply Exists.intro; refine ⟨fun _ => ?_, hK _ ?_⟩; exact cH _ _; clear hK K
        (with_reducible refine wpQuiet_step (fun K hK => ?_)); go_simp; (with_reducible refine hK _ ?_); clear hK K
        refine wpQuiet_nil ?_
        intro _ hw'
        obtain ⟨⟨dq2, osq2⟩, hw''⟩ := hw'
        subst hw''
        have hw2 : Below w.heap.size w (grow (redrawn V dq2) osq2) := hwV.trans ((below_regrown V dq2 osq2).mono hwV.size)
        go_wp2
        go_end0
        refine ⟨rfl, ?_, hw2.mono hlo1⟩
        rw [HN2.out]; exact H.out.below hw2
      · have cH : ∀ d os_, Calls Try.prog 106 #[.int .u64 ((youngBits p : Nat) : Int), .int .i64 rb] (grow (redrawn V d) os_) fun e w'' => e = .returned (.bool true) ∧ ∃ q : Regrown, w'' = grow (redrawn V q.d) q.os := fun d os_ => Calls.regrown_of ((has_any (youngBits p) rb _ hrb64 hy64).mono fun _ _ h9 => ⟨by rw [h9.1, HYB.out, hyr], h9.2 ▸ Below.refl _ _⟩)
        have HN2 : Hid (noteM p ⟨3, oa, ob, oc⟩ = p.y.set n true) := by unfold Hid; rw [HNB.out, hyr]; rfl
        clear hyr
        go_wp2_with fail
        refine wp_region_quiet_below (by kernel_rfl) (by kernel_rfl) ?_
        (with_reducible refine wpQuiet_step (fun K hK => ?_)); go_simp; (with_reducible refine hK _ ?_); clear hK K; (with_reducible refine wpQuiet_step (fun K hK => ?_)); go_simp; (with_reducible refine hK _ ?_); clear hK K; (with_reducible refine wpQuiet_step (fun K hK => ?_)); go_simp; (with_reducible refine hK _ ?_); clear hK K; (with_reducible refine wpQuiet_step (fun K hK => ?_)); go_simp; (with_reducible refine hK _ ?_); clear hK K; (with_reducible refine wpQuiet_step (fun K hK => ?_)); go_simp; (with_reducible refine hK _ ?_); clear hK K
        (with_reducible refine wpQuiet_step (fun K hK => ?_)); go_simp; (with_reducible refine hK _ ?_); clear hK K; (with_reducible refine wpQuiet_step (fun K hK => ?_)); go_simp; (with_reducible refine hK _ ?_); clear hK K; (with_reducible refine wpQuiet_step (fun K hK => ?_)); go_simp; (with_reducible refine hK _ ?_); clear hK K; (with_reducible refine wpQuiet_step (fun K hK => ?_)); go_simp; (with_reducible refine hK _ ?_); clear hK K; (with_reducible refine wpQuiet_step (fun K hK => ?_)); go_simp; (with_reducible refine hK _ ?_); clear hK K
        (with_reducible refine wpQuiet_step (fun K hK => ?_)); go_simp; (with_reducible refine hK _ ?_); clear hK K
        (with_reducible refine wpQuiet_step (fun K hK => ?_)); go_simp; apply Exists.intro; refine ⟨fun _ => ?_, hK _ ?_⟩; exact cY _ _; clear hK K
        (with_reducible refine wpQuiet_step (fun K hK => ?_)); go_simp; (with_reducible refine hK _ ?_); clear hK K; (with_reducible refine wpQuiet_step (fun K hK => ?_)); go_simp; (with_reducible refine hK _ ?_); clear hK K; (with_reducible refine wpQuiet_step (fun K hK => ?_)); go_simp; (with_reducible refine hK _ ?_); clear hK K; (with_reducible refine wpQuiet_step (fun K hK => ?_)); go_simp; (with_reducible refine hK _ ?_); clear hK K; (with_reducible refine wpQuiet_step (fun K hK => ?_)); go_simp; (with_reducible refine hK _ ?_); clear hK K
        (with_reducible refine wpQuiet_step (fun K hK => ?_)); go_simp; (with_reducible refine hK _ ?_); clear hK K
        (with_reducible refine wpQuiet_step (fun K hK => ?_)); go_simp; (with_reducible refine hK _ ?_); clear hK K
        (with_reducible refine wpQuiet_step (fun K hK => ?_)); go_simp; (with_reducible refine hK _ ?_); clear hK K
        (with_reducible refine wpQuiet_step (fun K hK => ?_)); go_simp; (with_reducible refine hK _ ?_); clear hK K
        (with_reducible refine wpQuiet_step (fun K hK => ?_)); go_simp; apply Exists.intro; refine ⟨fun _ => ?_, hK _ ?_⟩; exact cH _ _; clear hK K
        (with_reducible refine wpQuiet_step (fun K hK => ?_)); go_simp; (with_reducible refine hK _ ?_); clear hK K
        refine wpQuiet_nil ?_
        intro _ hw'
        obtain ⟨⟨dq2, osq2⟩, hw''⟩ := hw'
        subst hw''
        have hw2 : Below w.heap.size w (grow (redrawn V dq2) osq2) := hwV.trans ((below_regrown V dq2 osq2).mono hwV.size)
        have hP2 := H.out.below hw2
        have HP2 := Lib.hid hP2
        have fy := hP2.ys.frozen n
        have cy := hP2.ys.cell (List.getElem?_eq_getElem hny)
        have r3 := hP2.q3
        have hyA : gy ∉ blk (some ⟨gx, 0, none⟩) := hP2.d2 gy (by simp [blk])
        have hS := hP2.lists (w' := (grow (redrawn V dq2) osq2).setCell ⟨gy, n, none⟩ (.bool true)) (hP2.xs.ne_ hyA) (hP2.ys.set_ n true) rfl (by simp) ((Only.refl _ _).setCell (.inl (by simp [blk])) _)
        have HS := Lib.hid hS
        have hgy : lo ≤ gy := hP2.los4 gy (by simp [blk])
        clear hP2 hS
        generalize grow (redrawn V dq2) osq2 = V2 at *
        go_wp2
        go_end0
        refine ⟨rfl, ?_, (hw2.mono hlo1).setCell hgy _⟩
        rw [HN2.out]; exact HS.out
  · have HN : Hid (noteM p ⟨op, oa, ob, oc⟩ = p.y) := by unfold Hid noteM; rw [if_neg (fun hh => hop hh.1)]
    have H := Lib.hid h
    have hlo := h.lo_
    have hlt := h.lt
    clear h hv hok hps
    go_enter Try.func98, Try.ntmps98
    go_wp2
    refine bodyPost_ret (v := .tuple #[]) (by simp [results, Try.results98, go_sem]) rfl ⟨rfl, ?_, ?_⟩
    · rw [HN.out]; exact H.out.below blw_
    · exact blw_
end Go.Proofs.Ytmlgndeihfpfgaa
