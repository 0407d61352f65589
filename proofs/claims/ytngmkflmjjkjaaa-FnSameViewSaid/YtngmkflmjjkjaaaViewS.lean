/- What a program sees of a heap: ViewOf and SameView of the reference. -/
import Derived.Test.YtngmkflmjjkjaaaChecked
import Derived.Deep.QuietTactic
import Derived.BigQuiet
import Derived.IntWalk
import Derived.Deep.RegionHeld3
import Derived.Test.YtngmkflmjjkjaaaViewI
import Derived.Test.YtngmkflmjjkjaaaGrOrd
import Derived.Test.YtngmkflmjjkjaaaGrHeap
import Derived.Test.YtngmkflmjjkjaaaRel
import Derived.Test.YtngmkflmjjkjaaaCtx
namespace Go.Proofs.Ytngmkflmjjkjaaa
open Go.RowKit
set_option maxRecDepth 100000
set_option linter.unusedSimpArgs false
set_option linter.unusedVariables false
structure VF (w : World) (A A' : Option Addr) (n n' : Nat) (h : HeapM) (S1 : Option Addr) (c1 : Nat) (W : World) : Prop where
  b : Below w.heap.size w W
  x : Bx W w.heap.size [.slice A h.cells.length n, .slice A' h.roots.length n']
  o : OF 3 fi W S1 c1 (orderM h)
theorem VF.below {w : World} {A A' : Option Addr} {n n' : Nat} {h : HeapM} {S1 : Option Addr} {c1 : Nat} {W W' : World} (f : VF w A A' n n' h S1 c1 W) (hB : Below W.heap.size W W') : VF w A A' n n' h S1 c1 W' :=
  ⟨f.b.trans (hB.mono f.b.size), f.x.below hB, f.o.below hB⟩
theorem VF.only {w : World} {A A' : Option Addr} {n n' : Nat} {h : HeapM} {S1 : Option Addr} {c1 : Nat} {W W' : World} {S : List Nat} (f : VF w A A' n n' h S1 c1 W) (hO : Only S W W') (hS : ∀ g ∈ S, w.heap.size < g ∧ g ∉ blk S1) : VF w A A' n n' h S1 c1 W' :=
  ⟨f.b.trans (hO.below (B := w.heap.size) f.b.size (fun g hg => by have := (hS g hg).1; omega)), f.x.only hO (fun hc => by have := (hS _ hc).1; omega), f.o.only hO (fun g hg hc => (hS g hc).2 hg)⟩
theorem RF.one {w : World} {g : Nat} {x : Int} (h : w.cell? ⟨g, 0, none⟩ = some (.int .i64 x)) : RF fi w (some ⟨g, 0, none⟩) [x] := fun i hi => by
  match i, hi with
  | 0, _ => exact ⟨g, 0, x, rfl, rfl, h⟩
theorem map_snoc {xs : List Int} {f : Int → Int} {k : Nat} {x : Int} (h : xs[k]? = some x) : (xs.take (k + 1)).map f = (xs.take k).map f ++ [f x] := by
  rw [take_snoc_of h]; simp
set_option maxHeartbeats 8000000 in
theorem specViewOf_any (v : Value) (h : HeapM) (w : World) (hv : RH w v h) :
    Calls Try.prog 78 #[v] w fun e w' => ∃ S c, e = .returned (.slice S (viewM h).length c) ∧ RF fi w' S (viewM h) ∧ Below w.heap.size w w' := by
  obtain ⟨A, n, A', n', rfl⟩ := hv.parts
  go_enter Try.func78, Try.ntmps78
  go_wp2_with fail
  refine Calls.gen (fun W => Below w.heap.size w W ∧ Bx W w.heap.size [.slice A h.cells.length n, .slice A' h.roots.length n'] ∧ OF 3 fi W (some ⟨w.heap.size + 1, 0, none⟩) 0 [] ∧ w.heap.size + 1 < W.heap.size) ⟨blw_, (Bx.new w [.slice A h.cells.length n, .slice A' h.roots.length n'] 28).below blw_, ?_, by simp⟩ ?_
  · exact OF.of_blkn rfl (by first | exact heap_alloc_at _ _ _ (by simp) | rfl) (by simp [maxLen])
  rintro W ⟨HB, HH, HO, hsz⟩
  (with_reducible refine (specHeapValid_any _ h _ (hv.below HB)).mono ?_); rintro e w1 ⟨rfl, hB⟩
  have HB := HB.trans (hB.mono HB.size)
  have HH := HH.below hB
  have HO := HO.below hB
  have hsz : w.heap.size + 1 < w1.heap.size := by have := hB.size; omega
  clear hB
  rcases bool_ft (validM h) with hva | hva
  · have hE : viewM h = [] := by unfold viewM; rw [hva]; rfl
    rw [hva]
    go_wp2_with fail
    go_ret
    exact ⟨some ⟨w.heap.size + 1, 0, none⟩, 0, by rw [hE]; rfl, by rw [hE]; exact HO.rf, HB⟩
  have HVA := Lib.hid hva
  rw [hva]
  clear hva
  have c0 := HH.c 0 _ rfl
  have c1 := HH.c 1 _ rfl
  go_wp2_with fail
  (with_reducible refine (l9Order_any _ h _ (hv.below HB) HVA.out).mono ?_); rintro e w2 ⟨S1, cs1, rfl, hO1, hlo, hB⟩
  have HF : VF w A A' n n' h S1 cs1 w2 := ⟨HB.trans (hB.mono HB.size), HH.below hB, hO1⟩
  have HO := HO.below hB
  have hap : Hid (∀ g ∈ blk (some (⟨w.heap.size + 1, 0, none⟩ : Addr)), w.heap.size < g ∧ g ∉ blk S1) := fun g hg => by
    have h9 := mem_blk_some hg
    exact ⟨by omega, fun hc => by have := hlo g hc; omega⟩
  clear hB c0 c1 HB HH hO1 hlo hsz
  have hrl : h.roots.length ≤ 4 := by have h9 := HVA.out; unfold validM at h9; simp at h9; omega
  go_wp2_with fail
  go_loopw [3, 5] (fun s3 s5 wr => ∃ (k : Nat) (S : Option Addr) (c : Nat), k ≤ h.roots.length ∧ s5 = .int .i64 (k : Int) ∧ s3 = .slice S ((h.roots.take k).map (nameM (orderM h))).length c ∧ Hid (OF 3 fi wr S c ((h.roots.take k).map (nameM (orderM h)))) ∧ Hid (∀ g ∈ blk S, w.heap.size < g ∧ g ∉ blk S1) ∧ Hid (VF w A A' n n' h S1 cs1 wr)) (fun _ s5 _ => h.roots.length - (intOf s5).toNat)
  case atStart => exact ⟨0, _, _, by omega, rfl, rfl, HO, hap, HF⟩
  case round =>
    clear HF HO hap
    obtain ⟨k, S, c, hk, rfl, rfl, HO, hap, HF⟩ := hrel
    have c1 := HF.out.x.c 1 _ rfl
    by_cases hlt : k < h.roots.length
    · obtain ⟨b, o, x, rfl, gx, q, -⟩ := (hv.below HF.out.b).inv.2.1.at_ hlt
      have q' : wr.cell? ⟨b, o + k, none⟩ = some (.int .i64 x) := q
      have i1 : (0 : Int) ≤ (k : Int) := by omega
      have i2 : (k : Int) < (h.roots.length : Int) := by omega
      have GX := Lib.hid gx
      clear q gx
      go_wp2_with fail
      (with_reducible refine (l9Name_any S1 (orderM h) cs1 x _ HF.out.o.rf (by have := (order_ok HVA.out).len; have := valid_small HVA.out; omega)).mono ?_); rintro e w3 ⟨rfl, rfl⟩
      have hln : ((h.roots.take k).map (nameM (orderM h))).length ≤ 100 := by simp; omega
      generalize hXs : (h.roots.take k).map (nameM (orderM h)) = xs at HO hln ⊢
      have HXs := Lib.hid hXs
      clear hXs
      go_wp2_with (at_builtin; (refine wpList_appi rfl (.tmp 23) (.tmp 31) rfl xs (ys := [nameM (orderM h) x]) rfl rfl (HO.out.below blw_) (RF.one (by simp [go_sem])) (by simp; omega) ?_); intro S5 c5 w5 hC5 hOn5 hg5)
      have hF5 := (HF.out.below (W' := wr.alloc (.cells #[.int .i64 (nameM (orderM h) x)] 3)) blw_)
      have HF5 := Lib.hid (hF5.only hOn5 hap.out)
      have hap5 : Hid (∀ g ∈ blk S5, w.heap.size < g ∧ g ∉ blk S1) := fun g hg => by
        rcases hg5 g hg with h9 | h9
        · exact hap.out g h9
        · have h8 := HF.out.b.size
          have h7 := HF.out.x.lt
          simp at h9
          exact ⟨by omega, fun hc => by have := HF.out.o.lt g hc; omega⟩
      go_roundw
      case rel => exact ⟨k + 1, S5, c5, by omega, by go_num, by rw [map_snoc GX.out, HXs.out]; simp, by rw [map_snoc GX.out, HXs.out]; exact hC5, hap5, HF5⟩
      case measure => simp [intOf]; omega
    · have hke : k = h.roots.length := by omega
      have i2 : ¬ (k : Int) < (h.roots.length : Int) := by omega
      have hta : (h.roots.take k).map (nameM (orderM h)) = h.roots.map (nameM (orderM h)) := by rw [hke, List.take_length]
      rw [hta] at HO ⊢
      clear hta hke hlt
      have hol : Hid ((orderM h).length ≤ 40) := by have h1 := (order_ok HVA.out).len; have h2 := (valid_small HVA.out).1; unfold Hid; omega
      obtain ⟨L0, hL0⟩ : ∃ L, Hid (L = h.roots.map (nameM (orderM h))) := ⟨_, rfl⟩
      rw [← hL0.out] at HO ⊢
      have hl0 : L0.length ≤ 4 := by rw [hL0.out, List.length_map]; exact hrl
      go_wp2_with fail
      go_loopw [3, 6, 7, 8] (fun s3 s6 s7 s8 wr => ∃ (k : Nat) (L : List Int) (S : Option Addr) (c : Nat), k ≤ (orderM h).length ∧ s6 = .int .i64 (k : Int) ∧ s3 = .slice S L.length c ∧ Hid (L = L0 ++ ((orderM h).take k).flatMap (recM h (orderM h))) ∧ Hid (L.length ≤ 4 + 5 * k) ∧ Hid (OF 3 fi wr S c L) ∧ Hid (∀ g ∈ blk S, w.heap.size < g ∧ g ∉ blk S1) ∧ Hid (VF w A A' n n' h S1 cs1 wr)) (fun _ s6 _ _ _ => (orderM h).length - (intOf s6).toNat)
      case atStart => exact ⟨0, L0, _, _, by omega, rfl, rfl, by simp [Hid], by unfold Hid; omega, HO, hap, HF⟩
      case round =>
        clear HO hap HF hk
        obtain ⟨k, L, S, c, hk, rfl, rfl, HL, HLl, HO, hap, HF⟩ := hrel
        have c0 := HF.out.x.c 0 _ rfl
        by_cases hlt : k < (orderM h).length
        · obtain ⟨bo, oo, r, rfl, gr, m, -⟩ := HF.out.o.rf.at_ hlt
          have m' : wr.cell? ⟨bo, oo + k, none⟩ = some (.int .i64 r) := m
          obtain ⟨hr0, hrn⟩ := (order_ok HVA.out).lt r (List.mem_of_getElem? gr)
          obtain ⟨i, rfl⟩ := Int.eq_ofNat_of_zero_le hr0
          have hin : i < h.cells.length := by omega
          obtain ⟨bC, oC, cc, Ac, cr, rfl, gc, d0, d1, d2, hrr, hrll, -⟩ := hv.inv.1.at_ hin
          have hcr3 : cc.refs.length ≤ 3 := (valid_small HVA.out).2.2 cc (List.mem_of_getElem? gc)
          have HSN := Lib.hid (recs_snoc (order := orderM h) gr (by rw [Int.toNat_natCast]; exact gc))
          have HRR := Lib.hid hrr
          have HD := Lib.hid (And.intro d0 (And.intro d1 d2))
          have i1 : (0 : Int) ≤ (k : Int) := by omega
          have i2 : (k : Int) < ((orderM h).length : Int) := by omega
          have i3 : (0 : Int) ≤ (i : Int) := by omega
          have i4 : (i : Int) < (h.cells.length : Int) := by omega
          clear m gr gc d0 d1 d2 hrr hrll
          go_wp2_with fail
          refine wp_region_R (by kernel_rfl) (fun R wd hR hwd => ?_)
          have hBd : Below wr.heap.size wr wd := by rw [hwd]; exact blw_
          have HO := Lib.hid (HO.out.below hBd)
          have HF := Lib.hid (HF.out.below hBd)
          have m' := cell_below m' hBd
          have c0 := cell_below c0 hBd
          have e0 : wd.cell? ⟨bC, oC + i * 3, none⟩ = some (.bool cc.used) := cell_below HD.out.1 HF.out.b
          have e1 : wd.cell? ⟨bC, oC + i * 3 + 1, none⟩ = some (.int .i64 cc.data) := cell_below HD.out.2.1 HF.out.b
          have e2 : wd.cell? ⟨bC, oC + i * 3 + 2, none⟩ = some (.slice Ac cc.refs.length cr) := cell_below HD.out.2.2 HF.out.b
          have HOl : Hid (∀ g ∈ blk S, g < wd.heap.size) := HO.out.lt
          clear hBd hwd
          have HC := Lib.hid (And.intro m' (And.intro c0 (And.intro e0 (And.intro e1 e2))))
          clear m' c0 e0 e1 e2
          rw [hR]
          (refine wpAny_take (i := 0) (v := ?v9_0_u0) rfl (by kernel_rfl) (by kernel_rfl) (by kernel_rfl) (fun _ _ _ h => h) (Or.inl ⟨by kernel_rfl, ?h9_0_u0⟩) ?r9_0_u0; (case h9_0_u0 => (intro w9; go_simp; try with_reducible rfl)))
          (refine wpAny_take (i := 2) (v := ?v9_2_u0) rfl (by kernel_rfl) (by kernel_rfl) (by kernel_rfl) (fun _ _ _ h => h) (Or.inl ⟨by kernel_rfl, ?h9_2_u0⟩) ?r9_2_u0; (case h9_2_u0 => (intro w9; go_simp; try with_reducible rfl)))
          (refine wpAny_take (i := 3) (v := ?v9_3_u0) rfl (by kernel_rfl) (by kernel_rfl) (by kernel_rfl) (fun _ _ _ h => h) (Or.inl ⟨by kernel_rfl, ?h9_3_u0⟩) ?r9_3_u0; (case h9_3_u0 => (intro w9; go_simp; try with_reducible rfl)))
          rw [← hR]
          refine rel_at (fr := ?fr_0) hR (fun f W => Below wd.heap.size wd W) [tt, (fun v W => v = .slice (some ⟨bC, oC, none⟩) h.cells.length n), tt, tt, (fun v W => v = .pointer (some ⟨bo, oo + k, none⟩)), (fun v W => v = .int .i64 (i : Int)), (fun v W => v = .pointer (some ⟨bC, oC + i * 3, none⟩)), (fun v W => v = .agg #[.bool cc.used, .int .i64 cc.data, .slice Ac cc.refs.length cr]), (fun v W => ∃ b : Nat, v = .pointer (some ⟨b, 0, none⟩) ∧ Bx W b [.bool false, .int .i64 0, .slice none 0 0] ∧ wd.heap.size ≤ b), tt] (fun W W' => Below W.heap.size W W') [(1, []), (4, []), (5, [4]), (6, [1, 5, 4]), (7, [6, 1, 5, 4]), (8, []), (9, [1, 4, 5, 6, 7, 8])] [(40, 1), (43, 4), (44, 5), (45, 6), (46, 7), (7, 8)] [1, 4, 5, 6, 7, 8] #[true, true, true, true, true, true, true, true, true, false] 7 1 (by kernel_rfl) (by kernel_rfl) ?hfr_0 ?h0_0 ?mono_0 ?steps_0 ?_
          case hfr_0 => intro x; (simp [frOf, fill, Act.put, List.lookup]; with_reducible rfl)
          case h0_0 => exact Below.refl _ _
          case mono_0 => exact (Pm.cons (fun _ _ _ _ h => h) (Pm.cons (fun _ _ _ _ h => h) (Pm.cons (fun _ _ _ _ h => h) (Pm.cons (fun _ _ _ _ h => h) (Pm.cons (fun _ _ _ _ h => h) (Pm.cons (fun _ _ _ _ h => h) (Pm.cons (fun _ _ _ _ h => h) (Pm.cons (fun _ _ _ _ h => h) (Pm.cons (fun _ _ _ hG ⟨b, e, h1, h2⟩ => ⟨b, e, h1.below hG, h2⟩) (Pm.cons (fun _ _ _ _ h => h) Pm.nil))))))))))
          case steps_0 =>
            refine Steps.cons (RStep.of rfl fun x W f hI hD K9 hK => ?_) ?_
            · clear hD
              have c0 := cell_below HC.out.2.1 hI
              go_simp
              exact hK (.slice (some ⟨bC, oC, none⟩) h.cells.length n) _ _ (by kernel_rfl) (Below.refl _ _) (hI) rfl
            refine Steps.cons (RStep.of rfl fun x W f hI hD K9 hK => ?_) ?_
            · clear hD
              go_simp
              exact hK (.pointer (some ⟨bo, oo + k, none⟩)) _ _ (by kernel_rfl) (Below.refl _ _) (hI) rfl
            refine Steps.cons (RStep.of rfl fun x W f hI hD K9 hK => ?_) ?_
            · have e4 : x 4 = .pointer (some ⟨bo, oo + k, none⟩) := hD 4 (by decide)
              clear hD
              have m' := cell_below HC.out.1 hI
              simp only [e4] at hK ⊢
              go_simp
              exact hK (.int .i64 (i : Int)) _ _ (by kernel_rfl) (Below.refl _ _) (hI) rfl
            refine Steps.cons (RStep.of rfl fun x W f hI hD K9 hK => ?_) ?_
            · have e1 : x 1 = .slice (some ⟨bC, oC, none⟩) h.cells.length n := hD 1 (by decide)
              have e5 : x 5 = .int .i64 (i : Int) := hD 5 (by decide)
              clear hD
              simp only [e1, e5] at hK ⊢
              go_simp
              exact hK (.pointer (some ⟨bC, oC + i * 3, none⟩)) _ _ (by kernel_rfl) (Below.refl _ _) (hI) rfl
            refine Steps.cons (RStep.of rfl fun x W f hI hD K9 hK => ?_) ?_
            · have e6 : x 6 = .pointer (some ⟨bC, oC + i * 3, none⟩) := hD 6 (by decide)
              clear hD
              have q0 := cell_below HC.out.2.2.1 hI
              have q1 := cell_below HC.out.2.2.2.1 hI
              have q2 := cell_below HC.out.2.2.2.2 hI
              simp only [e6] at hK ⊢
              go_simp
              exact hK (.agg #[.bool cc.used, .int .i64 cc.data, .slice Ac cc.refs.length cr]) _ _ (by kernel_rfl) (Below.refl _ _) (hI) rfl
            refine Steps.cons (RStep.of rfl fun x W f hI hD K9 hK => ?_) ?_
            · clear hD
              go_simp
              exact hK (.pointer (some ⟨W.heap.size, 0, none⟩)) _ _ (by kernel_rfl) blw_ (hI.alloc hI.size _) ⟨W.heap.size, rfl, Bx.new W [.bool false, .int .i64 0, .slice none 0 0] 43, hI.size⟩
            exact Steps.nil
          intro x W hI hV
          have e1 : x 1 = .slice (some ⟨bC, oC, none⟩) h.cells.length n := hV 1 (by decide)
          have e4 : x 4 = .pointer (some ⟨bo, oo + k, none⟩) := hV 4 (by decide)
          have e5 : x 5 = .int .i64 (i : Int) := hV 5 (by decide)
          have e6 : x 6 = .pointer (some ⟨bC, oC + i * 3, none⟩) := hV 6 (by decide)
          have e7 : x 7 = .agg #[.bool cc.used, .int .i64 cc.data, .slice Ac cc.refs.length cr] := hV 7 (by decide)
          have h8 : (fun v W => ∃ b : Nat, v = .pointer (some ⟨b, 0, none⟩) ∧ Bx W b [.bool false, .int .i64 0, .slice none 0 0] ∧ wd.heap.size ≤ b) (x 8) W := hV 8 (by decide)
          clear hV
          simp only [e1, e4, e5, e6, e7]
          obtain ⟨b, e8, hb, hbd⟩ := h8
          simp only [e8]
          clear e1 e4 e5 e6 e7 e8
          have q0 := hb.c 0 _ rfl
          have q1 := hb.c 1 _ rfl
          have q2 := hb.c 2 _ rfl
          have f0 := hb.f 0
          have f1 := hb.f 1
          have f2 := hb.f 2
          rw [hR]
          refine wpAny_ready (rs := [9]) (by kernel_rfl) (by simp) ?_
          refine AllReady.cons rfl (fun K9 hK9 => ?_) AllReady.nil
          go_simp
          refine hK9 _ _ ?_
          clear hK9
          refine wpAny_done (by kernel_rfl) ?_ _
          clear hR
          go_upto_region 13 with fail
          refine Code.gen (fun W => Hid (Below wd.heap.size wd W) ∧ Bx W b [.bool cc.used, .int .i64 cc.data, .slice Ac cc.refs.length cr]) ⟨?_, ?_⟩ ?_
          · exact ((hI.setCell (by exact hbd) _).setCell (by exact hbd) _).setCell (by exact hbd) _
          · exact ⟨fun j v hj => by
              match j, hj with
              | 0, hj => injection hj with hj; subst hj; simp [go_sem, q0]
              | 1, hj => injection hj with hj; subst hj; simp [go_sem, q1]
              | 2, hj => injection hj with hj; subst hj; simp [go_sem, q2]
              | j + 3, hj => simp at hj, fun j => by have := hb.f j; simpa [go_sem] using this, by simpa using hb.lt⟩
          clear hb q0 q1 q2 f0 f1 f2 hI
          rintro W0 ⟨hB0, hb⟩
          have HO := Lib.hid (HO.out.below hB0.out)
          have HF := Lib.hid (HF.out.below hB0.out)
          have hap2 : Hid (∀ g ∈ blk S, g ≠ b) := fun g hg e => by have := HOl.out g hg; omega
          clear hB0 hbd HOl HC
          have q1 := hb.c 1 _ rfl
          have q2 := hb.c 2 _ rfl
          have hll := HLl.out
          have hk40 : k ≤ 40 := by have := hol.out; omega
          go_wp2_with (at_builtin; (refine wpList_appi rfl (.tmp 47) (.tmp 53) rfl L (ys := [cc.data, (cc.refs.length : Int)]) rfl rfl (HO.out.below blw_) (RF.two (by simp [go_sem, fi]) (by simp [go_sem, fi])) (by simp; omega) ?_); intro S5 c5 w5 hC5 hOn5 hg5)
          have hzz := HF.out.x.lt
          have hF5 := (HF.out.below (W' := W0.alloc (.cells #[.int .i64 cc.data, .int .i64 (cc.refs.length : Int)] 3)) blw_).only hOn5 hap.out
          have hb5 := (hb.below (W' := W0.alloc (.cells #[.int .i64 cc.data, .int .i64 (cc.refs.length : Int)] 3)) blw_).only hOn5 (fun hc => hap2.out b hc rfl)
          have hap5 : Hid (∀ g ∈ blk S5, (w.heap.size < g ∧ g ∉ blk (some (⟨bo, oo, none⟩ : Addr))) ∧ g ≠ b) := (fun g hg => by
            rcases hg5 g hg with h9 | h9
            · exact ⟨hap.out g h9, hap2.out g h9⟩
            · simp at h9
              have h8 := hb.lt
              exact ⟨⟨by omega, fun hc => by have := HF.out.o.lt g hc; omega⟩, by omega⟩)
          have HC5 := Lib.hid hC5
          have HF5 := Lib.hid hF5
          clear hC5 hF5 hOn5 hg5
          obtain ⟨L2, hL2⟩ : ∃ l, Hid (l = L ++ [cc.data, (cc.refs.length : Int)]) := ⟨_, rfl⟩
          have hl2 : L2.length ≤ 210 := by rw [hL2.out]; simp; omega
          rw [← hL2.out] at HC5
          have hs3 : Value.slice S5 (L.length + 2) c5 = .slice S5 L2.length c5 := by rw [hL2.out]; simp
          clear q1 q2 hb hll HO HF hap2
          go_loopw [3, 8] (fun s3 s8 wr => ∃ (j : Nat) (M : List Int) (S : Option Addr) (c : Nat), j ≤ cc.refs.length ∧ s8 = .int .i64 (j : Int) ∧ s3 = .slice S M.length c ∧ Hid (M = L2 ++ (cc.refs.take j).map (nameM (orderM h))) ∧ Hid (OF 3 fi wr S c M) ∧ Hid (∀ g ∈ blk S, (w.heap.size < g ∧ g ∉ blk (some (⟨bo, oo, none⟩ : Addr))) ∧ g ≠ b) ∧ Hid (VF w (some ⟨bC, oC, none⟩) A' n n' h (some ⟨bo, oo, none⟩) cs1 wr) ∧ Hid (Bx wr b [.bool cc.used, .int .i64 cc.data, .slice Ac cc.refs.length cr])) (fun _ s8 _ => cc.refs.length - (intOf s8).toNat)
          case atStart => exact ⟨0, L2, S5, c5, by omega, rfl, by first | rfl | exact hs3 | (simp; exact hs3), by simp [Hid], HC5, hap5, HF5, hb5⟩
          case round =>
            clear HC5 hap5 HF5 hb5 hs3
            obtain ⟨j, M, S9, c9, hj, rfl, rfl, HM, HO, hap9, HF, hb⟩ := hrel
            have q2 := hb.out.c 2 _ rfl
            have hMl : M.length ≤ 220 := by have h9 := congrArg List.length HM.out; simp at h9; omega
            by_cases hjl : j < cc.refs.length
            · obtain ⟨bR, oR, y, rfl, gy, q, -⟩ := (HRR.out.below HF.out.b).at_ hjl
              have q' : wr.cell? ⟨bR, oR + j, none⟩ = some (.int .i64 y) := q
              have j1 : (0 : Int) ≤ (j : Int) := by omega
              have j2 : (j : Int) < (cc.refs.length : Int) := by omega
              have GY := Lib.hid gy
              clear gy q
              go_wp2_with fail
              (with_reducible refine (l9Name_any _ (orderM h) cs1 y _ HF.out.o.rf (by have := hol.out; omega)).mono ?_); rintro e w3 ⟨rfl, rfl⟩
              go_wp2_with (at_builtin; (refine wpList_appi rfl (.tmp 62) (.tmp 70) rfl M (ys := [nameM (orderM h) y]) rfl rfl (HO.out.below blw_) (RF.one (by simp [go_sem])) (by simp; omega) ?_); intro S5 c5 w5 hC5 hOn5 hg5)
              have hzz := HF.out.x.lt
              have hF5 := (HF.out.below (W' := wr.alloc (.cells #[.int .i64 (nameM (orderM h) y)] 3)) blw_).only hOn5 (fun g hg => (hap9.out g hg).1)
              have hb5 := (hb.out.below (W' := wr.alloc (.cells #[.int .i64 (nameM (orderM h) y)] 3)) blw_).only hOn5 (fun hc => (hap9.out b hc).2 rfl)
              have hap5 : Hid (∀ g ∈ blk S5, (w.heap.size < g ∧ g ∉ blk (some (⟨bo, oo, none⟩ : Addr))) ∧ g ≠ b) := (fun g hg => by
                rcases hg5 g hg with h9 | h9
                · exact hap9.out g h9
                · simp at h9
                  have h8 := hb.out.lt
                  exact ⟨⟨by omega, fun hc => by have := HF.out.o.lt g hc; omega⟩, by omega⟩)
              have HC5 := Lib.hid hC5
              have HF5 := Lib.hid hF5
              have HB5 := Lib.hid hb5
              clear hC5 hF5 hOn5 hg5 hb5
              have HM2 : Hid (M ++ [nameM (orderM h) y] = L2 ++ (cc.refs.take (j + 1)).map (nameM (orderM h))) := by unfold Hid; rw [map_snoc GY.out, HM.out]; simp
              go_roundw
              case rel => exact ⟨j + 1, M ++ [nameM (orderM h) y], S5, c5, by omega, by go_num, by simp, HM2, HC5, hap5, HF5, HB5⟩
              case measure => simp [intOf]; omega
            · have hje : j = cc.refs.length := by omega
              have j2 : ¬ (j : Int) < (cc.refs.length : Int) := by omega
              have HM2 : Hid (M = L0 ++ ((orderM h).take (k + 1)).flatMap (recM h (orderM h))) := by
                unfold Hid
                rw [HM.out, hje, List.take_length, hL2.out, HSN.out, HL.out]
                simp
              have HMl : Hid (M.length ≤ 4 + 5 * (k + 1)) := by
                have h9 := congrArg List.length HM.out
                have h8 := congrArg List.length hL2.out
                have h7 := HLl.out
                simp at h9 h8
                unfold Hid
                omega
              have hap6 : Hid (∀ g ∈ blk S9, w.heap.size < g ∧ g ∉ blk (some (⟨bo, oo, none⟩ : Addr))) := fun g hg => (hap9.out g hg).1
              clear hje
              go_wp2_with fail
              go_roundw
              case rel => exact ⟨k + 1, M, S9, c9, by omega, by go_num, rfl, HM2, HMl, HO, hap6, HF⟩
              case measure => simp [intOf]; omega
        · have hke : k = (orderM h).length := by omega
          have HVV : Hid (viewM h = L) := by
            unfold Hid
            rw [viewM_ok HVA.out, HL.out, hke, List.take_length, hL0.out]
            rfl
          have i2 : ¬ (k : Int) < ((orderM h).length : Int) := by omega
          have HBf := Lib.hid HF.out.b
          clear hke
          go_wp2_with fail
          go_ret
          exact ⟨S, ⟨c, by rw [HVV.out]; rfl⟩, by rw [HVV.out]; exact HO.out.rf, HBf.out⟩
theorem view_len_any (h : HeapM) : (viewM h).length ≤ 9223372036854775807 := by
  rcases bool_ft (validM h) with hv | hv
  · unfold viewM; rw [hv]; simp
  · exact view_len hv
theorem view_zero (h : HeapM) : (viewM h).length = 0 ↔ validM h = false := by
  rcases bool_ft (validM h) with hv | hv
  · simp [viewM, hv]
  · rw [viewM_ok hv, hv]
    have h4 : h.roots.length = 4 := by unfold validM at hv; simp at hv; omega
    simp [viewFrom]
    intro e
    rw [e] at h4
    simp at h4
theorem sameView_lens (a b : HeapM) : sameViewM a b = (!decide ((viewM a).length = 0) && decide (viewM a = viewM b)) := by
  have ha := view_zero a
  have hb := view_zero b
  unfold sameViewM
  rcases bool_ft (validM a) with h1 | h1
  · rw [h1, decide_eq_true (ha.2 h1)]; rfl
  · have ha' : ¬ (viewM a).length = 0 := fun e => by rw [ha.1 e] at h1; cases h1
    rw [h1, decide_eq_false ha']
    rcases bool_ft (validM b) with h2 | h2
    · have hb' := hb.2 h2
      rw [h2, decide_eq_false (fun e => ha' (by rw [e]; exact hb') : ¬ viewM a = viewM b)]; rfl
    · rw [h2]; rfl
set_option maxHeartbeats 8000000 in
theorem specSameView_any (v u : Value) (a b : HeapM) (w : World) (hv : RH w v a) (hu : RH w u b) :
    Calls Try.prog 32 #[v, u] w fun e w' => e = .returned (.bool (sameViewM a b)) ∧ Below w.heap.size w w' := by
  obtain ⟨A, n, A', n', rfl⟩ := hv.parts
  obtain ⟨B, m, B', m', rfl⟩ := hu.parts
  go_enter Try.func32, Try.ntmps32
  go_wp2_with fail
  refine Calls.gen (fun W => Below w.heap.size w W ∧ Bx W (w.heap.size + 1) [.slice B b.cells.length m, .slice B' b.roots.length m']) ⟨blw_, by simpa using Bx.new (w.alloc (.cells #[.slice A a.cells.length n, .slice A' a.roots.length n'] 28)) [.slice B b.cells.length m, .slice B' b.roots.length m'] 28⟩ ?_
  rintro W ⟨HB, HX⟩
  (with_reducible refine (specViewOf_any _ a _ (hv.below HB)).mono ?_); rintro e w1 ⟨S1, c1, rfl, hR1, hB⟩
  have HB := HB.trans (hB.mono HB.size)
  have HX := HX.below hB
  have q0 := HX.c 0 _ rfl
  have q1 := HX.c 1 _ rfl
  clear hB
  go_wp2_with fail
  (with_reducible refine (specViewOf_any _ b _ (hu.below HB)).mono ?_); rintro e w2 ⟨S2, c2, rfl, hR2, hB⟩
  have HB := Lib.hid (HB.trans (hB.mono HB.size))
  have HR1 := Lib.hid (hR1.below hB)
  have HR2 := Lib.hid hR2
  have hE : Hid (sameViewM a b = (!decide ((viewM a).length = 0) && decide (viewM a = viewM b))) := sameView_lens a b
  have hl1 : (viewM a).length ≤ 9223372036854775807 := view_len_any a
  have hl2 : (viewM b).length ≤ 9223372036854775807 := view_len_any b
  obtain ⟨xs, hxs⟩ : ∃ xs, Hid (xs = viewM a) := ⟨_, rfl⟩
  obtain ⟨ys, hys⟩ : ∃ ys, Hid (ys = viewM b) := ⟨_, rfl⟩
  rw [← hxs.out] at HR1 hl1 hE ⊢
  rw [← hys.out] at HR2 hl2 hE ⊢
  clear hB q0 q1 HX hR1 hR2
  by_cases h0 : xs.length = 0
  · have h0' : ((xs.length : Int) == 0) = true := by simp [h0]
    go_wp2_with fail
    go_ret
    exact ⟨by rw [hE.out, h0]; rfl, HB.out⟩
  have h0' : ((xs.length : Int) == 0) = false := by simp [h0]
  by_cases hl : xs.length = ys.length
  rotate_left
  · have hl' : ((xs.length : Int) != (ys.length : Int)) = true := by simp; omega
    go_wp2_with fail
    go_ret
    refine ⟨ret_bool ?_, HB.out⟩
    rw [hE.out, decide_eq_false (fun e9 => hl (by rw [e9]) : ¬ xs = ys), Bool.and_false]
  have hl' : ((xs.length : Int) != (ys.length : Int)) = false := by simp [hl]
  have HL := Lib.hid hl
  have H0 := Lib.hid h0
  clear hl h0
  go_wp2_with fail
  go_loopw [7] (fun s7 wr => ∃ (k : Nat), k ≤ xs.length ∧ s7 = .int .i64 (k : Int) ∧ Hid (xs.take k = ys.take k) ∧ ∃ z, wr = w2.drewN z) (fun s7 _ => xs.length - (intOf s7).toNat)
  case atStart => exact ⟨0, by omega, rfl, rfl, 0, rfl⟩
  case round =>
    obtain ⟨k, hk, rfl, HT, z, rfl⟩ := hrel
    clear hl' h0'
    by_cases hlt : k < xs.length
    · obtain ⟨b1, o1, x, rfl, gx, r1, -⟩ := HR1.out.at_ hlt
      obtain ⟨b2, o2, y, rfl, gy, r2, -⟩ := HR2.out.at_ (k := k) (by have := HL.out; omega)
      have d1 : w2.cell? ⟨b1, o1 + k, none⟩ = some (.int .i64 x) := r1
      have d2 : w2.cell? ⟨b2, o2 + k, none⟩ = some (.int .i64 y) := r2
      have GX := Lib.hid gx
      have GY := Lib.hid gy
      have i1 : (0 : Int) ≤ (k : Int) := by omega
      have i2 : (k : Int) < (xs.length : Int) := by omega
      have i3 : (k : Int) < (ys.length : Int) := by have := HL.out; omega
      clear r1 r2 gx gy
      by_cases he : x = y
      · have hne : (x != y) = false := by simp [he]
        have HE := Lib.hid he
        clear he
        go_wp2
        go_quiet (fail)
        go_wp2
        go_roundw
        case rel => exact ⟨k + 1, by omega, by go_num, take_eq_step HT.out GX.out GY.out HE.out, _, by first | rfl | (simp; rfl)⟩
        case measure => simp [intOf]; omega
      · have hne : (x != y) = true := by simp [he]
        have HE := Lib.hid he
        clear he
        go_wp2
        go_quiet (fail)
        go_wp2
        go_ret
        have hBo := HB.out
        refine ⟨ret_bool ?_, blw_⟩
        rw [hE.out, decide_eq_false (ne_of_get GX.out GY.out HE.out), Bool.and_false]
    · have hke : k = xs.length := by omega
      have HK := Lib.hid hke
      have i2 : ¬ (k : Int) < (xs.length : Int) := by omega
      clear hke
      go_wp2
      go_ret
      have hBo := HB.out
      refine ⟨ret_bool ?_, blw_⟩
      have h1 := HT.out
      rw [HK.out, List.take_length, HL.out, List.take_length] at h1
      rw [hE.out, decide_eq_true h1, decide_eq_false H0.out]
      rfl
end Go.Proofs.Ytngmkflmjjkjaaa
