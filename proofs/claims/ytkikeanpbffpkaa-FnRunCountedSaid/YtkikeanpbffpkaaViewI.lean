/- What a program sees of a heap: ViewOf and SameView of the program. -/
import Derived.Test.YtkikeanpbffpkaaChecked
import Derived.Deep.QuietTactic
import Derived.BigQuiet
import Derived.IntWalk
import Derived.Lib.QuietBelow
import Derived.Deep.RegionHeld3
import Derived.Test.YtkikeanpbffpkaaGrOrd
import Derived.Test.YtkikeanpbffpkaaGrCopy
import Derived.Test.YtkikeanpbffpkaaGrIso
import Derived.Test.YtkikeanpbffpkaaGrSame
namespace Go.Proofs.Ytkikeanpbffpkaa
open Go.RowKit
set_option maxRecDepth 100000
set_option linter.unusedSimpArgs false
set_option linter.unusedVariables false
theorem ren_map2 {h : HeapM} {order : List Int} (ho : OrdOk h order) {rs : List Int} (hr : ∀ r ∈ rs, leadsM h.cells r = true) : rs.map (renM (namesM order h.cells.length order.length)) = rs.map (nameM order) := by
  apply List.map_congr_left
  intro r hm
  rw [← renM_new]
  exact newName_eq ho (hr r hm)
theorem recM_len {h : HeapM} {order : List Int} (hv : validM h = true) (r : Int) : (recM h order r).length ≤ 5 := by
  unfold recM
  cases e : h.cells[r.toNat]? with
  | none => simp
  | some c => have := (valid_small hv).2.2 c (List.mem_of_getElem? e); simp; omega
theorem recs_len {h : HeapM} {order : List Int} (hv : validM h = true) (l : List Int) : (l.flatMap (recM h order)).length ≤ 5 * l.length := by
  induction l with
  | nil => simp
  | cons r l ih => have := recM_len (order := order) hv r; simp only [List.flatMap_cons, List.length_append, List.length_cons]; omega
theorem view_len {h : HeapM} (hv : validM h = true) : (viewM h).length ≤ 9223372036854775807 := by
  rw [viewM_ok hv]
  unfold viewFrom
  have h1 := recs_len (order := orderM h) hv (orderM h)
  have h2 := (order_ok hv).len
  have h3 := valid_small hv
  simp only [List.length_append, List.length_map]
  omega
theorem recs_snoc {h : HeapM} {order : List Int} {j : Nat} {r : Int} {c : CellM} (hr : order[j]? = some r) (hc : h.cells[r.toNat]? = some c) : (order.take (j + 1)).flatMap (recM h order) = (order.take j).flatMap (recM h order) ++ ([c.data, (c.refs.length : Int)] ++ c.refs.map (nameM order)) := by
  rw [take_snoc_of hr, List.flatMap_append]; simp [recM_of hc]
theorem RF.two {α : Type} {f : α → Value} {w : World} {g : Nat} {x y : α} (h : w.cell? ⟨g, 0, none⟩ = some (f x)) (h2 : w.cell? ⟨g, 1, none⟩ = some (f y)) : RF f w (some ⟨g, 0, none⟩) [x, y] := fun i hi => by
  match i, hi with
  | 0, _ => exact ⟨g, 0, x, rfl, rfl, h⟩
  | 1, _ => exact ⟨g, 0, y, rfl, rfl, h2⟩
set_option maxHeartbeats 4000000 in
theorem viewOf_any (v : Value) (h : HeapM) (w : World) (hv : RH w v h) :
    Calls Try.prog 46 #[v] w fun e w' => ∃ S c, e = .returned (.slice S (viewM h).length c) ∧ RF fi w' S (viewM h) ∧ Below w.heap.size w w' := by
  have hv0 := hv
  obtain ⟨A, c, A', c', rfl, hc0, hr0, hl1, hl2⟩ := hv
  have hW : Below w.heap.size w ((w.alloc (.cells #[.slice A h.cells.length c, .slice A' h.roots.length c'] 26))) := blw_
  have HF0 : Hid (∀ W, Below ((w.alloc (.cells #[.slice A h.cells.length c, .slice A' h.roots.length c'] 26))).heap.size ((w.alloc (.cells #[.slice A h.cells.length c, .slice A' h.roots.length c'] 26))) W → (W.cell? ⟨w.heap.size, 0, none⟩ = some (.slice A h.cells.length c) ∧ W.cell? ⟨w.heap.size, 1, none⟩ = some (.slice A' h.roots.length c'))) := fun W hW => ⟨cell_below (by simp [go_sem]) hW, cell_below (by simp [go_sem]) hW⟩
  have HV0 := Lib.hid (hv0.below hW)
  have hz1 : w.heap.size < ((w.alloc (.cells #[.slice A h.cells.length c, .slice A' h.roots.length c'] 26))).heap.size := by simp
  clear hv0
  cases hva : validM h
  · have HV := Lib.hid hva
    have HE : Hid (viewM h = []) := by unfold Hid viewM; rw [hva]; rfl
    clear hva
    go_enter Try.func46, Try.ntmps46
    go_wp2_with fail
    generalize ((w.alloc (.cells #[.slice A h.cells.length c, .slice A' h.roots.length c'] 26))) = W0 at *
    (with_reducible refine (implHeapValid_any _ h _ HV0.out).mono ?_); rw [HV.out]; rintro e w1 ⟨rfl, hB⟩
    go_wp2_with fail
    go_ret
    refine ⟨none, 0, by rw [HE.out]; rfl, by rw [HE.out]; exact fun i hi => absurd hi (by simp), hW.trans (hB.mono (by omega))⟩
  obtain ⟨v1, v2_, v3⟩ := valid_small hva
  have v2 : h.roots.length ≤ 4 := by omega
  obtain ⟨lt1, lt2⟩ := validM_lt hva
  obtain ⟨ld1, ld2⟩ := validM_leads hva
  have HE : Hid (viewM h = viewFrom h (orderM h)) := viewM_ok hva
  have HO := Lib.hid (order_ok hva)
  have hol := (order_ok hva).len
  have HRL : Hid (∀ j, (((orderM h).take j).flatMap (recM h (orderM h))).length ≤ 5 * j) := fun j => Nat.le_trans (recs_len hva _) (by rw [List.length_take]; omega)
  have HV := Lib.hid hva
  have HC := Lib.hid (hc0.below hW)
  have HRT := Lib.hid (hr0.below hW)
  have HLT1 := Lib.hid lt1
  have HLT2 := Lib.hid lt2
  have HLD1 := Lib.hid ld1
  have HLD2 := Lib.hid ld2
  have HV3 := Lib.hid v3
  clear hc0 hr0 lt1 lt2 ld1 ld2 v3 v2_ hva
  obtain ⟨order, hod⟩ : ∃ o, o = orderM h := ⟨_, rfl⟩
  have HOD := Lib.hid hod
  rw [← hod] at HO HRL HE hol
  clear hod
  go_enter Try.func46, Try.ntmps46
  go_wp2_with fail
  generalize ((w.alloc (.cells #[.slice A h.cells.length c, .slice A' h.roots.length c'] 26))) = W0 at *
  (with_reducible refine (implHeapValid_any _ h _ HV0.out).mono ?_); rw [HV.out]; rintro e w1 ⟨rfl, hB⟩
  have Y : Below W0.heap.size W0 w1 := hB
  have sY := Y.size
  obtain ⟨a0, a1⟩ := HF0.out _ Y
  clear hB
  go_wp2_with fail
  (with_reducible refine (metOrder_any _ h _ (HV0.out.below Y) HV.out).mono ?_); rw [← HOD.out]
  rintro e w2 ⟨O, cO, rfl, hO, hOlo, hB⟩
  have Y2 : Below W0.heap.size W0 w2 := Y.trans (hB.mono sY)
  have HOO := Lib.hid hO
  have sY2 := Y2.size
  clear a0 a1
  obtain ⟨a0, a1⟩ := HF0.out _ Y2
  clear hB hO hOlo Y sY
  go_wp2_with fail
  (with_reducible refine (numbersIn_any O order cO h.cells.length _ (HOO.out.rf) (by omega) (by omega) HO.out.lt HO.out.nd).mono ?_)
  rintro e w3 ⟨Nn, cN, rfl, hN, hNlo, hB⟩
  have Y3 : Below w2.heap.size w2 w3 := hB
  have Y4 : Below W0.heap.size W0 w3 := Y2.trans (hB.mono sY2)
  have HOO3 := Lib.hid (HOO.out.below Y3)
  have HN := Lib.hid hN
  have sY4 := Y4.size
  clear a0 a1
  obtain ⟨a0, a1⟩ := HF0.out _ Y4
  clear hB hN hNlo HOO Y2 sY2 Y3
  go_wp2_with fail
  (with_reducible refine (renamed_any A' Nn h.roots (namesM order h.cells.length order.length) c' cN h.cells.length _ (HRT.out.below Y4) HN.out.rf (by omega) (namesM_len _ _ _) (by omega) HLT2.out).mono ?_)
  rintro e w4 ⟨R, cR, rfl, hR, hRlo, hB⟩
  rw [ren_map2 HO.out HLD2.out] at hR
  have Y5 : Below w3.heap.size w3 w4 := hB
  have HOO4 := Lib.hid (HOO3.out.below Y5)
  have HN4 := Lib.hid (HN.out.below Y5)
  have Y6 : Below W0.heap.size W0 w4 := Y4.trans (hB.mono sY4)
  have sY6 := Y6.size
  have HR : Hid (OF 3 fi w4 R cR (h.roots.map (nameM order))) := hR
  have HRB : Hid (∀ b ∈ blk R, w3.heap.size ≤ b) := hRlo
  have sY5 := Y5.size
  have HNO : Hid (∀ b ∈ blk O ++ blk Nn, b < w3.heap.size) := fun b hb => by
    rcases List.mem_append.1 hb with h9 | h9
    · exact HOO3.out.lt b h9
    · exact HN.out.lt b h9
  clear a0 a1 hB hR hRlo Y4 HOO3 HN
  obtain ⟨L0, hL0⟩ : ∃ l, l = h.roots.map (nameM order) := ⟨_, rfl⟩
  have hl0 : L0.length = h.roots.length := by rw [hL0, List.length_map]
  have HL0 := Lib.hid hL0
  have HLL0 := Lib.hid hl0
  rw [← hL0] at HR
  rw [← hl0]
  clear hL0 hl0
  go_wp2_with fail
  go_loopw [5, 25] (fun s5 i wr => ∃ (j : Nat) (L : List Int) (S : Option Addr) (cS : Nat), j ≤ order.length ∧ i = .int .i64 j ∧ s5 = .slice S L.length cS ∧ Hid (L = L0 ++ (order.take j).flatMap (recM h order)) ∧ L.length ≤ 4 + 5 * j ∧ Hid (OF 3 fi wr S cS L) ∧ Hid (∀ x ∈ blk S, w3.heap.size ≤ x) ∧ Below w3.heap.size w4 wr) (fun _ i _ => order.length - (intOf i).toNat)
  case atStart => exact ⟨0, L0, R, cR, by omega, rfl, rfl, by simp [Hid], by have := HLL0.out; omega, HR, HRB, Below.refl _ _⟩
  case round =>
    obtain ⟨j, L, S, cS, hj, rfl, rfl, HL, hLl, HS, HSB, Z⟩ := hrel
    have sZ := Z.size
    have X1 : Below W0.heap.size W0 wr := Y6.trans (Z.mono (by omega))
    by_cases hlt : j < order.length
    · have HOR : Hid (RF fi wr O order) := (HOO4.out.keep fun g hg => Z.block g (HNO.out g (List.mem_append.2 (.inl hg)))).rf
      have HNR : Hid (RF fi wr Nn (namesM order h.cells.length order.length)) := (HN4.out.keep fun g hg => Z.block g (HNO.out g (List.mem_append.2 (.inr hg)))).rf
      obtain ⟨bo, oo, r, rfl, gr, m, hbo⟩ := HOR.out.at_ hlt
      have n1 : wr.cell? ⟨bo, oo + j, none⟩ = some (.int .i64 r) := m
      obtain ⟨hr0, hrn⟩ := HO.out.lt r (List.mem_of_getElem? gr)
      obtain ⟨k, rfl⟩ := Int.eq_ofNat_of_zero_le hr0
      have hkn : k < h.cells.length := by omega
      obtain ⟨b, o, cc, Ac, cr2, rfl, gc, d0_, d1_, d2_, hrr, hrl2, hb⟩ := HC.out.at_ hkn
      have d0 := cell_below d0_ X1
      have d1 := cell_below d1_ X1
      have d2 := cell_below d2_ X1
      obtain ⟨a0, a1⟩ := HF0.out _ X1
      have hcr3 : cc.refs.length ≤ 3 := HV3.out cc (List.mem_of_getElem? gc)
      have HSN := Lib.hid (recs_snoc gr (by rw [Int.toNat_natCast]; exact gc))
      have HLTR := Lib.hid (HLT1.out cc (List.mem_of_getElem? gc))
      have HLDR := Lib.hid (HLD1.out cc (List.mem_of_getElem? gc))
      have HRR := Lib.hid hrr
      obtain ⟨du, hdu⟩ : ∃ du, du = cc.used := ⟨_, rfl⟩
      rw [← hdu] at d0
      have hjI : (j : Int) < (order.length : Int) := by omega
      clear m gr gc hrr hrl2 hdu d0_ d1_ d2_
      go_wp2_with (at_builtin; (refine wpList_appi rfl (.tmp 34) (.tmp 40) rfl L (ys := [cc.data, (cc.refs.length : Int)]) rfl rfl (HS.out.below blw_) (RF.two (by simp [go_sem, fi]) (by simp [go_sem, fi])) (by simp; omega) ?_); intro S2 cS2 w5 hO3 hOn3 hg3; obtain ⟨L2, hL2⟩ : ∃ l, l = L ++ [cc.data, (cc.refs.length : Int)] := ⟨_, rfl⟩; rw [← hL2] at hO3 ⊢; have hl2 : L2.length ≤ 6 + 5 * j := (by rw [hL2]; simp; omega); have HL2 := Lib.hid hL2; clear hL2; have hz5 := hOn3.size; (try simp only [World.size_alloc, World.size_setCell, World.size_drew, World.heap_drewN] at hz5 hg3); have v1 : w5.cell? ⟨wr.heap.size, 2, none⟩ = some (.slice Ac cc.refs.length cr2) := hOn3.cell (by simp [go_sem]) (fun hc => Nat.lt_irrefl _ (HS.out.lt _ hc)); have HB3 : Hid (Below w3.heap.size wr w5) := Below.trans blw_ (hOn3.below (by simp; omega) (fun b9 hb9 => HSB.out b9 hb9)); have HSL3 : Hid (∀ b9 ∈ blk S2, w3.heap.size ≤ b9) := (fun b9 hb9 => by rcases hg3 b9 hb9 with h9 | h9; exact HSB.out b9 h9; omega); have HK3 := Lib.hid hO3; clear hO3 hOn3 hg3)
      have sB3 := HB3.out.size
      have X5 : Below W0.heap.size W0 w5 := X1.trans (HB3.out.mono (by omega))
      have Z5 : Below w3.heap.size w4 w5 := Z.trans HB3.out
      have HNR5 : Hid (RF fi w5 Nn (namesM order h.cells.length order.length)) := (HN4.out.keep fun g hg => Z5.block g (HNO.out g (List.mem_append.2 (.inr hg)))).rf
      (with_reducible refine (renamed_any Ac Nn cc.refs (namesM order h.cells.length order.length) cr2 cN h.cells.length _ (HRR.out.below X5) HNR5.out (by omega) (namesM_len _ _ _) (by omega) HLTR.out).mono ?_)
      rintro e w6 ⟨Rr, cRr, rfl, hR6, hRlo6, hB6⟩
      rw [ren_map2 HO.out HLDR.out] at hR6
      obtain ⟨L3, hL3⟩ : ∃ l, l = cc.refs.map (nameM order) := ⟨_, rfl⟩
      have hl3 : cc.refs.length = L3.length := by rw [hL3, List.length_map]
      rw [← hL3] at hR6
      have HL3 := Lib.hid hL3
      have hl4 : L3.length ≤ 3 := by omega
      have HSN2 : Hid ((order.take (j + 1)).flatMap (recM h order) = (order.take j).flatMap (recM h order) ++ ([cc.data, (cc.refs.length : Int)] ++ L3)) := by unfold Hid; rw [HSN.out, HL3.out]
      have HLN : Hid (L2 ++ L3 = L0 ++ (order.take (j + 1)).flatMap (recM h order)) := by unfold Hid; rw [HSN2.out, HL2.out, HL.out]; simp
      have hsz6 := hB6.size
      have HR6 := Lib.hid hR6.rf
      have HK6 := Lib.hid (HK3.out.below hB6)
      have HZ6 : Hid (Below w3.heap.size w4 w6) := Z5.trans (hB6.mono (by omega))
      rw [hl3]
      clear hL3 hl3 hR6 hRlo6 hB6 HL2 HSN
      have hLN : (L2 ++ L3).length ≤ 4 + 5 * (j + 1) := by simp; omega
      have HLNl := Lib.hid hLN
      clear hLN
      go_wp2_with (at_builtin; (refine wpList_appi rfl (.tmp 42) (.tmp 46) rfl L2 (ys := L3) rfl rfl HK6.out HR6.out (by omega) ?_); intro S7 cS7 w7 hO7 hOn7 hg7; have HB7 : Hid (Below w3.heap.size w4 w7) := HZ6.out.trans (hOn7.below (by omega) (fun b9 hb9 => HSL3.out b9 hb9)); have HSL7 : Hid (∀ b9 ∈ blk S7, w3.heap.size ≤ b9) := (fun b9 hb9 => by rcases hg7 b9 hb9 with h9 | h9; exact HSL3.out b9 h9; omega); have HK7 := Lib.hid hO7; clear hO7 hOn7 hg7)
      go_roundw
      case rel => exact ⟨j + 1, L2 ++ L3, S7, cS7, by omega, by go_num, by simp, HLN, HLNl.out, HK7, HSL7, HB7.out⟩
      case measure => simp [intOf]; omega
    · have hke : j = order.length := by omega
      have hL2 : L = viewFrom h order := by rw [HL.out, HL0.out, hke, List.take_length]; rfl
      have HVV : Hid (viewM h = L) := by unfold Hid; rw [HE.out, hL2]
      have HX : Hid (Below w.heap.size w wr) := hW.trans (X1.mono (by omega))
      clear hke hL2
      go_wp2_with fail
      go_ret
      exact ⟨S, cS, by rw [HVV.out]; rfl, by rw [HVV.out]; exact HS.out.rf, HX.out⟩
set_option maxHeartbeats 8000000 in
theorem sameView_any (v u : Value) (h k : HeapM) (w : World) (hv : RH w v h) (hu : RH w u k) :
    Calls Try.prog 13 #[v, u] w fun e w' => e = .returned (.bool (sameViewM h k)) ∧ Below w.heap.size w w' := by
  have hv0 := hv
  have hu0 := hu
  obtain ⟨A, c, A', c', rfl, -, -, hl1, hl2⟩ := hv
  obtain ⟨B, d, B', d', rfl, -, -, kl1, kl2⟩ := hu
  have hW : Below w.heap.size w (((w.alloc (.cells #[.slice A h.cells.length c, .slice A' h.roots.length c'] 26)).alloc (.cells #[.slice B k.cells.length d, .slice B' k.roots.length d'] 26))) := blw_
  have hz1 : w.heap.size < (((w.alloc (.cells #[.slice A h.cells.length c, .slice A' h.roots.length c'] 26)).alloc (.cells #[.slice B k.cells.length d, .slice B' k.roots.length d'] 26))).heap.size := by simp; omega
  have hS : ∀ W, Below (((w.alloc (.cells #[.slice A h.cells.length c, .slice A' h.roots.length c'] 26)).alloc (.cells #[.slice B k.cells.length d, .slice B' k.roots.length d'] 26))).heap.size (((w.alloc (.cells #[.slice A h.cells.length c, .slice A' h.roots.length c'] 26)).alloc (.cells #[.slice B k.cells.length d, .slice B' k.roots.length d'] 26))) W → ((fun w' => w'.cell? ⟨w.heap.size, 0, none⟩ = some (.slice A h.cells.length c) ∧ w'.cell? ⟨w.heap.size, 1, none⟩ = some (.slice A' h.roots.length c') ∧ w'.cell? ⟨w.heap.size + 1, 0, none⟩ = some (.slice B k.cells.length d) ∧ w'.cell? ⟨w.heap.size + 1, 1, none⟩ = some (.slice B' k.roots.length d'))) W := fun W hW => ⟨cell_below (by simp [go_sem]) hW, cell_below (by simp [go_sem]) hW, cell_below (by simp [go_sem]) hW, cell_below (by simp [go_sem]) hW⟩
  have HVH := Lib.hid (hv0.below hW)
  have HVK := Lib.hid (hu0.below hW)
  clear hv0 hu0
  rcases bool_ft (validM h) with hva | hva
  · have HV := Lib.hid hva
    have HE : Hid (sameViewM h k = false) := by unfold Hid sameViewM; rw [hva]; rfl
    clear hva
    go_enter Try.func13, Try.ntmps13
    go_upto_region 1 with fail
    generalize (((w.alloc (.cells #[.slice A h.cells.length c, .slice A' h.roots.length c'] 26)).alloc (.cells #[.slice B k.cells.length d, .slice B' k.roots.length d'] 26))) = W0 at *
    change Code.wp _ (Code.region _ #[_, _, _, id _, _, _, _, id _, _, id _, _, _, _, _] true) _ _ _
    go_region_held3 (fun w' => w'.cell? ⟨w.heap.size, 0, none⟩ = some (.slice A h.cells.length c) ∧ w'.cell? ⟨w.heap.size, 1, none⟩ = some (.slice A' h.roots.length c') ∧ w'.cell? ⟨w.heap.size + 1, 0, none⟩ = some (.slice B k.cells.length d) ∧ w'.cell? ⟨w.heap.size + 1, 1, none⟩ = some (.slice B' k.roots.length d'))
      (first | with_reducible exact hS _ blw_)
      (first
        | (go_at_call 41; (with_reducible refine (implHeapValid_any (.agg #[.slice A h.cells.length c, .slice A' h.roots.length c']) h _ (HVH.out.below blw_)).mono ?_); rw [HV.out]; rintro e y1 ⟨rfl, hY1⟩; have z1 := hY1.size; (try simp only [World.size_alloc, World.size_setCell, World.size_drew, World.heap_drewN] at z1); have Y1 : Below W0.heap.size W0 y1 := blw_; clear hY1))
    all_goals
      go_wp2_with fail
      go_ret
      exact ⟨by rw [HE.out]; rfl, blw_⟩
  rcases bool_ft (validM k) with kva | kva
  · have HV := Lib.hid hva
    have KV := Lib.hid kva
    have HE : Hid (sameViewM h k = false) := by unfold Hid sameViewM; rw [hva, kva]; rfl
    clear hva kva
    go_enter Try.func13, Try.ntmps13
    go_upto_region 1 with fail
    generalize (((w.alloc (.cells #[.slice A h.cells.length c, .slice A' h.roots.length c'] 26)).alloc (.cells #[.slice B k.cells.length d, .slice B' k.roots.length d'] 26))) = W0 at *
    change Code.wp _ (Code.region _ #[_, _, _, _, _, _, _, id _, _, id _, _, _, _, _] true) _ _ _
    go_region_held3 (fun w' => w'.cell? ⟨w.heap.size, 0, none⟩ = some (.slice A h.cells.length c) ∧ w'.cell? ⟨w.heap.size, 1, none⟩ = some (.slice A' h.roots.length c') ∧ w'.cell? ⟨w.heap.size + 1, 0, none⟩ = some (.slice B k.cells.length d) ∧ w'.cell? ⟨w.heap.size + 1, 1, none⟩ = some (.slice B' k.roots.length d'))
      (first | with_reducible exact hS _ blw_)
      (first
        | (go_at_call 41; (with_reducible refine (implHeapValid_any (.agg #[.slice A h.cells.length c, .slice A' h.roots.length c']) h _ (HVH.out.below blw_)).mono ?_); rw [HV.out]; rintro e y1 ⟨rfl, hY1⟩; have z1 := hY1.size; (try simp only [World.size_alloc, World.size_setCell, World.size_drew, World.heap_drewN] at z1); have Y1 : Below W0.heap.size W0 y1 := blw_; clear hY1) | (go_at_call 41; (with_reducible refine (implHeapValid_any (.agg #[.slice B k.cells.length d, .slice B' k.roots.length d']) k _ (HVK.out.below blw_)).mono ?_); rw [KV.out]; rintro e y2 ⟨rfl, hY2⟩; have z2 := hY2.size; (try simp only [World.size_alloc, World.size_setCell, World.size_drew, World.heap_drewN] at z2); have Y2 : Below W0.heap.size W0 y2 := blw_; (try clear Y1); clear hY2))
    all_goals
      go_wp2_with fail
      go_ret
      exact ⟨by rw [HE.out]; rfl, blw_⟩
  · have HV := Lib.hid hva
    have KV := Lib.hid kva
    have HE : Hid (sameViewM h k = eqB (viewM h) (viewM k)) := by unfold Hid sameViewM; rw [hva, kva]; rfl
    have hlh : (viewM h).length ≤ 9223372036854775807 := view_len hva
    have hlk : (viewM k).length ≤ 9223372036854775807 := view_len kva
    clear hva kva
    go_enter Try.func13, Try.ntmps13
    go_upto_region 1 with fail
    generalize (((w.alloc (.cells #[.slice A h.cells.length c, .slice A' h.roots.length c'] 26)).alloc (.cells #[.slice B k.cells.length d, .slice B' k.roots.length d'] 26))) = W0 at *
    go_region_held3 (fun w' => w'.cell? ⟨w.heap.size, 0, none⟩ = some (.slice A h.cells.length c) ∧ w'.cell? ⟨w.heap.size, 1, none⟩ = some (.slice A' h.roots.length c') ∧ w'.cell? ⟨w.heap.size + 1, 0, none⟩ = some (.slice B k.cells.length d) ∧ w'.cell? ⟨w.heap.size + 1, 1, none⟩ = some (.slice B' k.roots.length d'))
      (first | with_reducible exact hS _ blw_)
      (first
        | (go_at_call 41; (with_reducible refine (implHeapValid_any (.agg #[.slice A h.cells.length c, .slice A' h.roots.length c']) h _ (HVH.out.below blw_)).mono ?_); rw [HV.out]; rintro e y1 ⟨rfl, hY1⟩; have z1 := hY1.size; (try simp only [World.size_alloc, World.size_setCell, World.size_drew, World.heap_drewN] at z1); have Y1 : Below W0.heap.size W0 y1 := blw_; clear hY1) | (go_at_call 41; (with_reducible refine (implHeapValid_any (.agg #[.slice B k.cells.length d, .slice B' k.roots.length d']) k _ (HVK.out.below blw_)).mono ?_); rw [KV.out]; rintro e y2 ⟨rfl, hY2⟩; have z2 := hY2.size; (try simp only [World.size_alloc, World.size_setCell, World.size_drew, World.heap_drewN] at z2); have Y2 : Below W0.heap.size W0 y2 := blw_; (try clear Y1); clear hY2)
        | (go_at_call 46; (with_reducible refine (viewOf_any (.agg #[.slice A h.cells.length c, .slice A' h.roots.length c']) h _ (HVH.out.below blw_)).mono ?_); rintro e y3 ⟨SH, cH, rfl, hRH, hY3⟩; have z3 := hY3.size; (try simp only [World.size_alloc, World.size_setCell, World.size_drew, World.heap_drewN] at z3); have HRH := Lib.hid hRH; have Y3 : Below W0.heap.size W0 y3 := blw_; have X3 := Lib.hid hY3; (try clear Y2); (try clear Y4); clear hY3 hRH)
        | (go_at_call 46; (with_reducible refine (viewOf_any (.agg #[.slice B k.cells.length d, .slice B' k.roots.length d']) k _ (HVK.out.below blw_)).mono ?_); rintro e y4 ⟨SK, cK, rfl, hRK, hY4⟩; have z4 := hY4.size; (try simp only [World.size_alloc, World.size_setCell, World.size_drew, World.heap_drewN] at z4); have HRK := Lib.hid hRK; have Y4 : Below W0.heap.size W0 y4 := blw_; have X4 := Lib.hid hY4; (try clear Y2); (try clear Y3); clear hY4 hRK)
        | (go_at_call 44; (first | (with_reducible refine (implSameInts_any SH SK (viewM h) (viewM k) cH cK _ (HRH.out.below X4.out) HRK.out hlh hlk).mono ?_) | (with_reducible refine (implSameInts_any SH SK (viewM h) (viewM k) cH cK _ HRH.out (HRK.out.below X3.out) hlh hlk).mono ?_)); rintro e y5 ⟨rfl, n5, rfl⟩))
    all_goals
      go_wp2_with fail
      go_ret
      exact ⟨by rw [HE.out]; rfl, blw_⟩
end Go.Proofs.Ytkikeanpbffpkaa
