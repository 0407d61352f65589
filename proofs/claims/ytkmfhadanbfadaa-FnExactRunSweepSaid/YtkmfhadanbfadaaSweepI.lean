/- The program's refersOutside and SweepCells. -/
import Derived.Test.YtkmfhadanbfadaaChecked
import Derived.Deep.DeepCutAuto
import Derived.Test.YtkmfhadanbfadaaSweepS
import Derived.Test.YtkmfhadanbfadaaSnapV
namespace Go.Proofs.Ytkmfhadanbfadaa
open Go.RowKit
set_option maxRecDepth 100000
set_option linter.unusedSimpArgs false
set_option linter.unusedVariables false
/-- A slice of numbers, as an element of a list of slices. -/
structure OSl where
  A : Option Addr
  cap : Nat
  xs : List Int
def fsl (o : OSl) : Value := .slice o.A o.xs.length o.cap
theorem info_ints : (Try.prog.info? 23).map (fun i => (i.zero, i.size, i.bytes)) = some (some (.slice none 0 0), 1, 24) := by kernel_rfl
theorem app_sls {w : World} (ty : TypeId) {S : Option Addr} {c : Nat} {xs : List OSl} (hown : OF 23 fsl w S c xs) {A : Option Addr} {ys : List OSl} (c2 : Nat) (hr : RF fsl w A ys) (h : xs.length + ys.length ≤ 1099511627776) :
    ∃ S' c' w', (Builtin.append_ #[185, 185] ty #[.slice S xs.length c, .slice A ys.length c2]).run Try.prog w = .ok (.slice S' (xs ++ ys).length c') w' ∧ OF 23 fsl w' S' c' (xs ++ ys) ∧ Only (blk S) w w' ∧ (∀ g ∈ blk S', g ∈ blk S ∨ w.heap.size ≤ g) := by
  obtain ⟨i0, hi, hz0, hz1, hz2⟩ := info_parts info_ints
  exact run_app 185 ty i0 _ 24 Try.underlying185 hi hz0 hz1 hz2 rfl (fun _ => rfl) hown c2 hr (by omega) (by omega) hr.nil_len
theorem wpList_apps {w : World} {ops : Array Oper} {o : Oper} {a : Act} {rest : List Oper} {Q : Exit → Act → World → Prop} (hgd : o.guard = none) (s x : Operand) (ho : o.op = .call { callee := .builtin .append, args := #[s, x], argTypes := #[185, 185] })
    {S A : Option Addr} {c c2 : Nat} (xs : List OSl) {ys : List OSl} (hs : a.eval s = .slice S xs.length c) (hx : a.eval x = .slice A ys.length c2)
    (hown : OF 23 fsl w S c xs) (hr : RF fsl w A ys) (h : xs.length + ys.length ≤ 1099511627776)
    (hK : ∀ S' c' w', OF 23 fsl w' S' c' (xs ++ ys) → Only (blk S) w w' → (∀ g ∈ blk S', g ∈ blk S ∨ w.heap.size ≤ g) → wpList Try.prog ops Q rest (a.put o.dst (.slice S' (xs ++ ys).length c')) w') :
    wpList Try.prog ops Q (o :: rest) a w := by
  obtain ⟨S', c', w', hrun, h1, h2, h3⟩ := app_sls o.type hown c2 hr h
  exact wpList_ran hgd s x _ ho hs hx hrun (hK _ _ _ h1 h2 h3)
/-- The lists at which refersOutside looks: the roots, and the references of the set's cells before number j. -/
def listsM (h : HeapM) (s j : Nat) : List (List Int) := h.roots :: ((List.range j).filter fun i => s.testBit i).map (refsAt h)
theorem listsM_succ (h : HeapM) (s j : Nat) : listsM h s (j + 1) = if s.testBit j then listsM h s j ++ [refsAt h j] else listsM h s j := by
  unfold listsM
  rw [List.range_succ, List.filter_append, List.map_append]
  cases hb : s.testBit j <;> simp [hb]
theorem listsM_len (h : HeapM) (s j : Nat) : (listsM h s j).length ≤ j + 1 := by
  unfold listsM
  rw [List.length_cons, List.length_map]
  have := List.length_filter_le (fun i => s.testBit i) (List.range j)
  simp at this
  omega
def outN (h : HeapM) (s : Nat) : Nat := andN (usedBits h.cells) s
def outS (h : HeapM) (s : Nat) : Bool := (listsM h s h.cells.length).any fun l => l.any (hasB (outN h s))
theorem outS_out {h : HeapM} {marks : List Bool} (hn : h.cells.length ≤ 64) (hl : marks.length = h.cells.length) : outS h (bitsOf marks) = outB h marks := by
  have hu : usedBits h.cells < 18446744073709551616 := bitsOf_lt64 (by simp; omega)
  have hm : bitsOf marks < 18446744073709551616 := bitsOf_lt64 (by omega)
  have key : hasB (outN h (bitsOf marks)) = outRef h marks := by
    funext r
    unfold hasB outRef outN
    rw [andN_test hu hm, bitsOf_test, usedBits_test]
  unfold outS outB listsM
  rw [key, List.any_cons]
  congr 1
  rw [Bool.eq_iff_iff]
  simp only [List.any_eq_true, List.mem_map, List.mem_filter, List.mem_range, outAt, Bool.and_eq_true, bitsOf_test]
  constructor
  · rintro ⟨l, ⟨i, ⟨h1, h2⟩, rfl⟩, x, h3, h4⟩
    exact ⟨i, h1, h2, x, h3, h4⟩
  · rintro ⟨i, h1, h2, x, h3, h4⟩
    exact ⟨_, ⟨i, ⟨h1, h2⟩, rfl⟩, x, h3, h4⟩
set_option maxHeartbeats 4000000 in
theorem refersOutside_any (v : Value) (h : HeapM) (s : Nat) (w : World) (hv : RH w v h) (hva : validM h = true) (hs : s < 18446744073709551616) :
    Calls Try.prog 147 #[v, .int .u64 (s : Int)] w fun e w' => e = .returned (.bool (outS h s)) ∧ Below w.heap.size w w' := by
  have hv0 := hv
  obtain ⟨A, c, A', c', rfl, hc, hr, hl1, hl2⟩ := hv
  obtain ⟨v1, v2, v3⟩ := valid_small hva
  obtain ⟨lt1, lt2⟩ := validM_lt hva
  have hu : usedBits h.cells < 18446744073709551616 := bitsOf_lt64 (by simp; omega)
  have hout : outN h s < 18446744073709551616 := andN_lt hu
  have hand : bits .andNot .u64 ((usedBits h.cells : Nat) : Int) ((s : Nat) : Int) = ((outN h s : Nat) : Int) := u64_andNot_nat _ _ hu hs
  have k0 : ((w.alloc (.cells #[.slice A h.cells.length c, .slice A' h.roots.length c'] 32))).cell? ⟨w.heap.size, 0, none⟩ = some (.slice A h.cells.length c) := by simp [go_sem]
  have k1 : ((w.alloc (.cells #[.slice A h.cells.length c, .slice A' h.roots.length c'] 32))).cell? ⟨w.heap.size, 1, none⟩ = some (.slice A' h.roots.length c') := by simp [go_sem]
  have HLT1 := Lib.hid lt1
  have HLT2 := Lib.hid lt2
  have HV3 := Lib.hid v3
  have v2' : h.roots.length ≤ 4 := by omega
  clear lt1 lt2 v2 v3 hva
  go_enter Try.func147, Try.ntmps147
  go_wp2_with fail
  (with_reducible refine (usedSet_any _ h _ (hv0.below (by repeat (first | ((with_reducible refine Below.setc ?_ ?_ _); focus (first | omega | (simp; done) | (simp; omega))) | ((with_reducible refine Below.allocc ?_ ?_ _); focus (first | omega | (simp; done) | (simp; omega))) | (with_reducible refine Below.drew ?_) | (with_reducible refine Below.drewn ?_) | (with_reducible assumption) | (with_reducible exact Below.refl _ _) | ((with_reducible refine Below.stepp (by with_reducible assumption) ?_ ?_); focus (first | omega | (simp; done) | (simp; omega)))))) (by omega)).mono ?_)
  rintro e w1 ⟨rfl, hB1⟩
  have Y1 : Below ((w.alloc (.cells #[.slice A h.cells.length c, .slice A' h.roots.length c'] 32))).heap.size (w.alloc (.cells #[.slice A h.cells.length c, .slice A' h.roots.length c'] 32)) w1 := (by repeat (first | ((with_reducible refine Below.setc ?_ ?_ _); focus (first | omega | (simp; done) | (simp; omega))) | ((with_reducible refine Below.allocc ?_ ?_ _); focus (first | omega | (simp; done) | (simp; omega))) | (with_reducible refine Below.drew ?_) | (with_reducible refine Below.drewn ?_) | (with_reducible assumption) | (with_reducible exact Below.refl _ _) | ((with_reducible refine Below.stepp (by with_reducible assumption) ?_ ?_); focus (first | omega | (simp; done) | (simp; omega)))))
  have X1 : Below w.heap.size w w1 := Below.trans (by repeat (first | ((with_reducible refine Below.setc ?_ ?_ _); focus (first | omega | (simp; done) | (simp; omega))) | ((with_reducible refine Below.allocc ?_ ?_ _); focus (first | omega | (simp; done) | (simp; omega))) | (with_reducible refine Below.drew ?_) | (with_reducible refine Below.drewn ?_) | (with_reducible assumption) | (with_reducible exact Below.refl _ _) | ((with_reducible refine Below.stepp (by with_reducible assumption) ?_ ?_); focus (first | omega | (simp; done) | (simp; omega))))) (Y1.mono (by simp))
  have a0 := cell_below k0 Y1
  have a1 := cell_below k1 Y1
  have sX1 := X1.size
  have zw1 : w.heap.size < w1.heap.size := World.block_lt_of_cell? w1 _ a0
  clear k0 k1 hB1 Y1
  go_wp2
  go_loopw [6, 23] (fun s6 i wr => ∃ (j : Nat) (S : Option Addr) (cS : Nat) (os : List OSl), j ≤ h.cells.length ∧ i = .int .i64 j ∧ s6 = .slice S os.length cS ∧ Hid (os.map (·.xs) = listsM h s j) ∧ OF 23 fsl wr S cS os ∧ (∀ b ∈ blk S, w1.heap.size ≤ b) ∧ Hid (∀ o ∈ os, RF fi w1 o.A o.xs ∧ o.xs.length ≤ 1048576 ∧ ∀ r ∈ o.xs, r < h.cells.length) ∧ Below w1.heap.size w1 wr) (fun _ i _ => h.cells.length - (intOf i).toNat)
  case atStart =>
    refine ⟨0, some ⟨w1.heap.size, 0, none⟩, 1, [⟨A', c', h.roots⟩], by omega, rfl, rfl, by unfold Hid; simp [listsM], OF.of_blkn (by simp) (heap_alloc_at _ _ _ (by simp [rowF, fsl])) (by simp [maxLen]), fun b hb => by rw [mem_blk_some hb]; exact Nat.le_refl _, ?_, (by repeat (first | ((with_reducible refine Below.setc ?_ ?_ _); focus (first | omega | (simp; done) | (simp; omega))) | ((with_reducible refine Below.allocc ?_ ?_ _); focus (first | omega | (simp; done) | (simp; omega))) | (with_reducible refine Below.drew ?_) | (with_reducible refine Below.drewn ?_) | (with_reducible assumption) | (with_reducible exact Below.refl _ _) | ((with_reducible refine Below.stepp (by with_reducible assumption) ?_ ?_); focus (first | omega | (simp; done) | (simp; omega)))))⟩
    unfold Hid
    intro o ho
    rw [List.mem_singleton.1 ho]
    exact ⟨hr.below X1, by simp only; omega, HLT2.out⟩
  case round =>
    obtain ⟨j, S, cS, os, hj, rfl, rfl, HL, hO, hSl, HR, hBl⟩ := hrel
    have hBls := hBl.size
    have Xr : Below w.heap.size w wr := X1.trans (hBl.mono sX1)
    have b0 := cell_below a0 hBl
    have b1 := cell_below a1 hBl
    have zwr : w.heap.size < wr.heap.size := World.block_lt_of_cell? wr _ b0
    have hol : os.length ≤ 41 := by have h8 := listsM_len h s j; rw [← HL.out, List.length_map] at h8; omega
    by_cases hlt : j < h.cells.length
    · obtain ⟨b, o, cc, Ar, cr, rfl, gc, d0, d1, d2, hrr, hrl, hb⟩ := (hc.below Xr).at_ hlt
      have HS := Lib.hid (listsM_succ h s j)
      have HC := Lib.hid (refsAt_of gc)
      have hlt3 := HLT1.out cc (List.mem_of_getElem? gc)
      have hrl3 := HV3.out cc (List.mem_of_getElem? gc)
      have HRR : Hid (RF fi w1 Ar cc.refs) := by
        obtain ⟨b9, o9, x9, Ar9, cr9, e9, g9, c9, c91, c92, r9, -⟩ := (hc.below X1).at_ hlt
        injection e9 with e9; injection e9 with e91 e92; subst e91; subst e92
        rw [gc] at g9; injection g9 with g9; subst g9
        have h5 := cell_below c92 hBl
        rw [d2] at h5
        injection h5 with h5
        injection h5 with h5 h6 h7
        subst h5
        exact r9
      have HLT3 := Lib.hid hlt3
      have hhas := hasB_nat s j
      have HO := Lib.hid hO
      have HSL := Lib.hid hSl
      clear gc hc hrr hlt3 hO hSl
      rcases bool_ft (s.testBit j) with hb1 | hb1
      · rw [hb1] at hhas HS
        go_wp2_with (go_at_call 163; refine (has_any s _ _ (by omega) hs).mono ?_; rw [hhas]; rintro e w2 ⟨rfl, rfl⟩)
        go_roundw
        case rel => exact ⟨j + 1, S, cS, os, by omega, by go_num, rfl, by unfold Hid; rw [HS.out, HL.out]; rfl, HO.out.below (by repeat (first | ((with_reducible refine Below.setc ?_ ?_ _); focus (first | omega | (simp; done) | (simp; omega))) | ((with_reducible refine Below.allocc ?_ ?_ _); focus (first | omega | (simp; done) | (simp; omega))) | (with_reducible refine Below.drew ?_) | (with_reducible refine Below.drewn ?_) | (with_reducible assumption) | (with_reducible exact Below.refl _ _) | ((with_reducible refine Below.stepp (by with_reducible assumption) ?_ ?_); focus (first | omega | (simp; done) | (simp; omega))))), HSL.out, HR, (by repeat (first | ((with_reducible refine Below.setc ?_ ?_ _); focus (first | omega | (simp; done) | (simp; omega))) | ((with_reducible refine Below.allocc ?_ ?_ _); focus (first | omega | (simp; done) | (simp; omega))) | (with_reducible refine Below.drew ?_) | (with_reducible refine Below.drewn ?_) | (with_reducible assumption) | (with_reducible exact Below.refl _ _) | ((with_reducible refine Below.stepp (by with_reducible assumption) ?_ ?_); focus (first | omega | (simp; done) | (simp; omega)))))⟩
        case measure => simp [intOf]; omega
      · rw [hb1] at hhas HS
        go_wp2_with (first | (go_at_call 163; refine (has_any s _ _ (by omega) hs).mono ?_; rw [hhas]; rintro e w2 ⟨rfl, rfl⟩) | (at_builtin; refine wpList_apps rfl (.tmp 31) (.tmp 34) rfl os rfl rfl (HO.out.below (by repeat (first | ((with_reducible refine Below.setc ?_ ?_ _); focus (first | omega | (simp; done) | (simp; omega))) | ((with_reducible refine Below.allocc ?_ ?_ _); focus (first | omega | (simp; done) | (simp; omega))) | (with_reducible refine Below.drew ?_) | (with_reducible refine Below.drewn ?_) | (with_reducible assumption) | (with_reducible exact Below.refl _ _) | ((with_reducible refine Below.stepp (by with_reducible assumption) ?_ ?_); focus (first | omega | (simp; done) | (simp; omega)))))) (RF.single (x := (⟨Ar, cr, cc.refs⟩ : OSl)) (by simp [go_sem, fsl])) (by simp; omega) ?_; intro S' cS' w' hO' hOn' hg'; have hB' : Below w1.heap.size w1 w' := Below.trans (by repeat (first | ((with_reducible refine Below.setc ?_ ?_ _); focus (first | omega | (simp; done) | (simp; omega))) | ((with_reducible refine Below.allocc ?_ ?_ _); focus (first | omega | (simp; done) | (simp; omega))) | (with_reducible refine Below.drew ?_) | (with_reducible refine Below.drewn ?_) | (with_reducible assumption) | (with_reducible exact Below.refl _ _) | ((with_reducible refine Below.stepp (by with_reducible assumption) ?_ ?_); focus (first | omega | (simp; done) | (simp; omega))))) (hOn'.below (by have := hBl.size; simp; omega) HSL.out); have HSL' : ∀ b' ∈ blk S', w1.heap.size ≤ b' := (fun b' hb' => by have h8 := hBl.size; rcases hg' b' hb' with h9 | h9; exact HSL.out b' h9; simp at h9; omega)))
        go_roundw
        case rel =>
          refine ⟨j + 1, S', cS', os ++ [⟨Ar, cr, cc.refs⟩], by omega, by go_num, by simp, by unfold Hid; rw [HS.out, List.map_append, HL.out, HC.out]; rfl, hO', HSL', ?_, hB'⟩
          unfold Hid
          intro o9 ho9
          rcases List.mem_append.1 ho9 with h9 | h9
          · exact HR.out o9 h9
          · rw [List.mem_singleton.1 h9]
            exact ⟨HRR.out, by simp only; omega, HLT3.out⟩
        case measure => simp [intOf]; omega
    · have hke : j = h.cells.length := by omega
      have HFIN : Hid (outS h s = os.any fun o => o.xs.any (hasB (outN h s))) := by
        unfold Hid outS
        rw [← hke, ← HL.out, List.any_map]
        rfl
      have hrfo := hO.rf
      have HRW : Hid (∀ o ∈ os, RF fi wr o.A o.xs ∧ o.xs.length ≤ 1048576 ∧ ∀ r ∈ o.xs, r < h.cells.length) := fun o ho => ⟨(HR.out o ho).1.below hBl, (HR.out o ho).2⟩
      clear hke HL hO hSl HR b0 b1 hc hr a0 a1
      obtain ⟨wo, rfl⟩ : ∃ wo, wo = wr := ⟨_, rfl⟩
      go_wp2
      go_loop [39] (fun i => ∃ k : Nat, k ≤ os.length ∧ i = .int .i64 k ∧ Hid ((os.any fun o => o.xs.any (hasB (outN h s))) = ((os.drop k).any fun o => o.xs.any (hasB (outN h s))))) (fun i => os.length - (intOf i).toNat)
      case atStart => exact ⟨0, by omega, rfl, rfl⟩
      case round =>
        obtain ⟨k, hk, rfl, HD⟩ := hrel
        by_cases hlt : k < os.length
        · obtain ⟨b, o, x, rfl, gx, c1, hb⟩ := hrfo.at_ hlt
          obtain ⟨xA, xc, xs⟩ := x
          have c1' : wo.cell? ⟨b, o + k, none⟩ = some (.slice xA xs.length xc) := c1
          obtain ⟨hxr, hxl, hxlt⟩ := HRW.out _ (List.mem_of_getElem? gx)
          simp only at hxr hxl hxlt
          have HN : Hid ((os.any fun o => o.xs.any (hasB (outN h s))) = (xs.any (hasB (outN h s)) || (os.drop (k + 1)).any fun o => o.xs.any (hasB (outN h s)))) := by unfold Hid; rw [HD.out, any_drop _ gx]
          have HXLT := Lib.hid hxlt
          clear gx c1 hxlt HD
          go_wp2
          go_loop [45] (fun i => ∃ q : Nat, q ≤ xs.length ∧ i = .int .i64 q ∧ Hid (xs.any (hasB (outN h s)) = (xs.drop q).any (hasB (outN h s)))) (fun i => xs.length - (intOf i).toNat)
          case atStart => exact ⟨0, by omega, rfl, rfl⟩
          case round =>
            obtain ⟨q, hq, rfl, HQ⟩ := hrel
            by_cases hlt2 : q < xs.length
            · obtain ⟨b2, o2, y, rfl, gy, c2, hb2⟩ := hxr.at_ hlt2
              have c2' : wo.cell? ⟨b2, o2 + q, none⟩ = some (.int .i64 y) := c2
              have hylt := HXLT.out y (List.mem_of_getElem? gy)
              have HM : Hid (xs.any (hasB (outN h s)) = (hasB (outN h s) y || (xs.drop (q + 1)).any (hasB (outN h s)))) := by unfold Hid; rw [HQ.out, any_drop _ gy]
              clear gy c2 HQ
              rcases bool_ft (hasB (outN h s) y) with hy | hy
              · rw [hy] at HM
                go_wp2_with (go_at_call 163; refine (has_any _ _ _ (by omega) hout).mono ?_; rw [hy]; rintro e w2 ⟨rfl, rfl⟩)
                go_round
                case rel => exact ⟨q + 1, by omega, by go_num, by unfold Hid; rw [HM.out]; rfl⟩
                case measure => simp [intOf]; omega
              · rw [hy] at HM
                go_wp2_with (go_at_call 163; refine (has_any _ _ _ (by omega) hout).mono ?_; rw [hy]; rintro e w2 ⟨rfl, rfl⟩)
                go_ret
                exact ⟨ret_bool (by rw [HFIN.out, HN.out, HM.out]; rfl), Xr⟩
            · have hke : q = xs.length := by omega
              have HM : Hid (xs.any (hasB (outN h s)) = false) := by unfold Hid; rw [HQ.out, hke, List.drop_length]; rfl
              clear hke HQ
              go_wp2
              go_round
              case rel => exact ⟨k + 1, by omega, by go_num, by unfold Hid; rw [HN.out, HM.out]; rfl⟩
              case measure => simp [intOf]; omega
        · have hke : k = os.length := by omega
          have HM : Hid (outS h s = false) := by unfold Hid; rw [HFIN.out, HD.out, hke, List.drop_length]; rfl
          clear hke HD
          go_wp2
          go_ret
          exact ⟨ret_bool HM.out.symm, Xr⟩
end Go.Proofs.Ytkmfhadanbfadaa
