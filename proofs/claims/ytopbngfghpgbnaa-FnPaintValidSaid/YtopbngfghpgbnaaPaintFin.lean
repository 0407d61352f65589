/- PaintFinish: the program's finish and PaintFinish do what finishP and paintFinishM say. -/
import Derived.Test.YtopbngfghpgbnaaChecked
import Derived.Deep.LoopGhost
import Derived.Test.YtopbngfghpgbnaaPaintStp
import Derived.Test.YtopbngfghpgbnaaGrExec
namespace Go.Proofs.Ytopbngfghpgbnaa
open Go.RowKit
set_option maxRecDepth 100000
set_option linter.unusedSimpArgs false
set_option linter.unusedVariables false
theorem endP_bounds {p : PaintM} (hv : paintM p = true) : p.colours.length = p.store.cells.length ∧ p.colours.length ≤ 40 ∧ (∀ d ∈ p.store.cells, ∀ r ∈ d.refs, r < p.colours.length) ∧ (p.active = false → noneB isGrey p.colours p.colours.length) := by
  obtain ⟨v1, v2, v3, v4, v5, v6⟩ := paint_small hv
  exact ⟨(paintM_parts hv).2, v4, v6, fun ha => paint_idle hv ha⟩
def whites (cols : List Int) : List Bool := cols.map fun c => c == 0
theorem finishP_act {p q : PaintM} (ha : p.active = true) (hq : endP q = endP p) (hd : (stepP q).2 = false) : finishP p = ((⟨dropM q.store (whites q.colours), List.replicate q.colours.length 0, false⟩ : PaintM), ((freedN q.store.cells (whites q.colours) : Nat) : Int)) := by
  rw [endP_done hd] at hq
  unfold finishP
  rw [ha, if_pos rfl, ← hq]
  rfl
theorem whites_snoc {cols : List Int} {j : Nat} {x : Int} (h : cols[j]? = some x) : bitsOf ((whites cols).take (j + 1)) = bitsOf ((whites cols).take j) ||| (if x = 0 then 2 ^ j else 0) := by
  have hj := (List.getElem?_eq_some_iff.1 h).1
  have h2 : (whites cols)[j]? = some (x == 0) := by simp [whites, h]
  rw [take_snoc_of h2, bitsOf_snoc, List.length_take, Nat.min_eq_left (by simp [whites]; omega)]
  by_cases hx : x = 0 <;> simp [hx]
theorem wipe_step {cols ys : List Int} {j : Nat} (hj : j < cols.length) (hy : ys = List.replicate j 0 ++ cols.drop j) : ys.set j 0 = List.replicate (j + 1) 0 ++ cols.drop (j + 1) := by
  subst hy
  rw [List.set_append_right _ _ (by simp), List.length_replicate, Nat.sub_self, List.drop_eq_getElem_cons hj, List.set_cons_zero, List.replicate_succ', List.append_assoc]
  rfl
theorem wipe_at {cols ys : List Int} {j : Nat} {x : Int} (hx : cols[j]? = some x) (hy : ys = List.replicate j 0 ++ cols.drop j) : ys[j]? = some x := by
  subst hy
  rw [List.getElem?_append_right (by simp)]
  simp [hx]
theorem wipe_len {cols ys : List Int} {j : Nat} (hj : j ≤ cols.length) (hy : ys = List.replicate j 0 ++ cols.drop j) : ys.length = cols.length := by
  subst hy; simp; omega
theorem stepP_act (p : PaintM) : (stepP p).1.active = p.active := by
  unfold stepP
  split <;> rfl
theorem stepP_same {p : PaintM} (h : (stepP p).2 = false) : (stepP p).1 = p := by
  unfold stepP at h ⊢
  split at h
  · rfl
  · cases h
theorem PPx.paintS {lo : Nat} {w w' : World} {g : Nat} {p : PaintM} {A A' A2 : Option Addr} {c c' c2 : Nat} {os : List OCell} {S : List Nat} (h : PPx lo w g p A c A' c' os A2 c2) {cols : List Int} (hO : OF 3 fi w' A2 c2 cols) (hl : cols.length = p.colours.length) (hOn : Only S w w') (hg : g ∉ S)
    (hS : ∀ b ∈ hblks A os A', b ∉ S) : PPx lo w' g ⟨p.store, cols, p.active⟩ A c A' c' os A2 c2 :=
  ⟨hOn.cell h.q0 hg, hOn.cell h.q1 hg, by simp only [hl]; exact hOn.cell h.q2 hg, hOn.cell h.q3 hg, fun o => (hOn.frozenAt g o h.lt hg).trans (h.qf o), h.lo_, Nat.lt_of_lt_of_le h.lt hOn.size, h.apart, h.map, h.own.only hOn hS, hO, h.nd, h.los, by simp only [hl]; exact h.cl⟩
/-- Cells have been freed, and the colours written, and marking ended. -/
theorem PPx.freed {lo : Nat} {w w' : World} {g : Nat} {p : PaintM} {A A' A2 : Option Addr} {c c' c2 : Nat} {os os' : List OCell} (h : PPx lo w g p A c A' c' os A2 c2) (hO : OHs w' A c A' c' os' p.store.roots) (hs : List.Sublist (blks os') (blks os)) (hl : os'.length = os.length) (hOn : Only (blk A) w w') :
    PPx lo w' g ⟨⟨os'.map (·.c), p.store.roots⟩, p.colours, p.active⟩ A c A' c' os' A2 c2 := by
  have hgA : g ∉ blk A := fun hc => h.apart (List.mem_append.2 (.inl (List.mem_append.2 (.inl (List.mem_append.2 (.inl hc))))))
  have hml : os.length = p.store.cells.length := by have := congrArg List.length h.map; simpa using this
  have hsub : ∀ b ∈ hblks A os' A' ++ blk A2, b ∈ hblks A os A' ++ blk A2 := fun b hb => by
    have := hs.subset
    simp only [hblks, List.mem_append] at hb ⊢
    rcases hb with ((hb | hb) | hb) | hb
    · exact .inl (.inl (.inl hb))
    · exact .inl (.inl (.inr (this hb)))
    · exact .inl (.inr hb)
    · exact .inr hb
  refine ⟨by rw [List.length_map, hl, hml]; exact hOn.cell h.q0 hgA, hOn.cell h.q1 hgA, hOn.cell h.q2 hgA, hOn.cell h.q3 hgA, fun o => (hOn.frozenAt g o h.lt hgA).trans (h.qf o), h.lo_, Nat.lt_of_lt_of_le h.lt hOn.size, fun hc => h.apart (hsub _ hc), rfl, hO, ?_, ?_, fun b hb => h.los b (hsub b hb), h.cl⟩
  · refine h.cs.only hOn fun b hb hc => ?_
    exact h.g1 b (List.mem_append.2 (.inl (List.mem_append.2 (.inl hc)))) hb
  · exact List.Sublist.nodup (List.Sublist.append (List.Sublist.append (List.Sublist.append (List.Sublist.refl _) hs) (List.Sublist.refl _)) (List.Sublist.refl _)) h.nd
set_option maxHeartbeats 4000000 in
theorem finish_any (lo g : Nat) (p : PaintM) (A A' A2 : Option Addr) (c c' c2 : Nat) (os : List OCell) (w : World) (h : PPx lo w g p A c A' c' os A2 c2) (hv : paintM p = true) :
    Calls Try.prog 86 #[.pointer (some ⟨g, 0, none⟩)] w fun e w' => e = .returned (.int .i64 (finishP p).2) ∧ (∃ os', PPx lo w' g (finishP p).1 A c A' c' os' A2 c2) ∧ Only (g :: (blk A ++ blk A2)) w w' := by
  have q3 := h.q3
  cases ha : p.active
  · have HA : Hid (finishP p = (p, 0)) := by unfold Hid finishP; rw [ha]; rfl
    rw [ha] at q3
    have H := Lib.hid h
    clear h ha
    go_enter Try.func86, Try.ntmps86
    go_wp2
    go_ret
    exact ⟨ret_int (by rw [HA.out]), ⟨os, by rw [HA.out]; exact H.out⟩, Only.refl _ _⟩
  · have HA := Lib.hid ha
    rw [ha] at q3
    have H := Lib.hid h
    have HV := Lib.hid hv
    have hg2 := h.g2
    clear h ha hv
    go_enter Try.func86, Try.ntmps86
    go_wp2
    go_loopg [] (muP p.colours) (fun k wr => ∃ q, PPx lo wr g q A c A' c' os A2 c2 ∧ Hid (paintM q = true) ∧ Hid (endP q = endP p) ∧ Hid (q.active = true ∧ q.store = p.store) ∧ k = muP q.colours ∧ Only (g :: blk A2) w wr)
    case atStart => exact ⟨p, H.out, HV.out, rfl, ⟨HA.out, rfl⟩, rfl, Only.refl _ _⟩
    case round =>
      obtain ⟨q, hP, HQ, HE, HT, rfl, hOn⟩ := hrel
      obtain ⟨b1, b2, b3, b4⟩ := endP_bounds HQ.out
      have HP := Lib.hid hP
      have HB1 := Lib.hid b1
      rcases bool_ft (stepP q).2 with hs | hs
      · have HS := Lib.hid hs
        have HF := Lib.hid (finishP_act HA.out HE.out hs)
        go_wp2_with fail
        refine (pstep_any lo g q A A' A2 c c' c2 os _ hP b1 b2 b3 b4).mono ?_
        rw [hs]
        rintro e w1 ⟨rfl, hP1, hOn1⟩
        rw [stepP_same HS.out] at hP1
        have q2 := hP1.q2
        have hcs := hP1.cs
        have hz := hP1.lt
        have hrf := hcs.rf
        have hA := hP1.below (w' := (w1.alloc (.cells #[.int .u64 0] 100))) blw_
        have HA1 := Lib.hid hA
        have q2a : (w1.alloc (.cells #[.int .u64 0] 100)).cell? ⟨g, 2, none⟩ = some (.slice A2 q.colours.length c2) := hA.q2
        have HL := Lib.hid hP1.own.lt
        have hwb : w1.heap.size ∉ blk A2 := fun hc => by have := hcs.lt _ hc; omega
        have hgS : g ∉ w1.heap.size :: blk A2 := fun hc => by rcases List.mem_cons.1 hc with e | hc; omega; exact hg2 hc
        have hcl := hP1.cl
        have hOn2 := Lib.hid (hOn.trans hOn1)
        have HG1 := Lib.hid hP1.g1
        clear hs hOn hOn1 hP hP1 hA b1 b3 b4
        go_wp2
        go_loopw [18] (fun i wr => ∃ (j : Nat) (us : List Int), j ≤ q.colours.length ∧ i = .int .i64 j ∧ Hid (us = List.replicate j 0 ++ q.colours.drop j) ∧ OF 3 fi wr A2 c2 us ∧ wr.cell? ⟨w1.heap.size, 0, none⟩ = some (.int .u64 ((bitsOf ((whites q.colours).take j) : Nat) : Int)) ∧ wr.frozen? ⟨w1.heap.size, 0, none⟩ = false ∧ Only (w1.heap.size :: blk A2) (w1.alloc (.cells #[.int .u64 0] 100)) wr) (fun i _ => q.colours.length - (intOf i).toNat)
        case atStart => exact ⟨0, _, by omega, rfl, rfl, HA1.out.cs, by simp [go_sem, bitsOf], by simp [go_sem], Only.refl _ _⟩
        case round =>
          obtain ⟨j, us, hj, rfl, HU, hU, k0, kf, hOn⟩ := hrel
          have hul : us.length = q.colours.length := wipe_len hj HU.out
          have r2 := hOn.cell (p := ⟨g, 2, none⟩) HA1.out.q2 hgS
          have HUL := Lib.hid hul
          have hs64 : bitsOf ((whites q.colours).take j) < 18446744073709551616 := bitsOf_lt64 (by rw [List.length_take]; omega)
          by_cases hlt : j < q.colours.length
          · obtain ⟨x, hx⟩ : ∃ x, q.colours[j]? = some x := ⟨_, List.getElem?_eq_getElem hlt⟩
            have hux := wipe_at hx HU.out
            obtain ⟨b, hA2, hbs⟩ := hU.some_ (j := j) (by omega)
            have HW := Lib.hid (whites_snoc hx)
            have HN : Hid (us.set j 0 = List.replicate (j + 1) 0 ++ q.colours.drop (j + 1)) := wipe_step hlt HU.out
            subst hA2
            have c1 := hU.cell hux
            have c1' : wr.cell? ⟨b, j, none⟩ = some (.int .i64 x) := c1
            have f1 := hU.frozen j
            have hbw : b ≠ w1.heap.size := fun e => hwb (by simp [blk, e])
            have hbw2 : w1.heap.size ≠ b := fun e => hbw e.symm
            have hgb : g ≠ b := fun e => hg2 (by simp [blk, e])
            have hgb2 : b ≠ g := fun e => hgb e.symm
            have hgw : g ≠ w1.heap.size := by omega
            have hgw2 : w1.heap.size ≠ g := by omega
            have hU2 := Lib.hid (hU.set_ j 0)
            have HU3 := Lib.hid hU
            clear hx hux c1 hul hU HU
            rcases Classical.em (x = 0) with hx0 | hx0
            · subst hx0
              rw [if_pos rfl] at HW
              have hj64 : j < 64 := by omega
              go_wp2_with (go_at_call 124; refine (add_any _ _ _ _ (by omega) (by omega) hs64 (by first | assumption | simp [go_sem, k0]) (by first | assumption | simp [go_sem, kf])).mono ?_; rintro e w2 ⟨rfl, rfl⟩)
              go_roundw
              case rel =>
                refine ⟨j + 1, _, by omega, by go_num, HN, ?_, ?_, ?_, ?_⟩
                · exact ((HU3.out.ne_ (p := ⟨w1.heap.size, 0, none⟩) (by simpa [blk] using hbw2)).drew).set_ j 0
                · rw [HW.out]; simp [go_sem, k0, hbw, hbw2]
                · simp [go_sem, kf, hbw, hbw2]
                · exact ((hOn.setCell (.inl (by simp)) _).drew).setCell (.inl (by simp [blk])) _
              case measure => simp [intOf]; omega
            · rw [if_neg hx0, Nat.or_zero] at HW
              go_wp2
              go_roundw
              case rel =>
                refine ⟨j + 1, _, by omega, by go_num, HN, hU2.out, ?_, ?_, ?_⟩
                · rw [HW.out]; simp [go_sem, k0, hbw, hbw2]
                · simp [go_sem, kf, hbw, hbw2]
                · exact hOn.setCell (.inl (by simp [blk])) _
              case measure => simp [intOf]; omega
          · have hke : j = q.colours.length := by omega
            have HK := Lib.hid hke
            have hwl : (whites q.colours).length = q.colours.length := by simp [whites]
            have hHS : ∀ b ∈ hblks A os A', b ∉ w1.heap.size :: blk A2 := fun b hb hc => by
              rcases List.mem_cons.1 hc with e | hc
              · have := HL.out b hb; omega
              · exact HG1.out b hb hc
            have hPc := HA1.out.paintS (cols := us) hU hul hOn hgS hHS
            have hPa := hPc.act false
            have hPd := hPa.below (Below.refl _ _).drew
            have hqf := hPc.qf 3
            have HD := Lib.hid hPd
            have hml : os.length = q.store.cells.length := by have := congrArg List.length HA1.out.map; simpa using this
            have hq0 : ((wr.setCell ⟨g, 3, none⟩ (.bool false)).drew).cell? ⟨g, 0, none⟩ = some (.slice A os.length c) := by rw [hml]; exact hPd.q0
            have hgA : g ∉ blk A := fun hc => hPd.apart (List.mem_append.2 (.inl (List.mem_append.2 (.inl (List.mem_append.2 (.inl hc))))))
            have hos64 : os.length ≤ 64 := by have := HB1.out; omega
            have hgw : g ≠ w1.heap.size := by omega
            have hgw2 : w1.heap.size ≠ g := by omega
            have hq3' := hPc.q3
            have k0s : (wr.setCell ⟨g, 3, none⟩ (.bool false)).cell? ⟨w1.heap.size, 0, none⟩ = some (.int .u64 ((bitsOf ((whites q.colours).take j) : Nat) : Int)) := by simp [go_sem, k0, hgw, hgw2]
            have hbA : ∀ b ∈ blk A, b ≠ w1.heap.size := fun b hb e => by have := HL.out b (List.mem_append.2 (.inl (List.mem_append.2 (.inl hb)))); omega
            have HBA := Lib.hid hbA
            have HQ0 := Lib.hid hq0
            have HGA := Lib.hid hgA
            have HUU := HU
            have HKU := Lib.hid hul
            have o0 : Only (w1.heap.size :: g :: (blk A ++ blk A2)) (w1.alloc (.cells #[.int .u64 0] 100)) (wr.setCell ⟨g, 3, none⟩ (.bool false)).drew := ((hOn.mono fun b hb => by rcases List.mem_cons.1 hb with rfl | hb; simp; simp [hb]).setCell (.inl (by simp)) _).drew
            have HO0 := Lib.hid o0
            clear hke hPc hPa hPd hq0 hgA hHS hul hU hbA o0
            go_wp2_with fail
            clear k0 kf r2 hOn hq3' hqf
            generalize wr.setCell ⟨g, 3, none⟩ (.bool false) = WW at *
            go_still_tail 4, (by kernel_rfl)
            change wpList _ _ _ _ _ WW.drew
            go_wp2_with fail
            (with_reducible refine (freeCells_any g A c os _ _ HQ0.out HD.out.own.cells HGA.out hos64 hs64).mono ?_)
            rintro e w3 ⟨rfl, hC3, hOn3⟩
            go_wp2
            go_ret
            have hF := HF.out
            have hwt : (whites q.colours).take j = whites q.colours := by rw [HK.out, ← hwl, List.take_length]
            have hdl : (whites q.colours).length = os.length := by rw [hwl, HB1.out, ← hml]
            have hmap := HA1.out.map
            have hvf := valid_free (paintM_parts HQ.out).1
            rw [hwt] at hC3
            have hdr := oPut_set (s := bitsOf (whites q.colours)) (os := os) (dead := whites q.colours) hdl (fun i o _ _ => bitsOf_test _ i) (fun o ho => hvf o.c (by rw [← hmap]; exact List.mem_map.2 ⟨o, ho, rfl⟩))
            have hfr := freeN_drop (s := bitsOf (whites q.colours)) (cs := q.store.cells) (dead := whites q.colours) (by rw [hdl, hml]) (fun i o _ _ => bitsOf_test _ i)
            have hOH := HD.out.own.put_ hC3 (oPut_blks _ _ _ (Nat.le_refl _)) (oPut_len _ _ _) hOn3
            have hPf := HD.out.freed hOH (oPut_blks _ _ _ (Nat.le_refl _)) (oPut_len _ _ _) hOn3
            have hus : us = List.replicate q.colours.length 0 := by rw [HUU.out, HK.out, List.drop_length, List.append_nil]
            refine ⟨?_, ⟨oPut (setF (bitsOf (whites q.colours))) os.length os, ?_⟩, ?_⟩
            · rw [hF]
              refine ret_int ?_
              simp only [hwt]
              rw [hmap]
              first | rw [hfr] | rw [hml, hfr]
            · rw [hF]
              have e : (⟨dropM q.store (whites q.colours), List.replicate q.colours.length 0, false⟩ : PaintM) = ⟨⟨(oPut (setF (bitsOf (whites q.colours))) os.length os).map (·.c), q.store.roots⟩, us, false⟩ := by
                rw [hdr, hmap, hus]; rfl
              rw [e]
              exact hPf
            · refine (hOn2.out.mono fun b hb => ?_).trans ?_
              · rcases List.mem_cons.1 hb with rfl | hb
                · exact List.mem_cons_self
                · exact List.mem_cons_of_mem _ (List.mem_append.2 (.inr hb))
              · have o1 : Only (w1.heap.size :: g :: (blk A ++ blk A2)) (w1.alloc (.cells #[.int .u64 0] 100)) w3 := HO0.out.trans (hOn3.mono fun b hb => by simp [hb])
                have o2 : Only (g :: (blk A ++ blk A2)) w1 (w1.alloc (.cells #[.int .u64 0] 100)) := (Only.refl _ _).alloc _
                exact ⟨o1.os.trans o2.os, o1.tape.trans o2.tape, o1.output.trans o2.output, Nat.le_trans o2.size o1.size, fun k hk hn => (o1.block k (by simp; omega) (fun hc => by rcases List.mem_cons.1 hc with rfl | hc; omega; exact hn hc)).trans (o2.block k hk hn)⟩
      · have HS := Lib.hid hs
        go_wp2_with (go_at_call 70; refine (pstep_any lo g q A A' A2 c c' c2 os _ hP b1 b2 b3 b4).mono ?_; rw [hs]; rintro e w1 ⟨rfl, hP1, hOn1⟩)
        go_roundg (muP (stepP q).1.colours)
        case rel => exact ⟨_, hP1, paintM_step HQ.out, (endP_step HS.out).symm.trans HE.out, ⟨by rw [stepP_act]; exact HT.out.1, by rw [(stepP_len q).1]; exact HT.out.2⟩, rfl, hOn.trans hOn1⟩
        case measure => exact stepP_mu HS.out
set_option maxHeartbeats 4000000 in
theorem implPaintFinish_any (v : Value) (p : PaintM) (w : World) (hv : RPt w v p) :
    Calls Try.prog 33 #[v] w fun e w' => ∃ v', e = .returned (.tuple #[v', .int .i64 (paintFinishM p).2]) ∧ OPt w.heap.size w' v' (paintFinishM p).1 ∧ Below w.heap.size w w' := by
  have hv0 := hv
  obtain ⟨A, c, A', c', A2, c2, rfl, -, -, -⟩ := hv
  cases hva : paintM p
  · have HV := Lib.hid hva
    go_enter Try.func33, Try.ntmps33
    go_wp2_with (go_at_call 16; refine (implPaintValid_any _ p _ (hv0.below blw_)).mono ?_; rw [HV.out]; rintro e w1 ⟨rfl, hB1⟩; obtain ⟨hbc, hbf, hbz⟩ := bcell hB1; have z0w1 : w.heap.size < w1.heap.size := (by (try simp at hbz); omega); have z1w1 : w.heap.size + 1 < w1.heap.size := (by (try simp at hbz); omega))
    refine bodyPost_ret (v := .tuple #[.agg #[.slice none 0 0, .slice none 0 0, .slice none 0 0, .bool false], .int .i64 (-1)]) (by simp [results, Try.results33, go_sem, hbc]) rfl ⟨_, by unfold paintFinishM; rw [HV.out]; rfl, ?_, blw_⟩
    unfold paintFinishM
    rw [HV.out]
    exact OPt.zero
  · obtain ⟨v1, v2, v3, v4, v5, v6⟩ := paint_small hva
    have HV := Lib.hid hva
    have HV3 := Lib.hid v3
    clear hva v3 v5 v6
    go_enter Try.func33, Try.ntmps33
    go_wp2_with (go_at_call 16; refine (implPaintValid_any _ p _ (hv0.below blw_)).mono ?_; rw [HV.out]; rintro e w1 ⟨rfl, hB1⟩; obtain ⟨hbc, hbf, hbz⟩ := bcell hB1; have z0w1 : w.heap.size < w1.heap.size := (by (try simp at hbz); omega); have z1w1 : w.heap.size + 1 < w1.heap.size := (by (try simp at hbz); omega); have HB1 : Below w.heap.size w w1 := blw_; have MC : Hid (∀ o, o < 3 → w1.cell? ⟨w.heap.size + 1, o, none⟩ = some (.slice none 0 0)) := (fun o ho => by rw [hbc _ _ (by first | omega | (simp; done) | (simp; omega))]; rcases (by omega : o = 0 ∨ o = 1 ∨ o = 2) with rfl | rfl | rfl <;> simp [go_sem]); have m3 : w1.cell? ⟨w.heap.size + 1, 3, none⟩ = some (.bool false) := (by rw [hbc _ _ (by first | omega | (simp; done) | (simp; omega))]; simp [go_sem]); have MF : Hid (∀ o, w1.frozen? ⟨w.heap.size + 1, o, none⟩ = false) := (fun o => by rw [hbf _ _ (by first | omega | (simp; done) | (simp; omega))]; simp [go_sem]))
    refine (copyPaint_any _ p _ (hv0.below HB1) (by omega) (fun d hd => Nat.le_trans (HV3.out d hd) (by omega)) (by omega) (by omega)).mono ?_
    rintro e w2 ⟨v2, rfl, ho, hB2⟩
    obtain ⟨B, d, B', d', os, B2, d2, rfl, hm, hO, hC, hnd, hlo, hcl⟩ := ho
    have hz1 := HB1.size
    have hz2 := hB2.size
    have hP := PPx.mk_ hm hO hC hnd hlo hcl hz2 28
    have hB3 : Below w1.heap.size w1 (w2.alloc (.cells #[.slice B p.store.cells.length d, .slice B' p.store.roots.length d', .slice B2 p.colours.length d2, .bool p.active] 28)) := blw_
    go_wp2_with fail
    refine (finish_any w1.heap.size _ p B B' B2 d d' d2 os _ hP HV.out).mono ?_
    rintro e w4 ⟨rfl, ⟨os4, hP4⟩, hOn⟩
    have hB4 : Below w1.heap.size w1 w4 := hB3.trans (hOn.below (by simp; omega) (fun b hb => by rcases List.mem_cons.1 hb with rfl | hb; exact hz2; rcases List.mem_append.1 hb with hb | hb; exact hlo b (List.mem_append.2 (.inl (List.mem_append.2 (.inl (List.mem_append.2 (.inl hb)))))); exact hlo b (List.mem_append.2 (.inr hb))))
    have n0 := cell_below (MC.out 0 (by omega)) hB4
    have n1 := cell_below (MC.out 1 (by omega)) hB4
    have n2 := cell_below (MC.out 2 (by omega)) hB4
    have n3 := cell_below m3 hB4
    have nf : ∀ o, w4.frozen? ⟨w.heap.size + 1, o, none⟩ = false := fun o => ((bcell hB4).2.1 _ _ (by omega)).trans (MF.out o)
    have nf0 := nf 0
    have nf1 := nf 1
    have nf2 := nf 2
    have nf3 := nf 3
    have hw4 : Below w.heap.size w w4 := HB1.trans (hB4.mono hz1)
    have q0 := hP4.q0
    have q1 := hP4.q1
    have q2 := hP4.q2
    have q3 := hP4.q3
    have HP4 := Lib.hid hP4
    clear hB1 hbc hbf nf hP hP4 hB2 hB3 hOn
    go_wp2
    refine bodyPost_ret (v := .tuple #[.agg #[.slice B (finishP p).1.store.cells.length d, .slice B' (finishP p).1.store.roots.length d', .slice B2 (finishP p).1.colours.length d2, .bool (finishP p).1.active], .int .i64 (finishP p).2]) (by simp [results, Try.results33, go_sem, n0, n1, n2, n3]) rfl ⟨_, by unfold paintFinishM; rw [HV.out, if_pos rfl], ?_, (((hw4.setCell (by simp) _).setCell (by simp) _).setCell (by simp) _).setCell (by simp) _⟩
    unfold paintFinishM
    rw [HV.out, if_pos rfl]
    exact (((((HP4.out.opt).setlt (by simp; omega) _).setlt (by simp; omega) _).setlt (by simp; omega) _).setlt (by simp; omega) _).lo_ (by omega)
end Go.Proofs.Ytopbngfghpgbnaa
