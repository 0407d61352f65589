/- Texts of one family, one behind the other: FreeC. -/
import Derived.Test.YtngmkflmjjkjaaaChecked
import Derived.Test.YtngmkflmjjkjaaaDataO
import Derived.Test.YtngmkflmjjkjaaaGrCopy
/- Freeing cells: the program's freeCells frees the used cells of a set, the reference's l11Drop returns a copy without the dead cells. -/
namespace Go.Proofs.Ytngmkflmjjkjaaa
open Go.RowKit
set_option maxRecDepth 100000
set_option linter.unusedSimpArgs false
set_option linter.unusedVariables false
set_option maxHeartbeats 4000000 in
theorem freeCells_any (g : Nat) (A : Option Addr) (c : Nat) (os : List OCell) (s : Nat) (w : World) (h0 : w.cell? ⟨g, 0, none⟩ = some (.slice A os.length c)) (hO : OC w A c os) (hg : g ∉ blk A) (hn : os.length ≤ 64) (hs : s < 18446744073709551616) :
    Calls Try.prog 121 #[.pointer (some ⟨g, 0, none⟩), .int .u64 (s : Int)] w fun e w' => e = .returned (.int .i64 (freeN s (os.map (·.c)) os.length)) ∧ OC w' A c (oPut (setF s) os.length os) ∧ Only (blk A) w w' := by
  go_enter Try.func121, Try.ntmps121
  go_wp2
  go_loopw [12, 5] (fun i n wr => ∃ (j : Nat), j ≤ os.length ∧ i = .int .i64 j ∧ n = .int .i64 (freeN s (os.map (·.c)) j) ∧ OC wr A c (oPut (setF s) j os) ∧ Only (blk A) w wr) (fun i _ _ => os.length - (intOf i).toNat)
  case atStart => exact ⟨0, by omega, rfl, rfl, by rw [oPut_zero]; exact hO, Only.refl _ _⟩
  case round =>
    obtain ⟨j, hj, rfl, rfl, hC, hOn⟩ := hrel
    have k0 := hOn.cell h0 hg
    by_cases hlt : j < os.length
    · have ho := List.getElem?_eq_getElem (l := os) (i := j) hlt
      have ho2 : (oPut (setF s) j os)[j]? = some os[j] := by rw [oPut_at ho, if_neg (by omega)]
      obtain ⟨b, rfl, d0, d1, d2, hb⟩ := hC.at_ ho2
      have hlen : (oPut (setF s) j os).length = os.length := oPut_len _ _ _
      have hbt := hasB_nat s j
      have hgb : g ≠ b := fun e => hg (by simp [blk, e])
      have hgb2 : b ≠ g := fun e => hgb e.symm
      have hfn := freeN_le s (os.map (·.c)) j
      have hus : usedN (os.map (·.c)) j = os[j].c.used := usedN_at (by rw [List.getElem?_map, ho]; rfl)
      have hsucc := freeN_succ s (os.map (·.c)) j
      rw [hus] at hsucc
      have HC := Lib.hid hC
      have HS := Lib.hid hsucc
      have HF1 : Hid (∀ hf : (s.testBit j && os[j].c.used) = false, oPut (setF s) (j + 1) os = oPut (setF s) j os) := fun hf => oPut_same ho hf
      have HF2 : Hid (∀ hf : (s.testBit j && os[j].c.used) = true, oPut (setF s) (j + 1) os = (oPut (setF s) j os).set j zeroO) := fun hf => oPut_hit ho hf
      have f0 := hC.frozen (j * 3)
      have f1 := hC.frozen (j * 3 + 1)
      have f2 := hC.frozen (j * 3 + 2)
      have HL := Lib.hid hlen
      obtain ⟨o, ho'⟩ : ∃ o, o = os[j] := ⟨_, rfl⟩
      rw [← ho'] at d0 d1 d2 HS HF1 HF2
      clear ho ho2 hus hsucc ho' hC hlen
      rcases bool_ft (s.testBit j) with hb1 | hb1
      · rw [hb1] at hbt HS HF1
        go_wp2_with (go_at_call 111; refine (has_any s _ _ (by omega) hs).mono ?_; rw [hbt]; rintro e w1 ⟨rfl, rfl⟩)
        go_roundw
        case rel => exact ⟨j + 1, by omega, by go_num, by rw [HS.out]; rfl, by rw [HF1.out rfl]; exact HC.out, hOn⟩
        case measure => simp [intOf]; omega
      rw [hb1] at hbt HS HF1 HF2
      rcases bool_ft o.c.used with hu | hu
      · rw [hu] at HS HF1 d0
        go_wp2_with (go_at_call 111; refine (has_any s _ _ (by omega) hs).mono ?_; rw [hbt]; rintro e w1 ⟨rfl, rfl⟩)
        go_roundw
        case rel => exact ⟨j + 1, by omega, by go_num, by rw [HS.out]; rfl, by rw [HF1.out rfl]; exact HC.out, hOn⟩
        case measure => simp [intOf]; omega
      · rw [hu] at HS d0 HF2
        go_wp2_with (go_at_call 111; refine (has_any s _ _ (by omega) hs).mono ?_; rw [hbt]; rintro e w1 ⟨rfl, rfl⟩)
        go_roundw
        case rel => exact ⟨j + 1, by omega, by go_num, by rw [HS.out]; simp, by rw [HF2.out rfl]; exact HC.out.set_ j zeroO (by rw [HL.out]; exact hlt) OF.nil (by simp [zeroO, freeCell]), ((hOn.setCell (.inl (by simp [blk])) _).setCell (.inl (by simp [blk])) _).setCell (.inl (by simp [blk])) _⟩
        case measure => simp [intOf]; omega
    · have hke : j = os.length := by omega
      have HK := Lib.hid hke
      clear hke
      go_wp2
      go_ret
      exact ⟨by rw [HK.out]; rfl, by rw [← HK.out]; exact hC, hOn⟩
set_option maxHeartbeats 4000000 in
theorem l11Drop_any (v : Value) (h : HeapM) (A2 : Option Addr) (dead : List Bool) (c2 : Nat) (w : World) (hv : RH w v h) (hd : RF fb w A2 dead) (hl : dead.length = h.cells.length) (hn : h.cells.length ≤ 1048576) (hr : ∀ d ∈ h.cells, d.refs.length ≤ 1048576) (hn2 : h.roots.length ≤ 1048576) :
    Calls Try.prog 122 #[v, .slice A2 dead.length c2] w fun e w' => ∃ v', e = .returned v' ∧ OH w.heap.size w' v' (dropM h dead) ∧ Below w.heap.size w w' := by
  have hv0 := hv
  obtain ⟨A, c, A', c', rfl, hc, hrr, hl1, hl2⟩ := hv
  have HL := Lib.hid hl
  have hdn : dead.length ≤ 1048576 := by omega
  clear hl
  go_enter Try.func122, Try.ntmps122
  go_wp2_with (go_at_call 68; refine (l7Copy_any _ h _ (hv0.below (by repeat (first | ((with_reducible refine Below.setc ?_ ?_ _); focus (first | omega | (simp; done) | (simp; omega))) | ((with_reducible refine Below.allocc ?_ ?_ _); focus (first | omega | (simp; done) | (simp; omega))) | (with_reducible refine Below.drew ?_) | (with_reducible refine Below.drewn ?_) | (with_reducible assumption) | (with_reducible exact Below.refl _ _) | ((with_reducible refine Below.stepp (by with_reducible assumption) ?_ ?_); focus (first | omega | (simp; done) | (simp; omega)))))) hn hr hn2).mono ?_; rintro e w1 ⟨v1, rfl, hH, hB1⟩; obtain ⟨hbc, hbf, hbz⟩ := bcell hB1; have z0w1 : w.heap.size < w1.heap.size := (by (try simp at hbz); omega); have z1w1 : w.heap.size + 1 < w1.heap.size := (by (try simp at hbz); omega); obtain ⟨B, d, B', d', os, rfl, hm, hO, hlo⟩ := hH; have HB1 : Below w.heap.size w w1 := (by repeat (first | ((with_reducible refine Below.setc ?_ ?_ _); focus (first | omega | (simp; done) | (simp; omega))) | ((with_reducible refine Below.allocc ?_ ?_ _); focus (first | omega | (simp; done) | (simp; omega))) | (with_reducible refine Below.drew ?_) | (with_reducible refine Below.drewn ?_) | (with_reducible assumption) | (with_reducible exact Below.refl _ _) | ((with_reducible refine Below.stepp (by with_reducible assumption) ?_ ?_); focus (first | omega | (simp; done) | (simp; omega))))); have n0 : w1.cell? ⟨w.heap.size + 1, 0, none⟩ = some (.slice none 0 0) := (by rw [hbc _ _ (by first | omega | (simp; done) | (simp; omega))]; simp [go_sem]); have n1 : w1.cell? ⟨w.heap.size + 1, 1, none⟩ = some (.slice none 0 0) := (by rw [hbc _ _ (by first | omega | (simp; done) | (simp; omega))]; simp [go_sem]); have MF : Hid (∀ o, w1.frozen? ⟨w.heap.size + 1, o, none⟩ = false) := (fun o => by rw [hbf _ _ (by first | omega | (simp; done) | (simp; omega))]; simp [go_sem]))
  have hml : os.length = h.cells.length := by have := congrArg List.length hm; simpa using this
  have HO := Lib.hid (hO.below (w' := ((w1.alloc (.cells #[.slice B h.cells.length d, .slice B' h.roots.length d'] 28)))) (by repeat (first | ((with_reducible refine Below.setc ?_ ?_ _); focus (first | omega | (simp; done) | (simp; omega))) | ((with_reducible refine Below.allocc ?_ ?_ _); focus (first | omega | (simp; done) | (simp; omega))) | (with_reducible refine Below.drew ?_) | (with_reducible refine Below.drewn ?_) | (with_reducible assumption) | (with_reducible exact Below.refl _ _) | ((with_reducible refine Below.stepp (by with_reducible assumption) ?_ ?_); focus (first | omega | (simp; done) | (simp; omega))))))
  have HM := Lib.hid hm
  have HML := Lib.hid hml
  have HDR : Hid (∀ W, Below w.heap.size w W → RF fb W A2 dead) := fun W hW => hd.below hW
  have hg : w1.heap.size ∉ blk B := fun hc => by have := hO.lt _ (List.mem_append.2 (.inl (List.mem_append.2 (.inl hc)))); omega
  have hBlo : ∀ b ∈ blk B, w.heap.size + 2 ≤ b := fun b hb => by have := hlo b (List.mem_append.2 (.inl (List.mem_append.2 (.inl hb)))); simp at this; omega
  have hlo2 : ∀ b ∈ hblks B os B', w.heap.size + 2 ≤ b := fun b hb => by have := hlo b hb; simp at this; omega
  have HLO := Lib.hid hlo2
  clear hB1 hbc hbf hO hm hml hlo hlo2 hc hrr hd
  go_wp2
  go_loopw [6] (fun i wr => ∃ (j : Nat), j ≤ dead.length ∧ i = .int .i64 j ∧ OC wr B d (oPut (deadF dead) j os) ∧ Only (blk B) ((w1.alloc (.cells #[.slice B h.cells.length d, .slice B' h.roots.length d'] 28))) wr) (fun i _ => dead.length - (intOf i).toNat)
  case atStart => exact ⟨0, by omega, rfl, by rw [oPut_zero]; exact HO.out.cells, Only.refl _ _⟩
  case round =>
    obtain ⟨j, hj, rfl, hC, hOn⟩ := hrel
    have q0 := hOn.cell (p := ⟨w1.heap.size, 0, none⟩) (v := .slice B h.cells.length d) (by simp [go_sem]) hg
    have hB4 : Below w1.heap.size w1 ((w1.alloc (.cells #[.slice B h.cells.length d, .slice B' h.roots.length d'] 28))) := (by repeat (first | ((with_reducible refine Below.setc ?_ ?_ _); focus (first | omega | (simp; done) | (simp; omega))) | ((with_reducible refine Below.allocc ?_ ?_ _); focus (first | omega | (simp; done) | (simp; omega))) | (with_reducible refine Below.drew ?_) | (with_reducible refine Below.drewn ?_) | (with_reducible assumption) | (with_reducible exact Below.refl _ _) | ((with_reducible refine Below.stepp (by with_reducible assumption) ?_ ?_); focus (first | omega | (simp; done) | (simp; omega)))))
    have hwr : Below w.heap.size w wr := (HB1.trans (hB4.mono HB1.size)).trans (hOn.below (by have := HB1.size; simp; omega) (fun b hb => by have := hBlo b hb; omega))
    by_cases hlt : j < dead.length
    · obtain ⟨b2, o2, x, rfl, gx, c1, hb2⟩ := (HDR.out wr hwr).at_ hlt
      have c1' : wr.cell? ⟨b2, o2 + j, none⟩ = some (.bool x) := c1
      have hjo : j < os.length := by rw [HML.out, ← HL.out]; exact hlt
      have ho := List.getElem?_eq_getElem (l := os) (i := j) hjo
      have ho2 : (oPut (deadF dead) j os)[j]? = some os[j] := by rw [oPut_at ho, if_neg (by omega)]
      have hf : deadF dead j os[j] = x := getD_of gx
      have hlen : j < h.cells.length := by rw [← HML.out]; exact hjo
      rcases bool_ft x with rfl | rfl
      · have HS := Lib.hid (oPut_same ho hf)
        clear gx c1 ho ho2 hf
        go_wp2
        go_roundw
        case rel => exact ⟨j + 1, by omega, by go_num, by rw [HS.out]; exact hC, hOn⟩
        case measure => simp [intOf]; omega
      · have HS := Lib.hid (oPut_hit ho hf)
        obtain ⟨b, rfl, d0, d1, d2, hb⟩ := hC.at_ ho2
        have HC := Lib.hid hC
        have f0 := hC.frozen (j * 3)
        have f1 := hC.frozen (j * 3 + 1)
        have f2 := hC.frozen (j * 3 + 2)
        have hgb : w1.heap.size ≠ b := fun e => hg (by simp [blk, e])
        have hgb2 : b ≠ w1.heap.size := fun e => hgb e.symm
        have hpl : j < (oPut (deadF dead) j os).length := by rw [oPut_len]; exact hjo
        have HPL := Lib.hid hpl
        generalize os[j] = oo at *
        clear gx c1 ho ho2 hf hC hpl
        go_wp2
        go_roundw
        case rel => exact ⟨j + 1, by omega, by go_num, by rw [HS.out]; exact HC.out.set_ j zeroO HPL.out OF.nil (by simp [zeroO, freeCell]), ((hOn.setCell (.inl (by simp [blk])) _).setCell (.inl (by simp [blk])) _).setCell (.inl (by simp [blk])) _⟩
        case measure => simp [intOf]; omega
    · have hke : j = dead.length := by omega
      have HK := Lib.hid hke
      have q1 := hOn.cell (p := ⟨w1.heap.size, 1, none⟩) (v := .slice B' h.roots.length d') (by simp [go_sem]) hg
      have hw1r : Below w1.heap.size w1 wr ∨ True := .inr trivial
      have hnr : ∀ o, w.heap.size + 1 < w1.heap.size → wr.cell? ⟨w.heap.size + 1, o, none⟩ = w1.cell? ⟨w.heap.size + 1, o, none⟩ := fun o ho => by
        rw [hOn.cellAt _ _ (by simp; omega) (fun hc => by have := hBlo _ hc; omega)]
        exact hB4.cell (p := ⟨w.heap.size + 1, o, none⟩) (by simpa using ho)
      have hnfr : ∀ o, w.heap.size + 1 < w1.heap.size → wr.frozen? ⟨w.heap.size + 1, o, none⟩ = w1.frozen? ⟨w.heap.size + 1, o, none⟩ := fun o ho => by
        rw [hOn.frozenAt _ _ (by simp; omega) (fun hc => by have := hBlo _ hc; omega)]
        exact hB4.frozen (p := ⟨w.heap.size + 1, o, none⟩) (by simpa using ho)
      have m0 := (hnr 0 (by omega)).trans n0
      have m1 := (hnr 1 (by omega)).trans n1
      have mf0 := (hnfr 0 (by omega)).trans (MF.out 0)
      have mf1 := (hnfr 1 (by omega)).trans (MF.out 1)
      have HC := Lib.hid hC
      clear hke hC hnr hnfr hw1r n0 n1
      go_wp2
      refine bodyPost_ret (v := .agg #[.slice B h.cells.length d, .slice B' h.roots.length d']) (by simp [results, Try.results122, go_sem, m0, m1]) rfl ⟨_, rfl, ?_, (hwr.setCell (by simp) _).setCell (by simp) _⟩
      have hfin : OHs wr B d B' d' (oPut (deadF dead) os.length os) h.roots := HO.out.put_ (by have := HC.out; rw [HK.out, HL.out, ← HML.out] at this; exact this) (oPut_blks _ _ _ (Nat.le_refl _)) (oPut_len _ _ _) hOn
      have hlen2 : (dropM h dead).cells.length = h.cells.length := dropCs_len HL.out
      have hsub : ∀ b ∈ hblks B (oPut (deadF dead) os.length os) B', b ∈ hblks B os B' := fun b hb => by
        have hs := (oPut_blks (deadF dead) os _ (Nat.le_refl _)).subset
        simp only [hblks, List.mem_append] at hb ⊢
        rcases hb with (hb | hb) | hb
        · exact .inl (.inl hb)
        · exact .inl (.inr (hs hb))
        · exact .inr hb
      refine ⟨B, d, B', d', oPut (deadF dead) os.length os, by rw [hlen2]; rfl, ?_, ?_, fun b hb => by have := HLO.out b (hsub b hb); omega⟩
      · rw [oPut_drop (by rw [HL.out, HML.out]), HM.out]; rfl
      · exact hfin.keep fun b hb => by have := HLO.out b (hsub b hb); rw [heap_setCell_ne _ _ _ (by first | omega | (simp; done) | (simp; omega)), heap_setCell_ne _ _ _ (by first | omega | (simp; done) | (simp; omega))]
end Go.Proofs.Ytngmkflmjjkjaaa
