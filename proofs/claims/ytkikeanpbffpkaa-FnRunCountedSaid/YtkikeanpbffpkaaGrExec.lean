/- Texts of one family, one behind the other: FreeC, Exec, ExecI, ExecN, ExecA. -/
import Derived.Test.YtkikeanpbffpkaaChecked
import Derived.Test.YtkikeanpbffpkaaDataO
import Derived.Test.YtkikeanpbffpkaaGrCopy
import Derived.Deep.RegionHeld3
import Derived.Deep.DeepCutAuto
import Derived.Test.YtkikeanpbffpkaaGrCmd
import Derived.Test.YtkikeanpbffpkaaGrOwn
/- Freeing cells: the program's freeCells frees the used cells of a set, the reference's l11Drop returns a copy without the dead cells. -/
namespace Go.Proofs.Ytkikeanpbffpkaa
open Go.RowKit
set_option maxRecDepth 100000
set_option linter.unusedSimpArgs false
set_option linter.unusedVariables false
set_option maxHeartbeats 4000000 in
theorem freeCells_any (g : Nat) (A : Option Addr) (c : Nat) (os : List OCell) (s : Nat) (w : World) (h0 : w.cell? ⟨g, 0, none⟩ = some (.slice A os.length c)) (hO : OC w A c os) (hg : g ∉ blk A) (hn : os.length ≤ 64) (hs : s < 18446744073709551616) :
    Calls Try.prog 55 #[.pointer (some ⟨g, 0, none⟩), .int .u64 (s : Int)] w fun e w' => e = .returned (.int .i64 (freeN s (os.map (·.c)) os.length)) ∧ OC w' A c (oPut (setF s) os.length os) ∧ Only (blk A) w w' := by
  go_enter Try.func55, Try.ntmps55
  go_wp2
  go_loopw [12, 5] (fun i n wr => ∃ (j : Nat), j ≤ os.length ∧ i = .int .i64 j ∧ n = .int .i64 (freeN s (os.map (·.c)) j) ∧ OC wr A c (oPut (setF s) j os) ∧ Only (blk A) w wr) (fun i _ _ => os.length - (intOf i).toNat)
  case atStart => exact ⟨0, by omega, rfl, rfl, by rw [oPut_zero]; exact hO, Only.refl _ _⟩
  case round =>
    obtain ⟨j, hj, rfl, rfl, hC, hOn⟩ := hrel
    have k0 := hOn.cell h0 hg
    by_cases hlt : j < os.length
    · have ho := List.getElem?_eq_getElem (l := os) (i := j) hlt
      have ho2 : (oPut (setF s) j os)[j]? = some os[j] := by rw [oPut_at ho, if_neg (by omega)]
      obtain ⟨b, rfl, d0, d1, d2, hb⟩ := hC.at_ ho2
      have hlen : (oPut (setF s) j os).length = os.length := oPut_len _ _ _
      have hbt := hasB_nat s j
      have hgb : g ≠ b := fun e => hg (by simp [blk, e])
      have hgb2 : b ≠ g := fun e => hgb e.symm
      have hfn := freeN_le s (os.map (·.c)) j
      have hus : usedN (os.map (·.c)) j = os[j].c.used := usedN_at (by rw [List.getElem?_map, ho]; rfl)
      have hsucc := freeN_succ s (os.map (·.c)) j
      rw [hus] at hsucc
      have HC := Lib.hid hC
      have HS := Lib.hid hsucc
      have HF1 : Hid (∀ hf : (s.testBit j && os[j].c.used) = false, oPut (setF s) (j + 1) os = oPut (setF s) j os) := fun hf => oPut_same ho hf
      have HF2 : Hid (∀ hf : (s.testBit j && os[j].c.used) = true, oPut (setF s) (j + 1) os = (oPut (setF s) j os).set j zeroO) := fun hf => oPut_hit ho hf
      have f0 := hC.frozen (j * 3)
      have f1 := hC.frozen (j * 3 + 1)
      have f2 := hC.frozen (j * 3 + 2)
      have HL := Lib.hid hlen
      obtain ⟨o, ho'⟩ : ∃ o, o = os[j] := ⟨_, rfl⟩
      rw [← ho'] at d0 d1 d2 HS HF1 HF2
      clear ho ho2 hus hsucc ho' hC hlen
      rcases bool_ft (s.testBit j) with hb1 | hb1
      · rw [hb1] at hbt HS HF1
        go_wp2_with (go_at_call 54; refine (has_any s _ _ (by omega) hs).mono ?_; rw [hbt]; rintro e w1 ⟨rfl, rfl⟩)
        go_roundw
        case rel => exact ⟨j + 1, by omega, by go_num, by rw [HS.out]; rfl, by rw [HF1.out rfl]; exact HC.out, hOn⟩
        case measure => simp [intOf]; omega
      rw [hb1] at hbt HS HF1 HF2
      rcases bool_ft o.c.used with hu | hu
      · rw [hu] at HS HF1 d0
        go_wp2_with (go_at_call 54; refine (has_any s _ _ (by omega) hs).mono ?_; rw [hbt]; rintro e w1 ⟨rfl, rfl⟩)
        go_roundw
        case rel => exact ⟨j + 1, by omega, by go_num, by rw [HS.out]; rfl, by rw [HF1.out rfl]; exact HC.out, hOn⟩
        case measure => simp [intOf]; omega
      · rw [hu] at HS d0 HF2
        go_wp2_with (go_at_call 54; refine (has_any s _ _ (by omega) hs).mono ?_; rw [hbt]; rintro e w1 ⟨rfl, rfl⟩)
        go_roundw
        case rel => exact ⟨j + 1, by omega, by go_num, by rw [HS.out]; simp, by rw [HF2.out rfl]; exact HC.out.set_ j zeroO (by rw [HL.out]; exact hlt) OF.nil (by simp [zeroO, freeCell]), ((hOn.setCell (.inl (by simp [blk])) _).setCell (.inl (by simp [blk])) _).setCell (.inl (by simp [blk])) _⟩
        case measure => simp [intOf]; omega
    · have hke : j = os.length := by omega
      have HK := Lib.hid hke
      clear hke
      go_wp2
      go_ret
      exact ⟨by rw [HK.out]; rfl, by rw [← HK.out]; exact hC, hOn⟩
set_option maxHeartbeats 4000000 in
theorem l11Drop_any (v : Value) (h : HeapM) (A2 : Option Addr) (dead : List Bool) (c2 : Nat) (w : World) (hv : RH w v h) (hd : RF fb w A2 dead) (hl : dead.length = h.cells.length) (hn : h.cells.length ≤ 1048576) (hr : ∀ d ∈ h.cells, d.refs.length ≤ 1048576) (hn2 : h.roots.length ≤ 1048576) :
    Calls Try.prog 99 #[v, .slice A2 dead.length c2] w fun e w' => ∃ v', e = .returned v' ∧ OH w.heap.size w' v' (dropM h dead) ∧ Below w.heap.size w w' := by
  have hv0 := hv
  obtain ⟨A, c, A', c', rfl, hc, hrr, hl1, hl2⟩ := hv
  have HL := Lib.hid hl
  have hdn : dead.length ≤ 1048576 := by omega
  clear hl
  go_enter Try.func99, Try.ntmps99
  go_wp2_with (go_at_call 35; refine (l7Copy_any _ h _ (hv0.below blw_) hn hr hn2).mono ?_; rintro e w1 ⟨v1, rfl, hH, hB1⟩; obtain ⟨hbc, hbf, hbz⟩ := bcell hB1; have z0w1 : w.heap.size < w1.heap.size := (by (try simp at hbz); omega); have z1w1 : w.heap.size + 1 < w1.heap.size := (by (try simp at hbz); omega); obtain ⟨B, d, B', d', os, rfl, hm, hO, hlo⟩ := hH; have HB1 : Below w.heap.size w w1 := blw_; have n0 : w1.cell? ⟨w.heap.size + 1, 0, none⟩ = some (.slice none 0 0) := (by rw [hbc _ _ (by first | omega | (simp; done) | (simp; omega))]; simp [go_sem]); have n1 : w1.cell? ⟨w.heap.size + 1, 1, none⟩ = some (.slice none 0 0) := (by rw [hbc _ _ (by first | omega | (simp; done) | (simp; omega))]; simp [go_sem]); have MF : Hid (∀ o, w1.frozen? ⟨w.heap.size + 1, o, none⟩ = false) := (fun o => by rw [hbf _ _ (by first | omega | (simp; done) | (simp; omega))]; simp [go_sem]))
  have hml : os.length = h.cells.length := by have := congrArg List.length hm; simpa using this
  have HO := Lib.hid (hO.below (w' := ((w1.alloc (.cells #[.slice B h.cells.length d, .slice B' h.roots.length d'] 26)))) blw_)
  have HM := Lib.hid hm
  have HML := Lib.hid hml
  have HDR : Hid (∀ W, Below w.heap.size w W → RF fb W A2 dead) := fun W hW => hd.below hW
  have hg : w1.heap.size ∉ blk B := fun hc => by have := hO.lt _ (List.mem_append.2 (.inl (List.mem_append.2 (.inl hc)))); omega
  have hBlo : ∀ b ∈ blk B, w.heap.size + 2 ≤ b := fun b hb => by have := hlo b (List.mem_append.2 (.inl (List.mem_append.2 (.inl hb)))); simp at this; omega
  have hlo2 : ∀ b ∈ hblks B os B', w.heap.size + 2 ≤ b := fun b hb => by have := hlo b hb; simp at this; omega
  have HLO := Lib.hid hlo2
  clear hB1 hbc hbf hO hm hml hlo hlo2 hc hrr hd
  go_wp2
  go_loopw [6] (fun i wr => ∃ (j : Nat), j ≤ dead.length ∧ i = .int .i64 j ∧ OC wr B d (oPut (deadF dead) j os) ∧ Only (blk B) ((w1.alloc (.cells #[.slice B h.cells.length d, .slice B' h.roots.length d'] 26))) wr) (fun i _ => dead.length - (intOf i).toNat)
  case atStart => exact ⟨0, by omega, rfl, by rw [oPut_zero]; exact HO.out.cells, Only.refl _ _⟩
  case round =>
    obtain ⟨j, hj, rfl, hC, hOn⟩ := hrel
    have q0 := hOn.cell (p := ⟨w1.heap.size, 0, none⟩) (v := .slice B h.cells.length d) (by simp [go_sem]) hg
    have hB4 : Below w1.heap.size w1 ((w1.alloc (.cells #[.slice B h.cells.length d, .slice B' h.roots.length d'] 26))) := blw_
    have hwr : Below w.heap.size w wr := (HB1.trans (hB4.mono HB1.size)).trans (hOn.below (by have := HB1.size; simp; omega) (fun b hb => by have := hBlo b hb; omega))
    by_cases hlt : j < dead.length
    · obtain ⟨b2, o2, x, rfl, gx, c1, hb2⟩ := (HDR.out wr hwr).at_ hlt
      have c1' : wr.cell? ⟨b2, o2 + j, none⟩ = some (.bool x) := c1
      have hjo : j < os.length := by rw [HML.out, ← HL.out]; exact hlt
      have ho := List.getElem?_eq_getElem (l := os) (i := j) hjo
      have ho2 : (oPut (deadF dead) j os)[j]? = some os[j] := by rw [oPut_at ho, if_neg (by omega)]
      have hf : deadF dead j os[j] = x := getD_of gx
      have hlen : j < h.cells.length := by rw [← HML.out]; exact hjo
      rcases bool_ft x with rfl | rfl
      · have HS := Lib.hid (oPut_same ho hf)
        clear gx c1 ho ho2 hf
        go_wp2
        go_roundw
        case rel => exact ⟨j + 1, by omega, by go_num, by rw [HS.out]; exact hC, hOn⟩
        case measure => simp [intOf]; omega
      · have HS := Lib.hid (oPut_hit ho hf)
        obtain ⟨b, rfl, d0, d1, d2, hb⟩ := hC.at_ ho2
        have HC := Lib.hid hC
        have f0 := hC.frozen (j * 3)
        have f1 := hC.frozen (j * 3 + 1)
        have f2 := hC.frozen (j * 3 + 2)
        have hgb : w1.heap.size ≠ b := fun e => hg (by simp [blk, e])
        have hgb2 : b ≠ w1.heap.size := fun e => hgb e.symm
        have hpl : j < (oPut (deadF dead) j os).length := by rw [oPut_len]; exact hjo
        have HPL := Lib.hid hpl
        generalize os[j] = oo at *
        clear gx c1 ho ho2 hf hC hpl
        go_wp2
        go_roundw
        case rel => exact ⟨j + 1, by omega, by go_num, by rw [HS.out]; exact HC.out.set_ j zeroO HPL.out OF.nil (by simp [zeroO, freeCell]), ((hOn.setCell (.inl (by simp [blk])) _).setCell (.inl (by simp [blk])) _).setCell (.inl (by simp [blk])) _⟩
        case measure => simp [intOf]; omega
    · have hke : j = dead.length := by omega
      have HK := Lib.hid hke
      have q1 := hOn.cell (p := ⟨w1.heap.size, 1, none⟩) (v := .slice B' h.roots.length d') (by simp [go_sem]) hg
      have hw1r : Below w1.heap.size w1 wr ∨ True := .inr trivial
      have hnr : ∀ o, w.heap.size + 1 < w1.heap.size → wr.cell? ⟨w.heap.size + 1, o, none⟩ = w1.cell? ⟨w.heap.size + 1, o, none⟩ := fun o ho => by
        rw [hOn.cellAt _ _ (by simp; omega) (fun hc => by have := hBlo _ hc; omega)]
        exact hB4.cell (p := ⟨w.heap.size + 1, o, none⟩) (by simpa using ho)
      have hnfr : ∀ o, w.heap.size + 1 < w1.heap.size → wr.frozen? ⟨w.heap.size + 1, o, none⟩ = w1.frozen? ⟨w.heap.size + 1, o, none⟩ := fun o ho => by
        rw [hOn.frozenAt _ _ (by simp; omega) (fun hc => by have := hBlo _ hc; omega)]
        exact hB4.frozen (p := ⟨w.heap.size + 1, o, none⟩) (by simpa using ho)
      have m0 := (hnr 0 (by omega)).trans n0
      have m1 := (hnr 1 (by omega)).trans n1
      have mf0 := (hnfr 0 (by omega)).trans (MF.out 0)
      have mf1 := (hnfr 1 (by omega)).trans (MF.out 1)
      have HC := Lib.hid hC
      clear hke hC hnr hnfr hw1r n0 n1
      go_wp2
      refine bodyPost_ret (v := .agg #[.slice B h.cells.length d, .slice B' h.roots.length d']) (by simp [results, Try.results99, go_sem, m0, m1]) rfl ⟨_, rfl, ?_, (hwr.setCell (by simp) _).setCell (by simp) _⟩
      have hfin : OHs wr B d B' d' (oPut (deadF dead) os.length os) h.roots := HO.out.put_ (by have := HC.out; rw [HK.out, HL.out, ← HML.out] at this; exact this) (oPut_blks _ _ _ (Nat.le_refl _)) (oPut_len _ _ _) hOn
      have hlen2 : (dropM h dead).cells.length = h.cells.length := dropCs_len HL.out
      have hsub : ∀ b ∈ hblks B (oPut (deadF dead) os.length os) B', b ∈ hblks B os B' := fun b hb => by
        have hs := (oPut_blks (deadF dead) os _ (Nat.le_refl _)).subset
        simp only [hblks, List.mem_append] at hb ⊢
        rcases hb with (hb | hb) | hb
        · exact .inl (.inl hb)
        · exact .inl (.inr (hs hb))
        · exact .inr hb
      refine ⟨B, d, B', d', oPut (deadF dead) os.length os, by rw [hlen2]; rfl, ?_, ?_, fun b hb => by have := HLO.out b (hsub b hb); omega⟩
      · rw [oPut_drop (by rw [HL.out, HML.out]), HM.out]; rfl
      · exact hfin.keep fun b hb => by have := HLO.out b (hsub b hb); rw [heap_setCell_ne _ _ _ (by first | omega | (simp; done) | (simp; omega)), heap_setCell_ne _ _ _ (by first | omega | (simp; done) | (simp; omega))]
end Go.Proofs.Ytkikeanpbffpkaa

/- A heap behind a pointer, and the program's execute. -/
namespace Go.Proofs.Ytkikeanpbffpkaa
open Go.RowKit
set_option maxRecDepth 100000
set_option linter.unusedSimpArgs false
set_option linter.unusedVariables false
theorem flat1_set (os : List OCell) : ∀ (k : Nat) (o : OCell) (d : Int), os[k]? = some o → (os.flatMap cellVals).set (k * 3 + 1) (.int .i64 d) = (os.set k ⟨⟨o.c.used, d, o.c.refs⟩, o.A, o.cap⟩).flatMap cellVals := by
  induction os with
  | nil => intro k o d h; simp at h
  | cons a os ih =>
    intro k o d h
    cases k with
    | zero => simp at h; subst h; simp [cellVals]
    | succ k =>
      have h' := ih k o d (by simpa using h)
      have e : (a :: os).flatMap cellVals = .bool a.c.used :: .int .i64 a.c.data :: .slice a.A a.c.refs.length a.cap :: os.flatMap cellVals := by simp [cellVals]
      have e2 : (a :: os.set k ⟨⟨o.c.used, d, o.c.refs⟩, o.A, o.cap⟩).flatMap cellVals = .bool a.c.used :: .int .i64 a.c.data :: .slice a.A a.c.refs.length a.cap :: (os.set k ⟨⟨o.c.used, d, o.c.refs⟩, o.A, o.cap⟩).flatMap cellVals := by simp [cellVals]
      rw [List.set_cons_succ, e, e2, ← h', show (k + 1) * 3 + 1 = k * 3 + 1 + 1 + 1 + 1 by omega]
      rfl
/-- The number of cell k is stored. -/
theorem OC.set1 {w : World} {c g : Nat} {os : List OCell} (h : OC w (some ⟨g, 0, none⟩) c os) (k : Nat) (o : OCell) (d : Int) (hk : os[k]? = some o) :
    OC (w.setCell ⟨g, k * 3 + 1, none⟩ (.int .i64 d)) (some ⟨g, 0, none⟩) c (os.set k ⟨⟨o.c.used, d, o.c.refs⟩, o.A, o.cap⟩) := by
  have h2 := (World.ownsRow.stored (w := w) h.1 (k * 3 + 1) (.int .i64 d)).1
  rw [flat1_set os k o d hk] at h2
  have key : ∀ {A' : Option Addr} {c' : Nat} {xs : List Int}, OF 3 fi w A' c' xs → OF 3 fi (w.setCell ⟨g, k * 3 + 1, none⟩ (.int .i64 d)) A' c' xs := by
    intro A' c' xs hx
    refine hx.keep fun i hi => ?_
    have hn : i ≠ g := fun e => h.apart hx i hi (by simp [blk, e])
    rw [heap_setCell_ne _ _ _ hn]
  have ho := h.2 o (List.mem_of_getElem? hk)
  refine ⟨by rw [List.length_set]; exact h2, fun o' ho' => ?_⟩
  rcases List.mem_or_eq_of_mem_set ho' with ho' | rfl
  · exact ⟨key (h.2 o' ho').1, (h.2 o' ho').2⟩
  · exact ⟨key ho.1, ho.2⟩
theorem mk_nd0 {A A' : Option Addr} {os : List OCell} (h : (blk A ++ blks os ++ blk A').Nodup) : (blks os).Nodup := by
  simp only [List.nodup_append] at h
  exact h.1.2.1
/-- A heap in memory, behind a pointer, all of the call's own. -/
structure PHx (lo : Nat) (w : World) (g : Nat) (h : HeapM) (A : Option Addr) (c : Nat) (A' : Option Addr) (c' : Nat) (os : List OCell) : Prop where
  q0 : w.cell? ⟨g, 0, none⟩ = some (.slice A h.cells.length c)
  q1 : w.cell? ⟨g, 1, none⟩ = some (.slice A' h.roots.length c')
  qf : ∀ o, w.frozen? ⟨g, o, none⟩ = false
  lo_ : lo ≤ g
  lt : g < w.heap.size
  apart : g ∉ hblks A os A'
  map : os.map (·.c) = h.cells
  own : OHs w A c A' c' os h.roots
  los : ∀ b ∈ hblks A os A', lo ≤ b
section
variable {lo : Nat} {w w' : World} {g : Nat} {h : HeapM} {A A' : Option Addr} {c c' : Nat} {os : List OCell}
theorem PHx.oh (p : PHx lo w g h A c A' c' os) : OH lo w (.agg #[.slice A h.cells.length c, .slice A' h.roots.length c']) h := ⟨A, c, A', c', os, rfl, p.map, p.own, p.los⟩
theorem PHx.gA (p : PHx lo w g h A c A' c' os) : g ∉ blk A := fun hc => p.apart (List.mem_append.2 (.inl (List.mem_append.2 (.inl hc))))
theorem PHx.gR (p : PHx lo w g h A c A' c' os) : g ∉ blk A' := fun hc => p.apart (List.mem_append.2 (.inr hc))
theorem PHx.gO (p : PHx lo w g h A c A' c' os) {o : OCell} (ho : o ∈ os) : g ∉ blk o.A := fun hc => p.apart (List.mem_append.2 (.inl (List.mem_append.2 (.inr (mem_blks ho hc)))))
theorem PHx.below (p : PHx lo w g h A c A' c' os) (hb : Below w.heap.size w w') : PHx lo w' g h A c A' c' os :=
  ⟨cell_below p.q0 hb, cell_below p.q1 hb, fun o => ((bcell hb).2.1 g o p.lt).trans (p.qf o), p.lo_, Nat.lt_of_lt_of_le p.lt hb.size, p.apart, p.map, p.own.below hb, p.los⟩
theorem PHx.mk_ (hm : os.map (·.c) = h.cells) (ho : OHs w A c A' c' os h.roots) (hlo : ∀ b ∈ hblks A os A', lo ≤ b) (hw : lo ≤ w.heap.size) (T : TypeId) :
    PHx lo (w.alloc (.cells #[.slice A h.cells.length c, .slice A' h.roots.length c'] T)) w.heap.size h A c A' c' os :=
  ⟨by simp [go_sem], by simp [go_sem], fun o => by simp [go_sem], hw, by simp, fun hc' => by have := ho.lt _ hc'; omega, hm, ho.below blw_, hlo⟩
theorem OHs.nd_AR (p : OHs w A c A' c' os h.roots) : ∀ b ∈ blk A', b ∉ blk A ++ blks os := fun b hb hc => by
  have := p.nodup
  rw [List.nodup_append] at this
  exact this.2.2 b hc b hb rfl
/-- A root is written. -/
theorem PHx.root_ {b : Nat} (p : PHx lo w g h A c (some ⟨b, 0, none⟩) c' os) (k : Nat) (x : Int) : PHx lo (w.setCell ⟨b, k, none⟩ (.int .i64 x)) g ⟨h.cells, h.roots.set k x⟩ A c (some ⟨b, 0, none⟩) c' os := by
  have hgb : g ≠ b := fun e => p.gR (by simp [blk, e])
  have hOn : Only (blk (some ⟨b, 0, none⟩)) w (w.setCell ⟨b, k, none⟩ (.int .i64 x)) := (Only.refl _ _).setCell (.inl (by simp [blk])) _
  refine ⟨hOn.cell p.q0 p.gR, by rw [List.length_set]; exact hOn.cell p.q1 p.gR, fun o => (hOn.frozenAt g o p.lt p.gR).trans (p.qf o), p.lo_, Nat.lt_of_lt_of_le p.lt hOn.size, p.apart, p.map, ⟨?_, p.own.roots.set_ k x, p.own.nodup, p.own.clen, by rw [List.length_set]; exact p.own.rlen⟩, p.los⟩
  exact p.own.cells.keep fun b' hb' => hOn.block b' (p.own.cells.lt b' hb') fun hc => OHs.nd_AR p.own b' hc hb'
/-- The number of a used cell is written. -/
theorem PHx.data_ {b : Nat} (p : PHx lo w g h (some ⟨b, 0, none⟩) c A' c' os) {k : Nat} {o : OCell} (ho : os[k]? = some o) (x : Int) : PHx lo (w.setCell ⟨b, k * 3 + 1, none⟩ (.int .i64 x)) g ⟨h.cells.set k ⟨o.c.used, x, o.c.refs⟩, h.roots⟩ (some ⟨b, 0, none⟩) c A' c' (os.set k ⟨⟨o.c.used, x, o.c.refs⟩, o.A, o.cap⟩) := by
  have hOn : Only (blk (some ⟨b, 0, none⟩)) w (w.setCell ⟨b, k * 3 + 1, none⟩ (.int .i64 x)) := (Only.refl _ _).setCell (.inl (by simp [blk])) _
  have hbl : blks (os.set k ⟨⟨o.c.used, x, o.c.refs⟩, o.A, o.cap⟩) = blks os := blks_set ho rfl
  have hC := p.own.cells.set1 k o x ho
  refine ⟨by rw [List.length_set]; exact hOn.cell p.q0 p.gA, hOn.cell p.q1 p.gA, fun o => (hOn.frozenAt g o p.lt p.gA).trans (p.qf o), p.lo_, Nat.lt_of_lt_of_le p.lt hOn.size, by unfold hblks; rw [hbl]; exact p.apart, by rw [List.map_set, p.map], ⟨hC, ?_, by rw [hbl]; exact p.own.nodup, by rw [List.length_set]; exact p.own.clen, p.own.rlen⟩, by unfold hblks; rw [hbl]; exact p.los⟩
  exact p.own.roots.only hOn fun b' hb' hc => OHs.nd_AR p.own b' hb' (List.mem_append.2 (.inl hc))
/-- A reference of a cell is written. -/
theorem PHx.ref_ (p : PHx lo w g h A c A' c' os) {k : Nat} {o : OCell} (ho : os[k]? = some o) {b : Nat} (hoA : o.A = some ⟨b, 0, none⟩) (j : Nat) (x : Int) : PHx lo (w.setCell ⟨b, j, none⟩ (.int .i64 x)) g ⟨h.cells.set k ⟨o.c.used, o.c.data, o.c.refs.set j x⟩, h.roots⟩ A c A' c' (os.set k ⟨⟨o.c.used, o.c.data, o.c.refs.set j x⟩, o.A, o.cap⟩) := by
  have hmem := List.mem_of_getElem? ho
  have hb1 : b ∈ blk o.A := by rw [hoA]; simp [blk]
  have hOn : Only (blk o.A) w (w.setCell ⟨b, j, none⟩ (.int .i64 x)) := (Only.refl _ _).setCell (.inl hb1) _
  have hbl : blks (os.set k ⟨⟨o.c.used, o.c.data, o.c.refs.set j x⟩, o.A, o.cap⟩) = blks os := blks_set ho rfl
  have hnd := (mk_nd0 p.own.nodup)
  have hr := (p.own.cells.2 o hmem).1
  rw [hoA] at hr
  have hr2 : OF 3 fi (w.setCell ⟨b, j, none⟩ (.int .i64 x)) o.A o.cap (o.c.refs.set j x) := by rw [hoA]; exact hr.set_ j x
  have hC := p.own.cells.refs_ hnd k o ho (rs := o.c.refs.set j x) (List.length_set) hOn hr2
  refine ⟨by rw [List.length_set]; exact hOn.cell p.q0 (p.gO hmem), hOn.cell p.q1 (p.gO hmem), fun o' => (hOn.frozenAt g o' p.lt (p.gO hmem)).trans (p.qf o'), p.lo_, Nat.lt_of_lt_of_le p.lt hOn.size, by unfold hblks; rw [hbl]; exact p.apart, by rw [List.map_set, p.map], ⟨hC, ?_, by rw [hbl]; exact p.own.nodup, by rw [List.length_set]; exact p.own.clen, p.own.rlen⟩, by unfold hblks; rw [hbl]; exact p.los⟩
  exact p.own.roots.only hOn fun b' hb' hc => OHs.nd_AR p.own b' hb' (List.mem_append.2 (.inr (mem_blks hmem hc)))
theorem place_own {root ci : Int} {P : Option Addr} (p : PHx lo w g h A c A' c' os) (hok : placeOk h root ci = true) (hc0 : 0 ≤ ci) (hP : ∃ b o Ar n cr b2 o2, A = some ⟨b, o, none⟩ ∧ 0 ≤ rootAt h root ∧ w.cell? ⟨b, o + (rootAt h root).toNat * 3 + 2, none⟩ = some (.slice Ar n cr) ∧ Ar = some ⟨b2, o2, none⟩ ∧ P = some ⟨b2, o2 + ci.toNat, none⟩) :
    ∃ oo b2, os[(rootAt h root).toNat]? = some oo ∧ oo.A = some ⟨b2, 0, none⟩ ∧ P = some ⟨b2, ci.toNat, none⟩ ∧ oo.c.refs[ci.toNat]? = some (refOf h root ci) ∧ 0 ≤ rootAt h root := by
  obtain ⟨b, o, Ar, n, cr, b2, o2, hA, h0, hcell, hAr, hPe⟩ := hP
  unfold placeOk at hok
  simp only [Bool.and_eq_true, decide_eq_true_eq] at hok
  have hk : ∃ d, h.cells[(rootAt h root).toNat]? = some d := by
    cases hd : h.cells[(rootAt h root).toNat]? with
    | none => have := hok.2; simp [refsAt, hd] at this; omega
    | some d => exact ⟨d, rfl⟩
  obtain ⟨d, hd⟩ := hk
  have hlt := hok.2
  rw [refsAt_of hd] at hlt
  have hd2 := hd
  rw [← p.map, List.getElem?_map] at hd2
  obtain ⟨oo, hoo, rfl⟩ := Option.map_eq_some_iff.1 hd2
  obtain ⟨gA, hgA, d0, d1, d2, _⟩ := p.own.cells.at_ hoo
  rw [hA] at hgA
  injection hgA with hgA
  injection hgA with e1 e2
  subst e1; subst e2
  rw [show 0 + (rootAt h root).toNat * 3 + 2 = (rootAt h root).toNat * 3 + 2 by omega, d2] at hcell
  injection hcell with hcell
  injection hcell with e3 e4 e5
  obtain ⟨b3, hb3, _⟩ := (p.own.cells.2 oo (List.mem_of_getElem? hoo)).1.some_ (j := ci.toNat) (by omega)
  rw [e3, hAr] at hb3
  injection hb3 with hb3
  injection hb3 with e6 e7
  subst e6; subst e7
  refine ⟨oo, b2, hoo, by rw [e3, hAr], by rw [hPe, Nat.zero_add], ?_, h0⟩
  unfold refOf
  rw [refsAt_of hd, List.getElem?_eq_getElem (by omega : ci.toNat < oo.c.refs.length)]
end
set_option maxHeartbeats 400000 in
theorem run6_any (lo g : Nat) (h : HeapM) (A A' : Option Addr) (c c' : Nat) (os : List OCell) (o : CmdM) (w : World) (p : PHx lo w g h A c A' c' os) (ha0 : 0 ≤ o.a) (ha1 : o.a < h.roots.length) (hlt : ∀ r ∈ h.roots, r < h.cells.length) : Calls Try.prog 89 #[.pointer (some ⟨g, 0, none⟩), .agg #[.int .i64 o.op, .int .i64 o.a, .int .i64 o.b, .int .i64 o.c]] w fun e w' => e = .returned (.tuple #[]) ∧ PHx lo w' g ⟨h.cells, h.roots.set o.a.toNat (-1)⟩ A c A' c' os ∧ Only (blk A') w w' := by
  obtain ⟨b, rfl, hb⟩ := p.own.roots.some_ (j := o.a.toNat) (by omega)
  have pb := p.below (w' := (w.alloc (.cells #[.int .i64 o.op, .int .i64 o.a, .int .i64 o.b, .int .i64 o.c] 30))) blw_; have k0 : (w.alloc (.cells #[.int .i64 o.op, .int .i64 o.a, .int .i64 o.b, .int .i64 o.c] 30)).cell? ⟨w.heap.size, 0, none⟩ = some (.int .i64 o.op) := (by simp [go_sem]); have k1 : (w.alloc (.cells #[.int .i64 o.op, .int .i64 o.a, .int .i64 o.b, .int .i64 o.c] 30)).cell? ⟨w.heap.size, 1, none⟩ = some (.int .i64 o.a) := (by simp [go_sem]); have k2 : (w.alloc (.cells #[.int .i64 o.op, .int .i64 o.a, .int .i64 o.b, .int .i64 o.c] 30)).cell? ⟨w.heap.size, 2, none⟩ = some (.int .i64 o.b) := (by simp [go_sem]); have k3 : (w.alloc (.cells #[.int .i64 o.op, .int .i64 o.a, .int .i64 o.b, .int .i64 o.c] 30)).cell? ⟨w.heap.size, 3, none⟩ = some (.int .i64 o.c) := (by simp [go_sem]); have HB : Hid (Below w.heap.size w (w.alloc (.cells #[.int .i64 o.op, .int .i64 o.a, .int .i64 o.b, .int .i64 o.c] 30))) := (by unfold Hid; exact blw_); have HZ : Hid (w.heap.size < (w.alloc (.cells #[.int .i64 o.op, .int .i64 o.a, .int .i64 o.b, .int .i64 o.c] 30)).heap.size) := (by unfold Hid; simp); have q0 := pb.q0; have q1 := pb.q1; have hglt := p.lt
  obtain ⟨xa, gxa⟩ : ∃ xa, h.roots[o.a.toNat]? = some xa := ⟨_, List.getElem?_eq_getElem (by omega)⟩
  have ma : (w.alloc (.cells #[.int .i64 o.op, .int .i64 o.a, .int .i64 o.b, .int .i64 o.c] 30)).cell? ⟨b, o.a.toNat, none⟩ = some (.int .i64 xa) := pb.own.roots.cell gxa
  have f := pb.own.roots.frozen o.a.toNat
  have H := Lib.hid pb
  clear gxa p pb hlt
  go_enter Try.func89, Try.ntmps89
  go_wp2_with fail
  generalize (w.alloc (.cells #[.int .i64 o.op, .int .i64 o.a, .int .i64 o.b, .int .i64 o.c] 30)) = W at *
  go_still_tail 7, (by kernel_rfl)
  change wpList _ _ _ _ _ W.drew
  go_wp2
  go_end0
  exact ⟨rfl, (H.out.below (Below.refl _ _).drew).root_ o.a.toNat (-1), ((Only.of_below HB.out).drew).setCell (.inl (by simp [blk])) _⟩
set_option maxHeartbeats 400000 in
theorem run5_any (lo g : Nat) (h : HeapM) (A A' : Option Addr) (c c' : Nat) (os : List OCell) (o : CmdM) (w : World) (p : PHx lo w g h A c A' c' os) (ha0 : 0 ≤ o.a) (ha1 : o.a < h.roots.length) (hlt : ∀ r ∈ h.roots, r < h.cells.length) (hb0 : 0 ≤ o.b) (hb1 : o.b < h.roots.length) : Calls Try.prog 88 #[.pointer (some ⟨g, 0, none⟩), .agg #[.int .i64 o.op, .int .i64 o.a, .int .i64 o.b, .int .i64 o.c]] w fun e w' => e = .returned (.tuple #[]) ∧ PHx lo w' g ⟨h.cells, h.roots.set o.a.toNat (rootAt h o.b)⟩ A c A' c' os ∧ Only (blk A') w w' := by
  obtain ⟨b, rfl, hb⟩ := p.own.roots.some_ (j := o.a.toNat) (by omega)
  have pb := p.below (w' := (w.alloc (.cells #[.int .i64 o.op, .int .i64 o.a, .int .i64 o.b, .int .i64 o.c] 30))) blw_; have k0 : (w.alloc (.cells #[.int .i64 o.op, .int .i64 o.a, .int .i64 o.b, .int .i64 o.c] 30)).cell? ⟨w.heap.size, 0, none⟩ = some (.int .i64 o.op) := (by simp [go_sem]); have k1 : (w.alloc (.cells #[.int .i64 o.op, .int .i64 o.a, .int .i64 o.b, .int .i64 o.c] 30)).cell? ⟨w.heap.size, 1, none⟩ = some (.int .i64 o.a) := (by simp [go_sem]); have k2 : (w.alloc (.cells #[.int .i64 o.op, .int .i64 o.a, .int .i64 o.b, .int .i64 o.c] 30)).cell? ⟨w.heap.size, 2, none⟩ = some (.int .i64 o.b) := (by simp [go_sem]); have k3 : (w.alloc (.cells #[.int .i64 o.op, .int .i64 o.a, .int .i64 o.b, .int .i64 o.c] 30)).cell? ⟨w.heap.size, 3, none⟩ = some (.int .i64 o.c) := (by simp [go_sem]); have HB : Hid (Below w.heap.size w (w.alloc (.cells #[.int .i64 o.op, .int .i64 o.a, .int .i64 o.b, .int .i64 o.c] 30))) := (by unfold Hid; exact blw_); have HZ : Hid (w.heap.size < (w.alloc (.cells #[.int .i64 o.op, .int .i64 o.a, .int .i64 o.b, .int .i64 o.c] 30)).heap.size) := (by unfold Hid; simp); have q0 := pb.q0; have q1 := pb.q1; have hglt := p.lt
  obtain ⟨xa, gxa⟩ : ∃ xa, h.roots[o.a.toNat]? = some xa := ⟨_, List.getElem?_eq_getElem (by omega)⟩
  obtain ⟨xb, gxb⟩ : ∃ xb, h.roots[o.b.toNat]? = some xb := ⟨_, List.getElem?_eq_getElem (by omega)⟩
  have ma : (w.alloc (.cells #[.int .i64 o.op, .int .i64 o.a, .int .i64 o.b, .int .i64 o.c] 30)).cell? ⟨b, o.a.toNat, none⟩ = some (.int .i64 xa) := pb.own.roots.cell gxa
  have mb : (w.alloc (.cells #[.int .i64 o.op, .int .i64 o.a, .int .i64 o.b, .int .i64 o.c] 30)).cell? ⟨b, o.b.toNat, none⟩ = some (.int .i64 xb) := pb.own.roots.cell gxb
  have f := pb.own.roots.frozen o.a.toNat
  have HRT := Lib.hid (rootAt_of gxb)
  have H := Lib.hid pb
  clear gxa gxb p pb hlt
  go_enter Try.func88, Try.ntmps88
  go_wp2_with fail
  generalize (w.alloc (.cells #[.int .i64 o.op, .int .i64 o.a, .int .i64 o.b, .int .i64 o.c] 30)) = W at *
  go_still_tail 15, (by kernel_rfl)
  change wpList _ _ _ _ _ W.drew
  go_wp2
  go_end0
  rw [HRT.out]
  exact ⟨rfl, (H.out.below (Below.refl _ _).drew).root_ o.a.toNat xb, ((Only.of_below HB.out).drew).setCell (.inl (by simp [blk])) _⟩
set_option maxHeartbeats 400000 in
theorem run8_any (lo g : Nat) (h : HeapM) (A A' : Option Addr) (c c' : Nat) (os : List OCell) (o : CmdM) (w : World) (p : PHx lo w g h A c A' c' os) (ha0 : 0 ≤ o.a) (ha1 : o.a < h.roots.length) (hlt : ∀ r ∈ h.roots, r < h.cells.length) (h0 : 0 ≤ rootAt h o.a) : Calls Try.prog 91 #[.pointer (some ⟨g, 0, none⟩), .agg #[.int .i64 o.op, .int .i64 o.a, .int .i64 o.b, .int .i64 o.c]] w fun e w' => e = .returned (.tuple #[]) ∧ (∃ os', PHx lo w' g ⟨setData h.cells (rootAt h o.a).toNat o.b, h.roots⟩ A c A' c' os') ∧ Only (blk A) w w' := by
  obtain ⟨b, rfl, hb⟩ := p.own.roots.some_ (j := o.a.toNat) (by omega)
  have pb := p.below (w' := (w.alloc (.cells #[.int .i64 o.op, .int .i64 o.a, .int .i64 o.b, .int .i64 o.c] 30))) blw_; have k0 : (w.alloc (.cells #[.int .i64 o.op, .int .i64 o.a, .int .i64 o.b, .int .i64 o.c] 30)).cell? ⟨w.heap.size, 0, none⟩ = some (.int .i64 o.op) := (by simp [go_sem]); have k1 : (w.alloc (.cells #[.int .i64 o.op, .int .i64 o.a, .int .i64 o.b, .int .i64 o.c] 30)).cell? ⟨w.heap.size, 1, none⟩ = some (.int .i64 o.a) := (by simp [go_sem]); have k2 : (w.alloc (.cells #[.int .i64 o.op, .int .i64 o.a, .int .i64 o.b, .int .i64 o.c] 30)).cell? ⟨w.heap.size, 2, none⟩ = some (.int .i64 o.b) := (by simp [go_sem]); have k3 : (w.alloc (.cells #[.int .i64 o.op, .int .i64 o.a, .int .i64 o.b, .int .i64 o.c] 30)).cell? ⟨w.heap.size, 3, none⟩ = some (.int .i64 o.c) := (by simp [go_sem]); have HB : Hid (Below w.heap.size w (w.alloc (.cells #[.int .i64 o.op, .int .i64 o.a, .int .i64 o.b, .int .i64 o.c] 30))) := (by unfold Hid; exact blw_); have HZ : Hid (w.heap.size < (w.alloc (.cells #[.int .i64 o.op, .int .i64 o.a, .int .i64 o.b, .int .i64 o.c] 30)).heap.size) := (by unfold Hid; simp); have q0 := pb.q0; have q1 := pb.q1; have hglt := p.lt
  obtain ⟨xa, gxa⟩ : ∃ xa, h.roots[o.a.toNat]? = some xa := ⟨_, List.getElem?_eq_getElem (by omega)⟩
  have hra := rootAt_of gxa
  rw [hra] at h0
  have hxl := hlt xa (List.mem_of_getElem? gxa)
  obtain ⟨d, gd⟩ : ∃ d, h.cells[xa.toNat]? = some d := ⟨_, List.getElem?_eq_getElem (by omega)⟩
  have gd2 := gd
  rw [← pb.map, List.getElem?_map] at gd2
  obtain ⟨oo, hoo, rfl⟩ := Option.map_eq_some_iff.1 gd2
  obtain ⟨gA, rfl, d0, d1, d2, hgA⟩ := pb.own.cells.at_ hoo
  have ma : (w.alloc (.cells #[.int .i64 o.op, .int .i64 o.a, .int .i64 o.b, .int .i64 o.c] 30)).cell? ⟨b, o.a.toNat, none⟩ = some (.int .i64 xa) := pb.own.roots.cell gxa
  have f := pb.own.cells.frozen (xa.toNat * 3 + 1)
  have H := Lib.hid (pb.data_ hoo o.b)
  have HR : Hid (setData h.cells (rootAt h o.a).toNat o.b = h.cells.set xa.toNat ⟨oo.c.used, o.b, oo.c.refs⟩) := by unfold Hid setData; rw [hra, gd]
  have H2 := Lib.hid pb
  clear gxa gd gd2 p pb hlt d0 d2 hra hoo
  go_enter Try.func91, Try.ntmps91
  go_wp2_with fail
  generalize (w.alloc (.cells #[.int .i64 o.op, .int .i64 o.a, .int .i64 o.b, .int .i64 o.c] 30)) = W at *
  go_still_tail 16, (by kernel_rfl)
  change wpList _ _ _ _ _ W.drew
  go_wp2
  go_end0
  rw [HR.out]
  exact ⟨rfl, ⟨_, H.out.below (Below.refl _ _).drew⟩, ((Only.of_below HB.out).drew).setCell (.inl (by simp [blk])) _⟩
set_option maxHeartbeats 400000 in
theorem run2_any (lo g : Nat) (h : HeapM) (A A' : Option Addr) (c c' : Nat) (os : List OCell) (o : CmdM) (w : World) (p : PHx lo w g h A c A' c' os) (ha0 : 0 ≤ o.a) (ha1 : o.a < h.roots.length) (hlt : ∀ r ∈ h.roots, r < h.cells.length) (hb0 : 0 ≤ o.b) (hb1 : o.b < h.roots.length) (hc0 : 0 ≤ o.c) (hok : placeOk h o.b o.c = true) : Calls Try.prog 85 #[.pointer (some ⟨g, 0, none⟩), .agg #[.int .i64 o.op, .int .i64 o.a, .int .i64 o.b, .int .i64 o.c]] w fun e w' => e = .returned (.tuple #[]) ∧ PHx lo w' g ⟨h.cells, h.roots.set o.a.toNat (refOf h o.b o.c)⟩ A c A' c' os ∧ Only (blk A') w w' := by
  obtain ⟨b, rfl, hb⟩ := p.own.roots.some_ (j := o.a.toNat) (by omega)
  have pb := p.below (w' := (w.alloc (.cells #[.int .i64 o.op, .int .i64 o.a, .int .i64 o.b, .int .i64 o.c] 30))) blw_; have k0 : (w.alloc (.cells #[.int .i64 o.op, .int .i64 o.a, .int .i64 o.b, .int .i64 o.c] 30)).cell? ⟨w.heap.size, 0, none⟩ = some (.int .i64 o.op) := (by simp [go_sem]); have k1 : (w.alloc (.cells #[.int .i64 o.op, .int .i64 o.a, .int .i64 o.b, .int .i64 o.c] 30)).cell? ⟨w.heap.size, 1, none⟩ = some (.int .i64 o.a) := (by simp [go_sem]); have k2 : (w.alloc (.cells #[.int .i64 o.op, .int .i64 o.a, .int .i64 o.b, .int .i64 o.c] 30)).cell? ⟨w.heap.size, 2, none⟩ = some (.int .i64 o.b) := (by simp [go_sem]); have k3 : (w.alloc (.cells #[.int .i64 o.op, .int .i64 o.a, .int .i64 o.b, .int .i64 o.c] 30)).cell? ⟨w.heap.size, 3, none⟩ = some (.int .i64 o.c) := (by simp [go_sem]); have HB : Hid (Below w.heap.size w (w.alloc (.cells #[.int .i64 o.op, .int .i64 o.a, .int .i64 o.b, .int .i64 o.c] 30))) := (by unfold Hid; exact blw_); have HZ : Hid (w.heap.size < (w.alloc (.cells #[.int .i64 o.op, .int .i64 o.a, .int .i64 o.b, .int .i64 o.c] 30)).heap.size) := (by unfold Hid; simp); have q0 := pb.q0; have q1 := pb.q1; have hglt := p.lt
  obtain ⟨xa, gxa⟩ : ∃ xa, h.roots[o.a.toNat]? = some xa := ⟨_, List.getElem?_eq_getElem (by omega)⟩
  have HGX := Lib.hid gxa
  have H := Lib.hid pb
  have HOK := Lib.hid hok
  have HLT := Lib.hid hlt
  clear gxa p pb hlt hok
  go_enter Try.func85, Try.ntmps85
  go_wp2_with fail
  have hS : ∀ W, Below ((w.alloc (.cells #[.int .i64 o.op, .int .i64 o.a, .int .i64 o.b, .int .i64 o.c] 30))).heap.size (w.alloc (.cells #[.int .i64 o.op, .int .i64 o.a, .int .i64 o.b, .int .i64 o.c] 30)) W → W.cell? ⟨g, 0, none⟩ = some (.slice A h.cells.length c) ∧ W.cell? ⟨g, 1, none⟩ = some (.slice (some ⟨b, 0, none⟩) h.roots.length c') ∧ W.cell? ⟨w.heap.size, 2, none⟩ = some (.int .i64 o.b) ∧ W.cell? ⟨w.heap.size, 3, none⟩ = some (.int .i64 o.c) := fun W hW => ⟨cell_below q0 hW, cell_below q1 hW, cell_below k2 hW, cell_below k3 hW⟩
  have hrhs := H.out.own.rhs H.out.map
  go_region_held3 (fun w' => w'.cell? ⟨g, 0, none⟩ = some (.slice A h.cells.length c) ∧ w'.cell? ⟨g, 1, none⟩ = some (.slice (some ⟨b, 0, none⟩) h.roots.length c') ∧ w'.cell? ⟨w.heap.size, 2, none⟩ = some (.int .i64 o.b) ∧ w'.cell? ⟨w.heap.size, 3, none⟩ = some (.int .i64 o.c))
    (first | exact hS _ blw_)
    (first
      | (go_at_call 84; (with_reducible refine (place_any A (some ⟨b, 0, none⟩) c c' h o.b o.c _ (hrhs.below blw_) hb0 hb1 HLT.out hc0).mono ?_); rw [HOK.out]; rintro e w1 ⟨P, rfl, hP, hB1⟩; (have z_hB1 := Below.size hB1); (try simp only [World.size_alloc, World.size_setCell, World.size_drew, World.heap_drewN] at z_hB1); obtain ⟨oo, b2, hoo, hA2, rfl, hx, h0⟩ := place_own (H.out.below blw_) HOK.out hc0 (hP rfl); have hBW : Below ((w.alloc (.cells #[.int .i64 o.op, .int .i64 o.a, .int .i64 o.b, .int .i64 o.c] 30))).heap.size (w.alloc (.cells #[.int .i64 o.op, .int .i64 o.a, .int .i64 o.b, .int .i64 o.c] 30)) w1 := blw_))
  have h1 := H.out.below hBW
  have e1 := h1.q1
  have l1 := cell_below k1 hBW
  have hr2 := (h1.own.cells.2 oo (List.mem_of_getElem? hoo)).1
  rw [hA2] at hr2
  have m2 : w1.cell? ⟨b2, o.c.toNat, none⟩ = some (.int .i64 (refOf h o.b o.c)) := hr2.cell hx
  have ma : w1.cell? ⟨b, o.a.toNat, none⟩ = some (.int .i64 xa) := h1.own.roots.cell HGX.out
  have f := h1.own.roots.frozen o.a.toNat
  have H1 := Lib.hid h1
  have hO1 : Only (blk (some ⟨b, 0, none⟩)) w w1 := (Only.of_below HB.out).trans (Only.of_below hBW)
  clear hS hP hoo hr2 hx h1 q0 q1 k0 k1 k2 k3 hA2
  go_wp2
  go_still_tail 10, (by kernel_rfl)
  change wpList _ _ _ _ _ w1.drew
  go_wp2
  go_end0
  exact ⟨rfl, (H1.out.below (Below.refl _ _).drew).root_ o.a.toNat _, (hO1.drew).setCell (.inl (by simp [blk])) _⟩
set_option maxHeartbeats 400000 in
theorem run4_any (lo g : Nat) (h : HeapM) (A A' : Option Addr) (c c' : Nat) (os : List OCell) (o : CmdM) (w : World) (p : PHx lo w g h A c A' c' os) (ha0 : 0 ≤ o.a) (ha1 : o.a < h.roots.length) (hlt : ∀ r ∈ h.roots, r < h.cells.length) (hb0 : 0 ≤ o.b) (hb1 : o.b < h.roots.length) (hc0 : 0 ≤ o.c) (hok : placeOk h o.a o.c = true) : Calls Try.prog 87 #[.pointer (some ⟨g, 0, none⟩), .agg #[.int .i64 o.op, .int .i64 o.a, .int .i64 o.b, .int .i64 o.c]] w fun e w' => e = .returned (.tuple #[]) ∧ (∃ os', PHx lo w' g ⟨setRef h.cells (rootAt h o.a).toNat o.c.toNat (rootAt h o.b), h.roots⟩ A c A' c' os') ∧ Only (blks os) w w' := by
  obtain ⟨b, rfl, hb⟩ := p.own.roots.some_ (j := o.a.toNat) (by omega)
  have pb := p.below (w' := (w.alloc (.cells #[.int .i64 o.op, .int .i64 o.a, .int .i64 o.b, .int .i64 o.c] 30))) blw_; have k0 : (w.alloc (.cells #[.int .i64 o.op, .int .i64 o.a, .int .i64 o.b, .int .i64 o.c] 30)).cell? ⟨w.heap.size, 0, none⟩ = some (.int .i64 o.op) := (by simp [go_sem]); have k1 : (w.alloc (.cells #[.int .i64 o.op, .int .i64 o.a, .int .i64 o.b, .int .i64 o.c] 30)).cell? ⟨w.heap.size, 1, none⟩ = some (.int .i64 o.a) := (by simp [go_sem]); have k2 : (w.alloc (.cells #[.int .i64 o.op, .int .i64 o.a, .int .i64 o.b, .int .i64 o.c] 30)).cell? ⟨w.heap.size, 2, none⟩ = some (.int .i64 o.b) := (by simp [go_sem]); have k3 : (w.alloc (.cells #[.int .i64 o.op, .int .i64 o.a, .int .i64 o.b, .int .i64 o.c] 30)).cell? ⟨w.heap.size, 3, none⟩ = some (.int .i64 o.c) := (by simp [go_sem]); have HB : Hid (Below w.heap.size w (w.alloc (.cells #[.int .i64 o.op, .int .i64 o.a, .int .i64 o.b, .int .i64 o.c] 30))) := (by unfold Hid; exact blw_); have HZ : Hid (w.heap.size < (w.alloc (.cells #[.int .i64 o.op, .int .i64 o.a, .int .i64 o.b, .int .i64 o.c] 30)).heap.size) := (by unfold Hid; simp); have q0 := pb.q0; have q1 := pb.q1; have hglt := p.lt
  obtain ⟨xb, gxb⟩ : ∃ xb, h.roots[o.b.toNat]? = some xb := ⟨_, List.getElem?_eq_getElem (by omega)⟩
  have HGX := Lib.hid gxb
  have H := Lib.hid pb
  have HOK := Lib.hid hok
  have HLT := Lib.hid hlt
  clear gxb p pb hlt hok
  go_enter Try.func87, Try.ntmps87
  go_wp2_with fail
  have hS : ∀ W, Below ((w.alloc (.cells #[.int .i64 o.op, .int .i64 o.a, .int .i64 o.b, .int .i64 o.c] 30))).heap.size (w.alloc (.cells #[.int .i64 o.op, .int .i64 o.a, .int .i64 o.b, .int .i64 o.c] 30)) W → W.cell? ⟨g, 0, none⟩ = some (.slice A h.cells.length c) ∧ W.cell? ⟨g, 1, none⟩ = some (.slice (some ⟨b, 0, none⟩) h.roots.length c') ∧ W.cell? ⟨w.heap.size, 1, none⟩ = some (.int .i64 o.a) ∧ W.cell? ⟨w.heap.size, 3, none⟩ = some (.int .i64 o.c) := fun W hW => ⟨cell_below q0 hW, cell_below q1 hW, cell_below k1 hW, cell_below k3 hW⟩
  have hrhs := H.out.own.rhs H.out.map
  go_region_held3 (fun w' => w'.cell? ⟨g, 0, none⟩ = some (.slice A h.cells.length c) ∧ w'.cell? ⟨g, 1, none⟩ = some (.slice (some ⟨b, 0, none⟩) h.roots.length c') ∧ w'.cell? ⟨w.heap.size, 1, none⟩ = some (.int .i64 o.a) ∧ w'.cell? ⟨w.heap.size, 3, none⟩ = some (.int .i64 o.c))
    (first | exact hS _ blw_)
    (first
      | (go_at_call 84; (with_reducible refine (place_any A (some ⟨b, 0, none⟩) c c' h o.a o.c _ (hrhs.below blw_) ha0 ha1 HLT.out hc0).mono ?_); rw [HOK.out]; rintro e w1 ⟨P, rfl, hP, hB1⟩; (have z_hB1 := Below.size hB1); (try simp only [World.size_alloc, World.size_setCell, World.size_drew, World.heap_drewN] at z_hB1); obtain ⟨oo, b2, hoo, hA2, rfl, hx, h0⟩ := place_own (H.out.below blw_) HOK.out hc0 (hP rfl); have hBW : Below ((w.alloc (.cells #[.int .i64 o.op, .int .i64 o.a, .int .i64 o.b, .int .i64 o.c] 30))).heap.size (w.alloc (.cells #[.int .i64 o.op, .int .i64 o.a, .int .i64 o.b, .int .i64 o.c] 30)) w1 := blw_))
  have h1 := H.out.below hBW
  have e1 := h1.q1
  have l2 := cell_below k2 hBW
  have hr2 := (h1.own.cells.2 oo (List.mem_of_getElem? hoo)).1
  rw [hA2] at hr2
  have m2 : w1.cell? ⟨b2, o.c.toNat, none⟩ = some (.int .i64 (refOf h o.a o.c)) := hr2.cell hx
  have mb : w1.cell? ⟨b, o.b.toNat, none⟩ = some (.int .i64 xb) := h1.own.roots.cell HGX.out
  have f := hr2.frozen o.c.toNat
  have hcell : h.cells[(rootAt h o.a).toNat]? = some oo.c := by rw [← h1.map, List.getElem?_map, hoo]; rfl
  have HS : Hid (setRef h.cells (rootAt h o.a).toNat o.c.toNat (rootAt h o.b) = h.cells.set (rootAt h o.a).toNat ⟨oo.c.used, oo.c.data, oo.c.refs.set o.c.toNat xb⟩) := by unfold Hid setRef; rw [hcell, rootAt_of HGX.out]
  have H1 := Lib.hid ((h1.below (Below.refl _ _).drew).ref_ hoo hA2 o.c.toNat xb)
  have hb2 : b2 ∈ blks os := mem_blks (List.mem_of_getElem? hoo) (by rw [hA2]; simp [blk])
  have hO1 : Only (blks os) w w1 := (Only.of_below HB.out).trans (Only.of_below hBW)
  clear hS hP hoo hr2 hx h1 q0 q1 k0 k1 k2 k3 hA2 hcell
  go_wp2
  go_still_tail 10, (by kernel_rfl)
  change wpList _ _ _ _ _ w1.drew
  go_wp2
  go_end0
  rw [HS.out]
  exact ⟨rfl, ⟨_, H1.out⟩, (hO1.drew).setCell (.inl hb2) _⟩
end Go.Proofs.Ytkikeanpbffpkaa

/- The program's execute returns execM, in new memory: all instructions but OpNew. -/
namespace Go.Proofs.Ytkikeanpbffpkaa
open Go.RowKit
set_option maxRecDepth 100000
set_option linter.unusedSimpArgs false
set_option linter.unusedVariables false
/-- A store below all that the heap has. -/
theorem OH.setlt {lo : Nat} {w : World} {v : Value} {p : HeapM} (h : OH lo w v p) {a : Addr} (ha : a.block < lo) (u : Value) : OH lo (w.setCell a u) v p := by
  obtain ⟨A, c, A', c', os, rfl, h1, h2, h3⟩ := h
  exact ⟨A, c, A', c', os, rfl, h1, h2.keep fun b hb => heap_setCell_ne _ _ _ (fun e => by have := h3 b hb; omega), h3⟩
set_option maxHeartbeats 4000000 in
theorem execOld_any (v : Value) (h : HeapM) (o : CmdM) (at_ : Nat) (w : World) (hv : RH w v h) (hva : validM h = true) (hok : cmdOk o = true) (hps : possO h o = true) (hne : o.op ≠ 1) :
    Calls Try.prog 29 #[v, .agg #[.int .i64 o.op, .int .i64 o.a, .int .i64 o.b, .int .i64 o.c], .int .i64 at_] w fun e w' => ∃ v', e = .returned v' ∧ OH w.heap.size w' v' (execM h o at_) ∧ Below w.heap.size w w' := by
  have hv0 := hv
  obtain ⟨A, c, A', c', rfl, -, -, -, -⟩ := hv
  obtain ⟨v1, v2, v3⟩ := valid_small hva
  have hltr := (validM_lt hva).2
  obtain ⟨⟨o1, o6⟩, ⟨a0, a3⟩, ⟨b0, b9⟩, ⟨c0, c9⟩⟩ := cmdOk_iff.1 hok
  have HV3 := Lib.hid v3
  have HLT := Lib.hid hltr
  have HPS := Lib.hid hps
  have r4 : 4 ≤ h.roots.length := by omega
  have r5 : h.roots.length ≤ 4 := by omega
  clear hva hok hps v2 v3 hltr
  obtain ⟨op, oa, ob, oc⟩ := o
  dsimp only at *
  have ha1 : oa < h.roots.length := by omega
  rcases (by omega : op = 2 ∨ op = 3 ∨ op = 4 ∨ op = 5 ∨ op = 6) with rfl | rfl | rfl | rfl | rfl
  · simp only [maxB, maxC] at b9 c9
    have hb1 : ob < h.roots.length := by simp at b9; omega
    have HPK : Hid (placeOk h ob oc = true) := by have := HPS.out; unfold Hid; simpa [possO] using this
    have HE : Hid (execM h ⟨2, oa, ob, oc⟩ at_ = ⟨h.cells, h.roots.set oa.toNat (refOf h ob oc)⟩) := by unfold Hid execM; simp
    have hix := opIx2
    have hfl := opFr2
    clear b9 c9
    go_enter Try.func29, Try.ntmps29
    go_wp2_with (go_at_call 43; (refine (copyHeap_any _ h _ (hv0.below blw_) (by omega) (fun d hd => Nat.le_trans (HV3.out d hd) (by omega)) (by omega)).mono ?_); rintro e w1 ⟨v1, rfl, ⟨B, d, B', d', os, rfl, hm, hO, hlo⟩, hB1⟩; obtain ⟨hbc, hbf, hbz⟩ := bcell hB1; have z0w1 : w.heap.size < w1.heap.size := (by (try simp at hbz); omega); have z1w1 : w.heap.size + 1 < w1.heap.size := (by (try simp at hbz); omega); have z2w1 : w.heap.size + 1 + 1 < w1.heap.size := (by (try simp at hbz); omega); have HB1 : Below w.heap.size w w1 := blw_; have k0 : w1.cell? ⟨w.heap.size + 1, 0, none⟩ = some (.int .i64 2) := (by rw [hbc _ _ (by first | omega | (simp; done) | (simp; omega))]; simp [go_sem]); have k1 : w1.cell? ⟨w.heap.size + 1, 1, none⟩ = some (.int .i64 oa) := (by rw [hbc _ _ (by first | omega | (simp; done) | (simp; omega))]; simp [go_sem]); have k2 : w1.cell? ⟨w.heap.size + 1, 2, none⟩ = some (.int .i64 ob) := (by rw [hbc _ _ (by first | omega | (simp; done) | (simp; omega))]; simp [go_sem]); have k3 : w1.cell? ⟨w.heap.size + 1, 3, none⟩ = some (.int .i64 oc) := (by rw [hbc _ _ (by first | omega | (simp; done) | (simp; omega))]; simp [go_sem]); have n0 : w1.cell? ⟨w.heap.size + 2, 0, none⟩ = some (.slice none 0 0) := (by rw [hbc _ _ (by first | omega | (simp; done) | (simp; omega))]; simp [go_sem]); have n1 : w1.cell? ⟨w.heap.size + 2, 1, none⟩ = some (.slice none 0 0) := (by rw [hbc _ _ (by first | omega | (simp; done) | (simp; omega))]; simp [go_sem]); have MF : Hid (∀ o, w1.frozen? ⟨w.heap.size + 2, o, none⟩ = false) := (fun o => by rw [hbf _ _ (by first | omega | (simp; done) | (simp; omega))]; simp [go_sem]))
    try simp only [World.size_alloc, World.size_setCell, World.size_drew, World.heap_drewN, heap_drew_] at hlo
    have hlo3 : ∀ b ∈ hblks B os B', w.heap.size + 3 ≤ b := fun b hb => by have := hlo b hb; omega
    have hloR : ∀ b ∈ blk B', w.heap.size + 3 ≤ b := fun b hb => hlo3 b (List.mem_append.2 (.inr hb))
    have hloA : ∀ b ∈ blk B, w.heap.size + 3 ≤ b := fun b hb => hlo3 b (List.mem_append.2 (.inl (List.mem_append.2 (.inl hb))))
    have hloO : ∀ b ∈ blks os, w.heap.size + 3 ≤ b := fun b hb => hlo3 b (List.mem_append.2 (.inl (List.mem_append.2 (.inr hb))))
    have HP := Lib.hid (PHx.mk_ hm hO hlo3 (by omega) 26)
    have hS : ∀ W, Below w1.heap.size w1 W → W.cell? ⟨w.heap.size + 1, 0, none⟩ = some (.int .i64 2) ∧ W.cell? ⟨w.heap.size + 1, 1, none⟩ = some (.int .i64 oa) ∧ W.cell? ⟨w.heap.size + 1, 2, none⟩ = some (.int .i64 ob) ∧ W.cell? ⟨w.heap.size + 1, 3, none⟩ = some (.int .i64 oc) := fun W hW => ⟨cell_below k0 hW, cell_below k1 hW, cell_below k2 hW, cell_below k3 hW⟩
    have hlt1 := hO.lt
    clear hB1 hbc hbf hm hO hlo hv0
    go_wp2_with fail
    go_region_held3 (fun w' => w'.cell? ⟨w.heap.size + 1, 0, none⟩ = some (.int .i64 2) ∧ w'.cell? ⟨w.heap.size + 1, 1, none⟩ = some (.int .i64 oa) ∧ w'.cell? ⟨w.heap.size + 1, 2, none⟩ = some (.int .i64 ob) ∧ w'.cell? ⟨w.heap.size + 1, 3, none⟩ = some (.int .i64 oc))
      (first | (with_reducible exact ⟨s0, s1, s2, s3⟩) | exact hS _ blw_)
      (first
        | (go_at_call 64; (with_reducible refine (operations_any _).mono ?_); rintro e w2 ⟨rfl, rfl⟩)
        | (go_at_call 85; (with_reducible refine (run2_any _ _ h B B' d d' os ⟨2, oa, ob, oc⟩ _ (HP.out.below blw_) a0 ha1 HLT.out b0 hb1 c0 HPK.out).mono ?_); rintro e w3 ⟨rfl, hP3, hO3⟩; have s0 := hO3.cell (cell_below k0 blw_) (fun hc => by have h9 : w.heap.size + 3 ≤ w.heap.size + 1 := hloR _ hc; omega); have s1 := hO3.cell (cell_below k1 blw_) (fun hc => by have h9 : w.heap.size + 3 ≤ w.heap.size + 1 := hloR _ hc; omega); have s2 := hO3.cell (cell_below k2 blw_) (fun hc => by have h9 : w.heap.size + 3 ≤ w.heap.size + 1 := hloR _ hc; omega); have s3 := hO3.cell (cell_below k3 blw_) (fun hc => by have h9 : w.heap.size + 3 ≤ w.heap.size + 1 := hloR _ hc; omega); have y0 := hO3.cell (cell_below n0 blw_) (fun hc => by have h9 : w.heap.size + 3 ≤ w.heap.size + 2 := hloR _ hc; omega); have y1 := hO3.cell (cell_below n1 blw_) (fun hc => by have h9 : w.heap.size + 3 ≤ w.heap.size + 2 := hloR _ hc; omega); have yf : ∀ o, w3.frozen? ⟨w.heap.size + 2, o, none⟩ = false := (fun o => (hO3.frozenAt _ _ (by simp; omega) (fun hc => by have h9 : w.heap.size + 3 ≤ w.heap.size + 2 := hloR _ hc; omega)).trans (((bcell (show Below w1.heap.size w1 _ from blw_)).2.1 _ _ (by omega)).trans (MF.out o))); have hBL : Below (w.heap.size + 3) w1 w3 := Below.trans (Below.mono (show Below w1.heap.size w1 _ from blw_) (by omega)) (hO3.below (by simp; omega) hloR)))
    have yf0 := yf 0
    have yf1 := yf 1
    have q0 := hP3.q0
    have q1 := hP3.q1
    have HP3 := Lib.hid hP3
    have hw3 : Below w.heap.size w w3 := HB1.trans (hBL.mono (by omega))
    have h3z := hBL.size
    clear yf hP3 hO3
    go_wp2
    refine bodyPost_ret (v := .agg #[.slice B (h.cells).length d, .slice B' (h.roots.set oa.toNat (refOf h ob oc)).length d']) (by simp [results, Try.results29, go_sem, y0, y1]) rfl ⟨_, rfl, ?_, (hw3.setCell (by simp; omega) _).setCell (by simp; omega) _⟩
    rw [HE.out]
    exact (((HP3.out.oh).setlt (by simp) _).setlt (by simp) _).lo_ (by omega)
  · simp only [maxB, maxC] at b9 c9
    have hb1 : ob < h.roots.length := by simp at b9; omega
    have HPK : Hid (placeOk h oa oc = true) := by have := HPS.out; unfold Hid; simpa [possO] using this
    have HE : Hid (execM h ⟨3, oa, ob, oc⟩ at_ = ⟨setRef h.cells (rootAt h oa).toNat oc.toNat (rootAt h ob), h.roots⟩) := by unfold Hid execM; simp
    have hix := opIx3
    have hfl := opFr3
    clear b9 c9
    go_enter Try.func29, Try.ntmps29
    go_wp2_with (go_at_call 43; (refine (copyHeap_any _ h _ (hv0.below blw_) (by omega) (fun d hd => Nat.le_trans (HV3.out d hd) (by omega)) (by omega)).mono ?_); rintro e w1 ⟨v1, rfl, ⟨B, d, B', d', os, rfl, hm, hO, hlo⟩, hB1⟩; obtain ⟨hbc, hbf, hbz⟩ := bcell hB1; have z0w1 : w.heap.size < w1.heap.size := (by (try simp at hbz); omega); have z1w1 : w.heap.size + 1 < w1.heap.size := (by (try simp at hbz); omega); have z2w1 : w.heap.size + 1 + 1 < w1.heap.size := (by (try simp at hbz); omega); have HB1 : Below w.heap.size w w1 := blw_; have k0 : w1.cell? ⟨w.heap.size + 1, 0, none⟩ = some (.int .i64 3) := (by rw [hbc _ _ (by first | omega | (simp; done) | (simp; omega))]; simp [go_sem]); have k1 : w1.cell? ⟨w.heap.size + 1, 1, none⟩ = some (.int .i64 oa) := (by rw [hbc _ _ (by first | omega | (simp; done) | (simp; omega))]; simp [go_sem]); have k2 : w1.cell? ⟨w.heap.size + 1, 2, none⟩ = some (.int .i64 ob) := (by rw [hbc _ _ (by first | omega | (simp; done) | (simp; omega))]; simp [go_sem]); have k3 : w1.cell? ⟨w.heap.size + 1, 3, none⟩ = some (.int .i64 oc) := (by rw [hbc _ _ (by first | omega | (simp; done) | (simp; omega))]; simp [go_sem]); have n0 : w1.cell? ⟨w.heap.size + 2, 0, none⟩ = some (.slice none 0 0) := (by rw [hbc _ _ (by first | omega | (simp; done) | (simp; omega))]; simp [go_sem]); have n1 : w1.cell? ⟨w.heap.size + 2, 1, none⟩ = some (.slice none 0 0) := (by rw [hbc _ _ (by first | omega | (simp; done) | (simp; omega))]; simp [go_sem]); have MF : Hid (∀ o, w1.frozen? ⟨w.heap.size + 2, o, none⟩ = false) := (fun o => by rw [hbf _ _ (by first | omega | (simp; done) | (simp; omega))]; simp [go_sem]))
    try simp only [World.size_alloc, World.size_setCell, World.size_drew, World.heap_drewN, heap_drew_] at hlo
    have hlo3 : ∀ b ∈ hblks B os B', w.heap.size + 3 ≤ b := fun b hb => by have := hlo b hb; omega
    have hloR : ∀ b ∈ blk B', w.heap.size + 3 ≤ b := fun b hb => hlo3 b (List.mem_append.2 (.inr hb))
    have hloA : ∀ b ∈ blk B, w.heap.size + 3 ≤ b := fun b hb => hlo3 b (List.mem_append.2 (.inl (List.mem_append.2 (.inl hb))))
    have hloO : ∀ b ∈ blks os, w.heap.size + 3 ≤ b := fun b hb => hlo3 b (List.mem_append.2 (.inl (List.mem_append.2 (.inr hb))))
    have HP := Lib.hid (PHx.mk_ hm hO hlo3 (by omega) 26)
    have hS : ∀ W, Below w1.heap.size w1 W → W.cell? ⟨w.heap.size + 1, 0, none⟩ = some (.int .i64 3) ∧ W.cell? ⟨w.heap.size + 1, 1, none⟩ = some (.int .i64 oa) ∧ W.cell? ⟨w.heap.size + 1, 2, none⟩ = some (.int .i64 ob) ∧ W.cell? ⟨w.heap.size + 1, 3, none⟩ = some (.int .i64 oc) := fun W hW => ⟨cell_below k0 hW, cell_below k1 hW, cell_below k2 hW, cell_below k3 hW⟩
    have hlt1 := hO.lt
    clear hB1 hbc hbf hm hO hlo hv0
    go_wp2_with fail
    go_region_held3 (fun w' => w'.cell? ⟨w.heap.size + 1, 0, none⟩ = some (.int .i64 3) ∧ w'.cell? ⟨w.heap.size + 1, 1, none⟩ = some (.int .i64 oa) ∧ w'.cell? ⟨w.heap.size + 1, 2, none⟩ = some (.int .i64 ob) ∧ w'.cell? ⟨w.heap.size + 1, 3, none⟩ = some (.int .i64 oc))
      (first | (with_reducible exact ⟨s0, s1, s2, s3⟩) | exact hS _ blw_)
      (first
        | (go_at_call 64; (with_reducible refine (operations_any _).mono ?_); rintro e w2 ⟨rfl, rfl⟩)
        | (go_at_call 87; (with_reducible refine (run4_any _ _ h B B' d d' os ⟨3, oa, ob, oc⟩ _ (HP.out.below blw_) a0 ha1 HLT.out b0 hb1 c0 HPK.out).mono ?_); rintro e w3 ⟨rfl, ⟨os3, hP3⟩, hO3⟩; have s0 := hO3.cell (cell_below k0 blw_) (fun hc => by have h9 : w.heap.size + 3 ≤ w.heap.size + 1 := hloO _ hc; omega); have s1 := hO3.cell (cell_below k1 blw_) (fun hc => by have h9 : w.heap.size + 3 ≤ w.heap.size + 1 := hloO _ hc; omega); have s2 := hO3.cell (cell_below k2 blw_) (fun hc => by have h9 : w.heap.size + 3 ≤ w.heap.size + 1 := hloO _ hc; omega); have s3 := hO3.cell (cell_below k3 blw_) (fun hc => by have h9 : w.heap.size + 3 ≤ w.heap.size + 1 := hloO _ hc; omega); have y0 := hO3.cell (cell_below n0 blw_) (fun hc => by have h9 : w.heap.size + 3 ≤ w.heap.size + 2 := hloO _ hc; omega); have y1 := hO3.cell (cell_below n1 blw_) (fun hc => by have h9 : w.heap.size + 3 ≤ w.heap.size + 2 := hloO _ hc; omega); have yf : ∀ o, w3.frozen? ⟨w.heap.size + 2, o, none⟩ = false := (fun o => (hO3.frozenAt _ _ (by simp; omega) (fun hc => by have h9 : w.heap.size + 3 ≤ w.heap.size + 2 := hloO _ hc; omega)).trans (((bcell (show Below w1.heap.size w1 _ from blw_)).2.1 _ _ (by omega)).trans (MF.out o))); have hBL : Below (w.heap.size + 3) w1 w3 := Below.trans (Below.mono (show Below w1.heap.size w1 _ from blw_) (by omega)) (hO3.below (by simp; omega) hloO)))
    have yf0 := yf 0
    have yf1 := yf 1
    have q0 := hP3.q0
    have q1 := hP3.q1
    have HP3 := Lib.hid hP3
    have hw3 : Below w.heap.size w w3 := HB1.trans (hBL.mono (by omega))
    have h3z := hBL.size
    clear yf hP3 hO3
    go_wp2
    refine bodyPost_ret (v := .agg #[.slice B (setRef h.cells (rootAt h oa).toNat oc.toNat (rootAt h ob)).length d, .slice B' (h.roots).length d']) (by simp [results, Try.results29, go_sem, y0, y1]) rfl ⟨_, rfl, ?_, (hw3.setCell (by simp; omega) _).setCell (by simp; omega) _⟩
    rw [HE.out]
    exact (((HP3.out.oh).setlt (by simp) _).setlt (by simp) _).lo_ (by omega)
  · simp only [maxB, maxC] at b9 c9
    have hb1 : ob < h.roots.length := by simp at b9; omega
    have HE : Hid (execM h ⟨4, oa, ob, oc⟩ at_ = ⟨h.cells, h.roots.set oa.toNat (rootAt h ob)⟩) := by unfold Hid execM; simp
    have hix := opIx4
    have hfl := opFr4
    clear b9 c9
    go_enter Try.func29, Try.ntmps29
    go_wp2_with (go_at_call 43; (refine (copyHeap_any _ h _ (hv0.below blw_) (by omega) (fun d hd => Nat.le_trans (HV3.out d hd) (by omega)) (by omega)).mono ?_); rintro e w1 ⟨v1, rfl, ⟨B, d, B', d', os, rfl, hm, hO, hlo⟩, hB1⟩; obtain ⟨hbc, hbf, hbz⟩ := bcell hB1; have z0w1 : w.heap.size < w1.heap.size := (by (try simp at hbz); omega); have z1w1 : w.heap.size + 1 < w1.heap.size := (by (try simp at hbz); omega); have z2w1 : w.heap.size + 1 + 1 < w1.heap.size := (by (try simp at hbz); omega); have HB1 : Below w.heap.size w w1 := blw_; have k0 : w1.cell? ⟨w.heap.size + 1, 0, none⟩ = some (.int .i64 4) := (by rw [hbc _ _ (by first | omega | (simp; done) | (simp; omega))]; simp [go_sem]); have k1 : w1.cell? ⟨w.heap.size + 1, 1, none⟩ = some (.int .i64 oa) := (by rw [hbc _ _ (by first | omega | (simp; done) | (simp; omega))]; simp [go_sem]); have k2 : w1.cell? ⟨w.heap.size + 1, 2, none⟩ = some (.int .i64 ob) := (by rw [hbc _ _ (by first | omega | (simp; done) | (simp; omega))]; simp [go_sem]); have k3 : w1.cell? ⟨w.heap.size + 1, 3, none⟩ = some (.int .i64 oc) := (by rw [hbc _ _ (by first | omega | (simp; done) | (simp; omega))]; simp [go_sem]); have n0 : w1.cell? ⟨w.heap.size + 2, 0, none⟩ = some (.slice none 0 0) := (by rw [hbc _ _ (by first | omega | (simp; done) | (simp; omega))]; simp [go_sem]); have n1 : w1.cell? ⟨w.heap.size + 2, 1, none⟩ = some (.slice none 0 0) := (by rw [hbc _ _ (by first | omega | (simp; done) | (simp; omega))]; simp [go_sem]); have MF : Hid (∀ o, w1.frozen? ⟨w.heap.size + 2, o, none⟩ = false) := (fun o => by rw [hbf _ _ (by first | omega | (simp; done) | (simp; omega))]; simp [go_sem]))
    try simp only [World.size_alloc, World.size_setCell, World.size_drew, World.heap_drewN, heap_drew_] at hlo
    have hlo3 : ∀ b ∈ hblks B os B', w.heap.size + 3 ≤ b := fun b hb => by have := hlo b hb; omega
    have hloR : ∀ b ∈ blk B', w.heap.size + 3 ≤ b := fun b hb => hlo3 b (List.mem_append.2 (.inr hb))
    have hloA : ∀ b ∈ blk B, w.heap.size + 3 ≤ b := fun b hb => hlo3 b (List.mem_append.2 (.inl (List.mem_append.2 (.inl hb))))
    have hloO : ∀ b ∈ blks os, w.heap.size + 3 ≤ b := fun b hb => hlo3 b (List.mem_append.2 (.inl (List.mem_append.2 (.inr hb))))
    have HP := Lib.hid (PHx.mk_ hm hO hlo3 (by omega) 26)
    have hS : ∀ W, Below w1.heap.size w1 W → W.cell? ⟨w.heap.size + 1, 0, none⟩ = some (.int .i64 4) ∧ W.cell? ⟨w.heap.size + 1, 1, none⟩ = some (.int .i64 oa) ∧ W.cell? ⟨w.heap.size + 1, 2, none⟩ = some (.int .i64 ob) ∧ W.cell? ⟨w.heap.size + 1, 3, none⟩ = some (.int .i64 oc) := fun W hW => ⟨cell_below k0 hW, cell_below k1 hW, cell_below k2 hW, cell_below k3 hW⟩
    have hlt1 := hO.lt
    clear hB1 hbc hbf hm hO hlo hv0
    go_wp2_with fail
    go_region_held3 (fun w' => w'.cell? ⟨w.heap.size + 1, 0, none⟩ = some (.int .i64 4) ∧ w'.cell? ⟨w.heap.size + 1, 1, none⟩ = some (.int .i64 oa) ∧ w'.cell? ⟨w.heap.size + 1, 2, none⟩ = some (.int .i64 ob) ∧ w'.cell? ⟨w.heap.size + 1, 3, none⟩ = some (.int .i64 oc))
      (first | (with_reducible exact ⟨s0, s1, s2, s3⟩) | exact hS _ blw_)
      (first
        | (go_at_call 64; (with_reducible refine (operations_any _).mono ?_); rintro e w2 ⟨rfl, rfl⟩)
        | (go_at_call 88; (with_reducible refine (run5_any _ _ h B B' d d' os ⟨4, oa, ob, oc⟩ _ (HP.out.below blw_) a0 ha1 HLT.out b0 hb1).mono ?_); rintro e w3 ⟨rfl, hP3, hO3⟩; have s0 := hO3.cell (cell_below k0 blw_) (fun hc => by have h9 : w.heap.size + 3 ≤ w.heap.size + 1 := hloR _ hc; omega); have s1 := hO3.cell (cell_below k1 blw_) (fun hc => by have h9 : w.heap.size + 3 ≤ w.heap.size + 1 := hloR _ hc; omega); have s2 := hO3.cell (cell_below k2 blw_) (fun hc => by have h9 : w.heap.size + 3 ≤ w.heap.size + 1 := hloR _ hc; omega); have s3 := hO3.cell (cell_below k3 blw_) (fun hc => by have h9 : w.heap.size + 3 ≤ w.heap.size + 1 := hloR _ hc; omega); have y0 := hO3.cell (cell_below n0 blw_) (fun hc => by have h9 : w.heap.size + 3 ≤ w.heap.size + 2 := hloR _ hc; omega); have y1 := hO3.cell (cell_below n1 blw_) (fun hc => by have h9 : w.heap.size + 3 ≤ w.heap.size + 2 := hloR _ hc; omega); have yf : ∀ o, w3.frozen? ⟨w.heap.size + 2, o, none⟩ = false := (fun o => (hO3.frozenAt _ _ (by simp; omega) (fun hc => by have h9 : w.heap.size + 3 ≤ w.heap.size + 2 := hloR _ hc; omega)).trans (((bcell (show Below w1.heap.size w1 _ from blw_)).2.1 _ _ (by omega)).trans (MF.out o))); have hBL : Below (w.heap.size + 3) w1 w3 := Below.trans (Below.mono (show Below w1.heap.size w1 _ from blw_) (by omega)) (hO3.below (by simp; omega) hloR)))
    have yf0 := yf 0
    have yf1 := yf 1
    have q0 := hP3.q0
    have q1 := hP3.q1
    have HP3 := Lib.hid hP3
    have hw3 : Below w.heap.size w w3 := HB1.trans (hBL.mono (by omega))
    have h3z := hBL.size
    clear yf hP3 hO3
    go_wp2
    refine bodyPost_ret (v := .agg #[.slice B (h.cells).length d, .slice B' (h.roots.set oa.toNat (rootAt h ob)).length d']) (by simp [results, Try.results29, go_sem, y0, y1]) rfl ⟨_, rfl, ?_, (hw3.setCell (by simp; omega) _).setCell (by simp; omega) _⟩
    rw [HE.out]
    exact (((HP3.out.oh).setlt (by simp) _).setlt (by simp) _).lo_ (by omega)
  · simp only [maxB, maxC] at b9 c9
    have HE : Hid (execM h ⟨5, oa, ob, oc⟩ at_ = ⟨h.cells, h.roots.set oa.toNat (-1)⟩) := by unfold Hid execM; simp
    have hix := opIx5
    have hfl := opFr5
    clear b9 c9
    go_enter Try.func29, Try.ntmps29
    go_wp2_with (go_at_call 43; (refine (copyHeap_any _ h _ (hv0.below blw_) (by omega) (fun d hd => Nat.le_trans (HV3.out d hd) (by omega)) (by omega)).mono ?_); rintro e w1 ⟨v1, rfl, ⟨B, d, B', d', os, rfl, hm, hO, hlo⟩, hB1⟩; obtain ⟨hbc, hbf, hbz⟩ := bcell hB1; have z0w1 : w.heap.size < w1.heap.size := (by (try simp at hbz); omega); have z1w1 : w.heap.size + 1 < w1.heap.size := (by (try simp at hbz); omega); have z2w1 : w.heap.size + 1 + 1 < w1.heap.size := (by (try simp at hbz); omega); have HB1 : Below w.heap.size w w1 := blw_; have k0 : w1.cell? ⟨w.heap.size + 1, 0, none⟩ = some (.int .i64 5) := (by rw [hbc _ _ (by first | omega | (simp; done) | (simp; omega))]; simp [go_sem]); have k1 : w1.cell? ⟨w.heap.size + 1, 1, none⟩ = some (.int .i64 oa) := (by rw [hbc _ _ (by first | omega | (simp; done) | (simp; omega))]; simp [go_sem]); have k2 : w1.cell? ⟨w.heap.size + 1, 2, none⟩ = some (.int .i64 ob) := (by rw [hbc _ _ (by first | omega | (simp; done) | (simp; omega))]; simp [go_sem]); have k3 : w1.cell? ⟨w.heap.size + 1, 3, none⟩ = some (.int .i64 oc) := (by rw [hbc _ _ (by first | omega | (simp; done) | (simp; omega))]; simp [go_sem]); have n0 : w1.cell? ⟨w.heap.size + 2, 0, none⟩ = some (.slice none 0 0) := (by rw [hbc _ _ (by first | omega | (simp; done) | (simp; omega))]; simp [go_sem]); have n1 : w1.cell? ⟨w.heap.size + 2, 1, none⟩ = some (.slice none 0 0) := (by rw [hbc _ _ (by first | omega | (simp; done) | (simp; omega))]; simp [go_sem]); have MF : Hid (∀ o, w1.frozen? ⟨w.heap.size + 2, o, none⟩ = false) := (fun o => by rw [hbf _ _ (by first | omega | (simp; done) | (simp; omega))]; simp [go_sem]))
    try simp only [World.size_alloc, World.size_setCell, World.size_drew, World.heap_drewN, heap_drew_] at hlo
    have hlo3 : ∀ b ∈ hblks B os B', w.heap.size + 3 ≤ b := fun b hb => by have := hlo b hb; omega
    have hloR : ∀ b ∈ blk B', w.heap.size + 3 ≤ b := fun b hb => hlo3 b (List.mem_append.2 (.inr hb))
    have hloA : ∀ b ∈ blk B, w.heap.size + 3 ≤ b := fun b hb => hlo3 b (List.mem_append.2 (.inl (List.mem_append.2 (.inl hb))))
    have hloO : ∀ b ∈ blks os, w.heap.size + 3 ≤ b := fun b hb => hlo3 b (List.mem_append.2 (.inl (List.mem_append.2 (.inr hb))))
    have HP := Lib.hid (PHx.mk_ hm hO hlo3 (by omega) 26)
    have hS : ∀ W, Below w1.heap.size w1 W → W.cell? ⟨w.heap.size + 1, 0, none⟩ = some (.int .i64 5) ∧ W.cell? ⟨w.heap.size + 1, 1, none⟩ = some (.int .i64 oa) ∧ W.cell? ⟨w.heap.size + 1, 2, none⟩ = some (.int .i64 ob) ∧ W.cell? ⟨w.heap.size + 1, 3, none⟩ = some (.int .i64 oc) := fun W hW => ⟨cell_below k0 hW, cell_below k1 hW, cell_below k2 hW, cell_below k3 hW⟩
    have hlt1 := hO.lt
    clear hB1 hbc hbf hm hO hlo hv0
    go_wp2_with fail
    go_region_held3 (fun w' => w'.cell? ⟨w.heap.size + 1, 0, none⟩ = some (.int .i64 5) ∧ w'.cell? ⟨w.heap.size + 1, 1, none⟩ = some (.int .i64 oa) ∧ w'.cell? ⟨w.heap.size + 1, 2, none⟩ = some (.int .i64 ob) ∧ w'.cell? ⟨w.heap.size + 1, 3, none⟩ = some (.int .i64 oc))
      (first | (with_reducible exact ⟨s0, s1, s2, s3⟩) | exact hS _ blw_)
      (first
        | (go_at_call 64; (with_reducible refine (operations_any _).mono ?_); rintro e w2 ⟨rfl, rfl⟩)
        | (go_at_call 89; (with_reducible refine (run6_any _ _ h B B' d d' os ⟨5, oa, ob, oc⟩ _ (HP.out.below blw_) a0 ha1 HLT.out).mono ?_); rintro e w3 ⟨rfl, hP3, hO3⟩; have s0 := hO3.cell (cell_below k0 blw_) (fun hc => by have h9 : w.heap.size + 3 ≤ w.heap.size + 1 := hloR _ hc; omega); have s1 := hO3.cell (cell_below k1 blw_) (fun hc => by have h9 : w.heap.size + 3 ≤ w.heap.size + 1 := hloR _ hc; omega); have s2 := hO3.cell (cell_below k2 blw_) (fun hc => by have h9 : w.heap.size + 3 ≤ w.heap.size + 1 := hloR _ hc; omega); have s3 := hO3.cell (cell_below k3 blw_) (fun hc => by have h9 : w.heap.size + 3 ≤ w.heap.size + 1 := hloR _ hc; omega); have y0 := hO3.cell (cell_below n0 blw_) (fun hc => by have h9 : w.heap.size + 3 ≤ w.heap.size + 2 := hloR _ hc; omega); have y1 := hO3.cell (cell_below n1 blw_) (fun hc => by have h9 : w.heap.size + 3 ≤ w.heap.size + 2 := hloR _ hc; omega); have yf : ∀ o, w3.frozen? ⟨w.heap.size + 2, o, none⟩ = false := (fun o => (hO3.frozenAt _ _ (by simp; omega) (fun hc => by have h9 : w.heap.size + 3 ≤ w.heap.size + 2 := hloR _ hc; omega)).trans (((bcell (show Below w1.heap.size w1 _ from blw_)).2.1 _ _ (by omega)).trans (MF.out o))); have hBL : Below (w.heap.size + 3) w1 w3 := Below.trans (Below.mono (show Below w1.heap.size w1 _ from blw_) (by omega)) (hO3.below (by simp; omega) hloR)))
    have yf0 := yf 0
    have yf1 := yf 1
    have q0 := hP3.q0
    have q1 := hP3.q1
    have HP3 := Lib.hid hP3
    have hw3 : Below w.heap.size w w3 := HB1.trans (hBL.mono (by omega))
    have h3z := hBL.size
    clear yf hP3 hO3
    go_wp2
    refine bodyPost_ret (v := .agg #[.slice B (h.cells).length d, .slice B' (h.roots.set oa.toNat (-1)).length d']) (by simp [results, Try.results29, go_sem, y0, y1]) rfl ⟨_, rfl, ?_, (hw3.setCell (by simp; omega) _).setCell (by simp; omega) _⟩
    rw [HE.out]
    exact (((HP3.out.oh).setlt (by simp) _).setlt (by simp) _).lo_ (by omega)
  · simp only [maxB, maxC] at b9 c9
    have HR0 : Hid (0 ≤ rootAt h oa) := by have := HPS.out; unfold Hid; simpa [possO] using this
    have HE : Hid (execM h ⟨6, oa, ob, oc⟩ at_ = ⟨setData h.cells (rootAt h oa).toNat ob, h.roots⟩) := by unfold Hid execM; simp
    have hix := opIx6
    have hfl := opFr6
    clear b9 c9
    go_enter Try.func29, Try.ntmps29
    go_wp2_with (go_at_call 43; (refine (copyHeap_any _ h _ (hv0.below blw_) (by omega) (fun d hd => Nat.le_trans (HV3.out d hd) (by omega)) (by omega)).mono ?_); rintro e w1 ⟨v1, rfl, ⟨B, d, B', d', os, rfl, hm, hO, hlo⟩, hB1⟩; obtain ⟨hbc, hbf, hbz⟩ := bcell hB1; have z0w1 : w.heap.size < w1.heap.size := (by (try simp at hbz); omega); have z1w1 : w.heap.size + 1 < w1.heap.size := (by (try simp at hbz); omega); have z2w1 : w.heap.size + 1 + 1 < w1.heap.size := (by (try simp at hbz); omega); have HB1 : Below w.heap.size w w1 := blw_; have k0 : w1.cell? ⟨w.heap.size + 1, 0, none⟩ = some (.int .i64 6) := (by rw [hbc _ _ (by first | omega | (simp; done) | (simp; omega))]; simp [go_sem]); have k1 : w1.cell? ⟨w.heap.size + 1, 1, none⟩ = some (.int .i64 oa) := (by rw [hbc _ _ (by first | omega | (simp; done) | (simp; omega))]; simp [go_sem]); have k2 : w1.cell? ⟨w.heap.size + 1, 2, none⟩ = some (.int .i64 ob) := (by rw [hbc _ _ (by first | omega | (simp; done) | (simp; omega))]; simp [go_sem]); have k3 : w1.cell? ⟨w.heap.size + 1, 3, none⟩ = some (.int .i64 oc) := (by rw [hbc _ _ (by first | omega | (simp; done) | (simp; omega))]; simp [go_sem]); have n0 : w1.cell? ⟨w.heap.size + 2, 0, none⟩ = some (.slice none 0 0) := (by rw [hbc _ _ (by first | omega | (simp; done) | (simp; omega))]; simp [go_sem]); have n1 : w1.cell? ⟨w.heap.size + 2, 1, none⟩ = some (.slice none 0 0) := (by rw [hbc _ _ (by first | omega | (simp; done) | (simp; omega))]; simp [go_sem]); have MF : Hid (∀ o, w1.frozen? ⟨w.heap.size + 2, o, none⟩ = false) := (fun o => by rw [hbf _ _ (by first | omega | (simp; done) | (simp; omega))]; simp [go_sem]))
    try simp only [World.size_alloc, World.size_setCell, World.size_drew, World.heap_drewN, heap_drew_] at hlo
    have hlo3 : ∀ b ∈ hblks B os B', w.heap.size + 3 ≤ b := fun b hb => by have := hlo b hb; omega
    have hloR : ∀ b ∈ blk B', w.heap.size + 3 ≤ b := fun b hb => hlo3 b (List.mem_append.2 (.inr hb))
    have hloA : ∀ b ∈ blk B, w.heap.size + 3 ≤ b := fun b hb => hlo3 b (List.mem_append.2 (.inl (List.mem_append.2 (.inl hb))))
    have hloO : ∀ b ∈ blks os, w.heap.size + 3 ≤ b := fun b hb => hlo3 b (List.mem_append.2 (.inl (List.mem_append.2 (.inr hb))))
    have HP := Lib.hid (PHx.mk_ hm hO hlo3 (by omega) 26)
    have hS : ∀ W, Below w1.heap.size w1 W → W.cell? ⟨w.heap.size + 1, 0, none⟩ = some (.int .i64 6) ∧ W.cell? ⟨w.heap.size + 1, 1, none⟩ = some (.int .i64 oa) ∧ W.cell? ⟨w.heap.size + 1, 2, none⟩ = some (.int .i64 ob) ∧ W.cell? ⟨w.heap.size + 1, 3, none⟩ = some (.int .i64 oc) := fun W hW => ⟨cell_below k0 hW, cell_below k1 hW, cell_below k2 hW, cell_below k3 hW⟩
    have hlt1 := hO.lt
    clear hB1 hbc hbf hm hO hlo hv0
    go_wp2_with fail
    go_region_held3 (fun w' => w'.cell? ⟨w.heap.size + 1, 0, none⟩ = some (.int .i64 6) ∧ w'.cell? ⟨w.heap.size + 1, 1, none⟩ = some (.int .i64 oa) ∧ w'.cell? ⟨w.heap.size + 1, 2, none⟩ = some (.int .i64 ob) ∧ w'.cell? ⟨w.heap.size + 1, 3, none⟩ = some (.int .i64 oc))
      (first | (with_reducible exact ⟨s0, s1, s2, s3⟩) | exact hS _ blw_)
      (first
        | (go_at_call 64; (with_reducible refine (operations_any _).mono ?_); rintro e w2 ⟨rfl, rfl⟩)
        | (go_at_call 91; (with_reducible refine (run8_any _ _ h B B' d d' os ⟨6, oa, ob, oc⟩ _ (HP.out.below blw_) a0 ha1 HLT.out HR0.out).mono ?_); rintro e w3 ⟨rfl, ⟨os3, hP3⟩, hO3⟩; have s0 := hO3.cell (cell_below k0 blw_) (fun hc => by have h9 : w.heap.size + 3 ≤ w.heap.size + 1 := hloA _ hc; omega); have s1 := hO3.cell (cell_below k1 blw_) (fun hc => by have h9 : w.heap.size + 3 ≤ w.heap.size + 1 := hloA _ hc; omega); have s2 := hO3.cell (cell_below k2 blw_) (fun hc => by have h9 : w.heap.size + 3 ≤ w.heap.size + 1 := hloA _ hc; omega); have s3 := hO3.cell (cell_below k3 blw_) (fun hc => by have h9 : w.heap.size + 3 ≤ w.heap.size + 1 := hloA _ hc; omega); have y0 := hO3.cell (cell_below n0 blw_) (fun hc => by have h9 : w.heap.size + 3 ≤ w.heap.size + 2 := hloA _ hc; omega); have y1 := hO3.cell (cell_below n1 blw_) (fun hc => by have h9 : w.heap.size + 3 ≤ w.heap.size + 2 := hloA _ hc; omega); have yf : ∀ o, w3.frozen? ⟨w.heap.size + 2, o, none⟩ = false := (fun o => (hO3.frozenAt _ _ (by simp; omega) (fun hc => by have h9 : w.heap.size + 3 ≤ w.heap.size + 2 := hloA _ hc; omega)).trans (((bcell (show Below w1.heap.size w1 _ from blw_)).2.1 _ _ (by omega)).trans (MF.out o))); have hBL : Below (w.heap.size + 3) w1 w3 := Below.trans (Below.mono (show Below w1.heap.size w1 _ from blw_) (by omega)) (hO3.below (by simp; omega) hloA)))
    have yf0 := yf 0
    have yf1 := yf 1
    have q0 := hP3.q0
    have q1 := hP3.q1
    have HP3 := Lib.hid hP3
    have hw3 : Below w.heap.size w w3 := HB1.trans (hBL.mono (by omega))
    have h3z := hBL.size
    clear yf hP3 hO3
    go_wp2
    refine bodyPost_ret (v := .agg #[.slice B (setData h.cells (rootAt h oa).toNat ob).length d, .slice B' (h.roots).length d']) (by simp [results, Try.results29, go_sem, y0, y1]) rfl ⟨_, rfl, ?_, (hw3.setCell (by simp; omega) _).setCell (by simp; omega) _⟩
    rw [HE.out]
    exact (((HP3.out.oh).setlt (by simp) _).setlt (by simp) _).lo_ (by omega)
end Go.Proofs.Ytkikeanpbffpkaa

/- The program's execute returns execM, in new memory: OpNew, and all instructions. -/
namespace Go.Proofs.Ytkikeanpbffpkaa
open Go.RowKit
set_option maxRecDepth 100000
set_option linter.unusedSimpArgs false
set_option linter.unusedVariables false
theorem RF.only_one {α : Type} {f : α → Value} {w : World} {g : Nat} {x : α} (h : w.cell? ⟨g, 0, none⟩ = some (f x)) : RF f w (some ⟨g, 0, none⟩) [x] := fun i hi => by
  have : i = 0 := by simpa using hi
  subst this
  exact ⟨g, 0, x, rfl, rfl, by simpa using h⟩
theorem blks_set_mem {os : List OCell} : ∀ {k : Nat} {o : OCell} {b : Nat}, b ∈ blks (os.set k o) → b ∈ blk o.A ∨ b ∈ blks os := by
  induction os with
  | nil => intro k o b h; simp [blks] at h
  | cons a os ih =>
    intro k o b h
    cases k with
    | zero =>
      simp only [List.set_cons_zero, blks, List.flatMap_cons, List.mem_append] at h ⊢
      rcases h with h | h
      · exact .inl h
      · exact .inr (.inr h)
    | succ k =>
      simp only [List.set_cons_succ, blks, List.flatMap_cons, List.mem_append] at h ⊢
      rcases h with h | h
      · exact .inr (.inl h)
      · rcases ih h with h | h
        · exact .inl h
        · exact .inr (.inr h)
theorem blks_set_nodup {os : List OCell} : ∀ {k : Nat} {o : OCell}, (blks os).Nodup → (∀ b ∈ blk o.A, b ∉ blks os) → (blks (os.set k o)).Nodup := by
  induction os with
  | nil => intro k o _ _; simp [blks]
  | cons a os ih =>
    intro k o h hd
    simp only [blks, List.flatMap_cons, List.nodup_append] at h
    simp only [blks, List.flatMap_cons, List.mem_append] at hd
    cases k with
    | zero =>
      simp only [List.set_cons_zero, blks, List.flatMap_cons, List.nodup_append]
      exact ⟨blk_nodup _, h.2.1, fun x hx y hy e => hd x hx (.inr (e ▸ hy))⟩
    | succ k =>
      simp only [List.set_cons_succ, blks, List.flatMap_cons, List.nodup_append]
      refine ⟨h.1, ih h.2.1 (fun b hb hc => hd b hb (.inr hc)), fun x hx y hy e => ?_⟩
      subst e
      rcases blks_set_mem hy with hy | hy
      · exact hd x hy (.inl hx)
      · exact h.2.2 x hx x hy rfl
/-- A cell of a heap has been put in place of another. -/
theorem OHs.setO {w w' : World} {A A' : Option Addr} {c c' k : Nat} {os : List OCell} {o : OCell} {rs rs' : List Int} (h : OHs w A c A' c' os rs) (hC : OC w' A c (os.set k o)) (hR : OF 3 fi w' A' c' rs') (hl : rs'.length = rs.length) (hf : ∀ b ∈ blk o.A, b ∉ hblks A os A') :
    OHs w' A c A' c' (os.set k o) rs' := by
  have hnd := h.nodup
  simp only [List.nodup_append, List.mem_append] at hnd
  simp only [hblks, List.mem_append] at hf
  refine ⟨hC, hR, ?_, by rw [List.length_set]; exact h.clen, by rw [hl]; exact h.rlen⟩
  simp only [List.nodup_append, List.mem_append]
  refine ⟨⟨hnd.1.1, blks_set_nodup hnd.1.2.1 (fun b hb hc => hf b hb (.inl (.inr hc))), fun x hx y hy e => ?_⟩, hnd.2.1, fun x hx y hy e => ?_⟩
  · subst e
    rcases blks_set_mem hy with hy | hy
    · exact hf x hy (.inl (.inl hx))
    · exact hnd.1.2.2 x hx x hy rfl
  · subst e
    rcases hx with hx | hx
    · exact hnd.2.2 x (.inl hx) x hy rfl
    · rcases blks_set_mem hx with hx | hx
      · exact hf x hx (.inr hy)
      · exact hnd.2.2 x (.inr hx) x hy rfl
theorem OHs.root_ {w : World} {A : Option Addr} {c c' b : Nat} {os : List OCell} {rs : List Int} (h : OHs w A c (some ⟨b, 0, none⟩) c' os rs) (k : Nat) (x : Int) : OHs (w.setCell ⟨b, k, none⟩ (.int .i64 x)) A c (some ⟨b, 0, none⟩) c' os (rs.set k x) := by
  have hOn : Only (blk (some ⟨b, 0, none⟩)) w (w.setCell ⟨b, k, none⟩ (.int .i64 x)) := (Only.refl _ _).setCell (.inl (by simp [blk])) _
  refine ⟨?_, h.roots.set_ k x, h.nodup, h.clen, by rw [List.length_set]; exact h.rlen⟩
  exact h.cells.keep fun b' hb' => hOn.block b' (h.cells.lt b' hb') fun hc => by
    have := h.nodup
    rw [List.nodup_append] at this
    exact this.2.2 b' hb' b' hc rfl
theorem wpList_appc {w : World} {ops : Array Oper} {o : Oper} {a : Act} {rest : List Oper} {Q : Exit → Act → World → Prop} (hgd : o.guard = none) (s x : Operand) (ho : o.op = .call { callee := .builtin .append, args := #[s, x], argTypes := #[23, 23] })
    {S : Option Addr} {c b c2 : Nat} {os : List OCell} (hs : a.eval s = .slice S os.length c) (hx : a.eval x = .slice (some ⟨b, 0, none⟩) 1 c2)
    (hown : OC w S c os) (oc : OCell) (hoc : OF 3 fi w oc.A oc.cap oc.c.refs) (hol : oc.c.refs.length ≤ 9223372036854775807)
    (k0 : w.cell? ⟨b, 0, none⟩ = some (.bool oc.c.used)) (k1 : w.cell? ⟨b, 1, none⟩ = some (.int .i64 oc.c.data)) (k2 : w.cell? ⟨b, 2, none⟩ = some (.slice oc.A oc.c.refs.length oc.cap)) (h : os.length ≤ 1099511627776)
    (hK : ∀ S' c' w', OC w' S' c' (os ++ [oc]) → Only (blk S) w w' → (∀ g ∈ blk S', g ∈ blk S ∨ w.heap.size ≤ g) → wpList Try.prog ops Q rest (a.put o.dst (.slice S' (os ++ [oc]).length c')) w') :
    wpList Try.prog ops Q (o :: rest) a w := by
  obtain ⟨S', c', w', hrun, h1, h2, h3⟩ := app_cell o.type hown oc hoc hol b c2 k0 k1 k2 h
  exact wpList_ran hgd s x _ ho hs hx hrun (hK _ _ _ h1 h2 h3)
set_option maxHeartbeats 4000000 in
theorem execNew_any (v : Value) (h : HeapM) (oa ob oc : Int) (at_ : Nat) (w : World) (hv : RH w v h) (hva : validM h = true) (hok : cmdOk ⟨1, oa, ob, oc⟩ = true) (hat : at_ ≤ h.cells.length) :
    Calls Try.prog 29 #[v, .agg #[.int .i64 1, .int .i64 oa, .int .i64 ob, .int .i64 oc], .int .i64 at_] w fun e w' => ∃ v', e = .returned v' ∧ OH w.heap.size w' v' (execM h ⟨1, oa, ob, oc⟩ at_) ∧ Below w.heap.size w w' := by
  have hv0 := hv
  obtain ⟨A, c, A', c', rfl, -, -, -, -⟩ := hv
  obtain ⟨v1, v2, v3⟩ := valid_small hva
  obtain ⟨⟨o1, o6⟩, ⟨a0, a3⟩, ⟨b0, b9⟩, ⟨c0, c9⟩⟩ := cmdOk_iff.1 hok
  have HV3 := Lib.hid v3
  have r4 : 4 ≤ h.roots.length := by omega
  have r5 : h.roots.length ≤ 4 := by omega
  simp only [maxB, maxC] at *
  have b3 : ob ≤ 3 := by simpa using b9
  have ha1 : oa < h.roots.length := by omega
  clear hva hok v2 v3 b9 c9 o1 o6
  go_enter Try.func29, Try.ntmps29
  go_wp2_with (go_at_call 43; (refine (copyHeap_any _ h _ (hv0.below blw_) (by omega) (fun d hd => Nat.le_trans (HV3.out d hd) (by omega)) (by omega)).mono ?_); rintro e w1 ⟨v1, rfl, ⟨B, d, B', d', os, rfl, hm, hO, hlo⟩, hB1⟩; obtain ⟨hbc, hbf, hbz⟩ := bcell hB1; have z0w1 : w.heap.size < w1.heap.size := (by (try simp at hbz); omega); have z1w1 : w.heap.size + 1 < w1.heap.size := (by (try simp at hbz); omega); have z2w1 : w.heap.size + 1 + 1 < w1.heap.size := (by (try simp at hbz); omega); have HB1 : Below w.heap.size w w1 := blw_; have k0 : w1.cell? ⟨w.heap.size + 1, 0, none⟩ = some (.int .i64 1) := (by rw [hbc _ _ (by first | omega | (simp; done) | (simp; omega))]; simp [go_sem]); have k1 : w1.cell? ⟨w.heap.size + 1, 1, none⟩ = some (.int .i64 oa) := (by rw [hbc _ _ (by first | omega | (simp; done) | (simp; omega))]; simp [go_sem]); have k2 : w1.cell? ⟨w.heap.size + 1, 2, none⟩ = some (.int .i64 ob) := (by rw [hbc _ _ (by first | omega | (simp; done) | (simp; omega))]; simp [go_sem]); have k3 : w1.cell? ⟨w.heap.size + 1, 3, none⟩ = some (.int .i64 oc) := (by rw [hbc _ _ (by first | omega | (simp; done) | (simp; omega))]; simp [go_sem]); have n0 : w1.cell? ⟨w.heap.size + 2, 0, none⟩ = some (.slice none 0 0) := (by rw [hbc _ _ (by first | omega | (simp; done) | (simp; omega))]; simp [go_sem]); have n1 : w1.cell? ⟨w.heap.size + 2, 1, none⟩ = some (.slice none 0 0) := (by rw [hbc _ _ (by first | omega | (simp; done) | (simp; omega))]; simp [go_sem]); have MF : Hid (∀ o, w1.frozen? ⟨w.heap.size + 2, o, none⟩ = false) := (fun o => by rw [hbf _ _ (by first | omega | (simp; done) | (simp; omega))]; simp [go_sem]))
  try simp only [World.size_alloc, World.size_setCell, World.size_drew, World.heap_drewN, heap_drew_] at hlo
  have hlo3 : ∀ b ∈ hblks B os B', w.heap.size + 3 ≤ b := fun b hb => by have := hlo b hb; omega
  have HP := Lib.hid (PHx.mk_ hm hO hlo3 (by omega) 26)
  have hlt1 := hO.lt
  have HL1 := Lib.hid hlt1
  have HL3 := Lib.hid hlo3
  have HWa : Hid (Below w1.heap.size w1 (w1.alloc (.cells #[.slice B h.cells.length d, .slice B' h.roots.length d'] 26))) := by unfold Hid; exact blw_
  have ka1 := cell_below k1 HWa.out
  clear hB1 hbc hbf hm hO hlo hv0 hlo3 hlt1
  go_wp2
  go_loopw [27] (fun i wr => ∃ (j : Nat) (S : Option Addr) (cS : Nat) (rs : List Int), j ≤ ob.toNat ∧ i = .int .i64 j ∧ Hid (rs = List.replicate j (-1)) ∧ OF 3 fi wr S cS rs ∧ (∀ b ∈ blk S, w1.heap.size + 2 ≤ b) ∧ wr.cell? ⟨w1.heap.size + 1, 0, none⟩ = some (.bool true) ∧ wr.cell? ⟨w1.heap.size + 1, 1, none⟩ = some (.int .i64 oc) ∧ wr.cell? ⟨w1.heap.size + 1, 2, none⟩ = some (.slice S rs.length cS) ∧ (∀ o, wr.frozen? ⟨w1.heap.size + 1, o, none⟩ = false) ∧ Below (w1.heap.size + 1) (w1.alloc (.cells #[.slice B h.cells.length d, .slice B' h.roots.length d'] 26)) wr) (fun i _ => ob.toNat - (intOf i).toNat)
  case atStart => exact ⟨0, none, 0, [], by omega, rfl, rfl, OF.nil, by simp [blk], by simp [go_sem], by simp [go_sem], by simp [go_sem], fun o => by simp [go_sem], blw_⟩
  case round =>
    obtain ⟨j, S, cS, rs, hj, rfl, HRS, hS, hSl, e0, e1, e2, ef, hBl⟩ := hrel
    have hBs := hBl.size
    simp only [World.size_alloc] at hBs
    have ef2 := ef 2
    by_cases hlt : j < ob.toNat
    · have hlt' : (j : Int) < ob := by omega
      have hrl : rs.length = j := by rw [HRS.out, List.length_replicate]
      have hrl2 : rs.length ≤ 3 := by omega
      have HSL := Lib.hid hSl
      have hcS : w1.heap.size + 1 ∉ blk S := fun hc => by have := HSL.out _ hc; omega
      have hcz : w1.heap.size + 1 < wr.heap.size := World.block_lt_of_cell? wr _ e0
      clear hrl hSl
      go_wp2_with (at_builtin; refine wpList_appi rfl (.tmp 30) (.tmp 31) rfl rs rfl rfl (hS.below blw_) (RF.only_one (x := (-1)) (by simp [go_sem, fi])) (by simp; omega) ?_; intro S' c'' w' hO' hOn' hg'; have y0 := hOn'.cell (cell_below e0 blw_) hcS; have y1 := hOn'.cell (cell_below e1 blw_) hcS; have y2 := hOn'.cell (cell_below e2 blw_) hcS; have yf : ∀ o, w'.frozen? ⟨w1.heap.size + 1, o, none⟩ = false := (fun o => (hOn'.frozenAt _ _ (by simp; omega) hcS).trans (((bcell (show Below wr.heap.size wr _ from blw_)).2.1 _ _ hcz).trans (ef o))); have yf2 := yf 2; have hg2 : ∀ b ∈ blk S', w1.heap.size + 2 ≤ b := (fun b hb => by rcases hg' b hb with h9 | h9; exact HSL.out b h9; simp at h9; omega))
      go_roundw
      case rel =>
        refine ⟨j + 1, S', c'', rs ++ [-1], by omega, by go_num, by unfold Hid; rw [HRS.out, List.replicate_succ'], hO'.ne_ (p := ⟨w1.heap.size + 1, 2, none⟩) (fun hc => by have h9 : w1.heap.size + 2 ≤ w1.heap.size + 1 := hg2 _ hc; omega), hg2, by simp [go_sem, y0], by simp [go_sem, y1], by simp [go_sem, y2], fun o => by simp [go_sem, yf o], ?_⟩
        exact (Below.trans (show Below (w1.heap.size + 1) (w1.alloc (.cells #[.slice B h.cells.length d, .slice B' h.roots.length d'] 26)) _ from blw_) (hOn'.below (by simp; omega) (fun b hb => by have := HSL.out b hb; omega))).setCell (by simp) _
      case measure => simp [intOf]; omega
    · have hje : j = ob.toNat := by omega
      have hge : ¬ (j : Int) < ob := by omega
      have hjo : (j : Int) = ob := by omega
      have hrs : rs = List.replicate ob.toNat (-1) := by rw [HRS.out, hje]
      have hrl : rs.length = ob.toNat := by rw [hrs, List.length_replicate]
      have hp := HP.out.below (w' := wr) (by simpa using hBl)
      have q0 := hp.q0
      have q1 := hp.q1
      have hqf0 := hp.qf 0
      obtain ⟨gR, rfl, hgR⟩ := hp.own.roots.some_ (j := oa.toNat) (by omega)
      have hgRlo : w.heap.size + 3 ≤ gR ∧ gR < w1.heap.size := ⟨HL3.out gR (List.mem_append.2 (.inr (by simp [blk]))), HL1.out gR (List.mem_append.2 (.inr (by simp [blk])))⟩
      obtain ⟨xa, gxa⟩ : ∃ xa, h.roots[oa.toNat]? = some xa := ⟨_, List.getElem?_eq_getElem (by omega)⟩
      have ma : wr.cell? ⟨gR, oa.toNat, none⟩ = some (.int .i64 xa) := hp.own.roots.cell gxa
      have fa := hp.own.roots.frozen oa.toNat
      have hml : os.length = h.cells.length := by have := congrArg List.length hp.map; simpa using this
      have l1 : wr.cell? ⟨w.heap.size + 1, 1, none⟩ = some (.int .i64 oa) := cell_below ka1 (by simpa using hBl)
      have hB1r : Below w1.heap.size w1 wr := HWa.out.trans (hBl.mono (by omega))
      have hwr : Below w.heap.size w wr := HB1.trans (hB1r.mono HB1.size)
      have m0 := cell_below n0 hB1r
      have m1 := cell_below n1 hB1r
      have mf : ∀ o, wr.frozen? ⟨w.heap.size + 2, o, none⟩ = false := fun o => ((bcell hB1r).2.1 _ _ (by omega)).trans (MF.out o)
      have mf0 := mf 0
      have mf1 := mf 1
      have hcb : w1.heap.size + 1 < wr.heap.size := World.block_lt_of_cell? wr _ e0
      have HPW := Lib.hid hp
      have HS := Lib.hid hS
      have HSL := Lib.hid hSl
      have HRS2 := Lib.hid hrs
      have hgR1 : gR ≠ w1.heap.size := by omega
      have hgR2 : gR ≠ w1.heap.size + 1 := by omega
      have hgR3 : gR ≠ w.heap.size + 2 := by omega
      have hgR1' : w1.heap.size ≠ gR := by omega
      have hgR2' : w1.heap.size + 1 ≠ gR := by omega
      have hgR3' : w.heap.size + 2 ≠ gR := by omega
      have hg12 : w1.heap.size ≠ w.heap.size + 2 := by omega
      have hg12' : w.heap.size + 2 ≠ w1.heap.size := by omega
      have hg13 : w1.heap.size + 1 ≠ w.heap.size + 2 := by omega
      have hg13' : w.heap.size + 2 ≠ w1.heap.size + 1 := by omega
      have hfresh : ∀ b ∈ blk S, b ∉ hblks B os (some ⟨gR, 0, none⟩) := fun b hb hc => by have h8 := hSl b hb; have h9 := HL1.out b hc; omega
      have HFR := Lib.hid hfresh
      have hml' : h.cells.length = os.length := hml.symm
      rcases Classical.em (at_ = h.cells.length) with hae | hae
      · have hao : at_ = os.length := by omega
        have hat' : (at_ : Int) = (os.length : Int) := by omega
        rw [hml'] at q0
        have hl40 : os.length ≤ 40 := by omega
        have hBlo : ∀ b ∈ blk B, w.heap.size + 3 ≤ b ∧ b < w1.heap.size := fun b hb => ⟨HL3.out b (List.mem_append.2 (.inl (List.mem_append.2 (.inl hb)))), HL1.out b (List.mem_append.2 (.inl (List.mem_append.2 (.inl hb))))⟩
        have hcB1 : w1.heap.size + 1 ∉ blk B := fun hc => by have := hBlo _ hc; omega
        have hcB0 : w1.heap.size ∉ blk B := fun hc => by have := hBlo _ hc; omega
        have hcBr : w.heap.size + 2 ∉ blk B := fun hc => by have := hBlo _ hc; omega
        have hcBc : w.heap.size + 1 ∉ blk B := fun hc => by have := hBlo _ hc; omega
        have hRB : gR ∉ blk B := hp.own.cells.apart hp.own.roots gR (by simp [blk])
        have HMF := Lib.hid mf
        have HEF := Lib.hid ef
        have HQF := Lib.hid hp.qf
        have HFA := Lib.hid fa
        have HBLO := Lib.hid hBlo
        have HAO := Lib.hid hao
        have HML := Lib.hid hml
        clear hp hS hSl hrs hfresh gxa hml hml' mf k0 k1 k2 k3 n0 n1 mf0 mf1 hqf0 ef ef2 hBlo hae fa
        subst hao
        go_upto_region 12 with (at_builtin; refine wpList_appc rfl (.tmp 41) (.tmp 43) rfl rfl rfl (HPW.out.own.cells.below blw_) zc OF.nil (by simp [zc]) (by simp [go_sem, zc]) (by simp [go_sem, zc]) (by simp [go_sem, zc]) (by omega) ?_; intro S5 c5 w5 hC5 hOn5 hg5; have z5 := hOn5.size; simp only [World.size_alloc] at z5; have y0 := hOn5.cell (cell_below q0 blw_) hcB0; have y1 := hOn5.cell (cell_below q1 blw_) hcB0; have yf0 : w5.frozen? ⟨w1.heap.size, 0, none⟩ = false := (hOn5.frozenAt _ _ (by simp; omega) hcB0).trans (((bcell (show Below wr.heap.size wr _ from blw_)).2.1 _ _ (by omega)).trans (HQF.out 0)))
        have g0 := hOn5.cell (cell_below e0 blw_) hcB1
        have g1 := hOn5.cell (cell_below e1 blw_) hcB1
        have g2 := hOn5.cell (cell_below e2 blw_) hcB1
        have l1' := hOn5.cell (cell_below l1 blw_) hcBc
        have ma' := hOn5.cell (cell_below ma blw_) hRB
        have fa' : w5.frozen? ⟨gR, oa.toNat, none⟩ = false := (hOn5.frozenAt _ _ (by simp; omega) hRB).trans (((bcell (show Below wr.heap.size wr _ from blw_)).2.1 _ _ (by omega)).trans HFA.out)
        have m0' := hOn5.cell (cell_below m0 blw_) hcBr
        have m1' := hOn5.cell (cell_below m1 blw_) hcBr
        have mf' : ∀ o, w5.frozen? ⟨w.heap.size + 2, o, none⟩ = false := (fun o => (hOn5.frozenAt _ _ (by simp; omega) hcBr).trans (((bcell (show Below wr.heap.size wr _ from blw_)).2.1 _ _ (by omega)).trans (HMF.out o)))
        have mf0' := mf' 0
        have mf1' := mf' 1
        obtain ⟨b5, rfl, hb5⟩ := hC5.some_ (j := os.length) (by simp)
        have hb5n : (w.heap.size + 3 ≤ b5 ∧ b5 < w1.heap.size ∧ b5 ≠ gR) ∨ wr.heap.size + 1 ≤ b5 := (by rcases hg5 b5 (by simp [blk]) with h9 | h9; exact .inl ⟨(HBLO.out b5 h9).1, (HBLO.out b5 h9).2, fun e => hRB (e ▸ h9)⟩; exact .inr (by simpa using h9))
        have hn1 : b5 ≠ w1.heap.size := (by omega)
        have hn1' : w1.heap.size ≠ b5 := (by omega)
        have hn2 : b5 ≠ w1.heap.size + 1 := (by omega)
        have hn2' : w1.heap.size + 1 ≠ b5 := (by omega)
        have hn3 : b5 ≠ w.heap.size + 2 := (by omega)
        have hn3' : w.heap.size + 2 ≠ b5 := (by omega)
        have hn4 : b5 ≠ gR := (by omega)
        have hn4' : gR ≠ b5 := (by omega)
        have hko5 : (os ++ [zc])[os.length]? = some zc := (by simp)
        obtain ⟨b6, hb6, d0, d1, d2, hgB⟩ := hC5.at_ hko5
        injection hb6 with hb6
        injection hb6 with hb7 hb8
        subst hb7
        have f0 := hC5.frozen (os.length * 3)
        have f1 := hC5.frozen (os.length * 3 + 1)
        have f2 := hC5.frozen (os.length * 3 + 2)
        have HC5 := Lib.hid hC5
        have HO5 := Lib.hid hOn5
        have HG5 := Lib.hid hg5
        have hO6 : Only [w1.heap.size] w5 (w5.setCell ⟨w1.heap.size, 0, none⟩ (.slice (some ⟨b5, 0, none⟩) (os.length + 1) c5)) := (Only.refl _ _).setCell (.inl (by simp)) _
        have x0 : (w5.setCell ⟨w1.heap.size, 0, none⟩ (.slice (some ⟨b5, 0, none⟩) (os.length + 1) c5)).cell? ⟨w1.heap.size, 0, none⟩ = some (.slice (some ⟨b5, 0, none⟩) (os.length + 1) c5) := by simp [go_sem, y0]
        have x1 : (w5.setCell ⟨w1.heap.size, 0, none⟩ (.slice (some ⟨b5, 0, none⟩) (os.length + 1) c5)).cell? ⟨w1.heap.size, 1, none⟩ = some (.slice (some ⟨gR, 0, none⟩) h.roots.length d') := by simp [go_sem, y1]
        have v0_ := hO6.cell g0 (by first | omega | (simp; done) | (simp; omega))
        have v1_ := hO6.cell g1 (by first | omega | (simp; done) | (simp; omega))
        have v2_ := hO6.cell g2 (by first | omega | (simp; done) | (simp; omega))
        have v3_ := hO6.cell l1' (by first | omega | (simp; done) | (simp; omega))
        have v4_ := hO6.cell ma' (by first | omega | (simp; done) | (simp; omega))
        have v5_ := hO6.cell m0' (by first | omega | (simp; done) | (simp; omega))
        have v6_ := hO6.cell m1' (by first | omega | (simp; done) | (simp; omega))
        have v7_ := hO6.cell d0 (by first | omega | (simp; done) | (simp; omega))
        have v8_ := hO6.cell d1 (by first | omega | (simp; done) | (simp; omega))
        have v9_ := hO6.cell d2 (by first | omega | (simp; done) | (simp; omega))
        have z5' : w1.heap.size + 1 < w5.heap.size := by omega
        have u1 : (w5.setCell ⟨w1.heap.size, 0, none⟩ (.slice (some ⟨b5, 0, none⟩) (os.length + 1) c5)).frozen? ⟨gR, oa.toNat, none⟩ = false := (hO6.frozenAt _ _ (by omega) (by simp; omega)).trans fa'
        have u2 : (w5.setCell ⟨w1.heap.size, 0, none⟩ (.slice (some ⟨b5, 0, none⟩) (os.length + 1) c5)).frozen? ⟨w.heap.size + 2, 0, none⟩ = false := (hO6.frozenAt _ _ (by omega) (by simp; omega)).trans mf0'
        have u3 : (w5.setCell ⟨w1.heap.size, 0, none⟩ (.slice (some ⟨b5, 0, none⟩) (os.length + 1) c5)).frozen? ⟨w.heap.size + 2, 1, none⟩ = false := (hO6.frozenAt _ _ (by omega) (by simp; omega)).trans mf1'
        have u4 : (w5.setCell ⟨w1.heap.size, 0, none⟩ (.slice (some ⟨b5, 0, none⟩) (os.length + 1) c5)).frozen? ⟨b5, os.length * 3, none⟩ = false := (hO6.frozenAt _ _ hb5 (by simp; omega)).trans f0
        have u5 : (w5.setCell ⟨w1.heap.size, 0, none⟩ (.slice (some ⟨b5, 0, none⟩) (os.length + 1) c5)).frozen? ⟨b5, os.length * 3 + 1, none⟩ = false := (hO6.frozenAt _ _ hb5 (by simp; omega)).trans f1
        have u6 : (w5.setCell ⟨w1.heap.size, 0, none⟩ (.slice (some ⟨b5, 0, none⟩) (os.length + 1) c5)).frozen? ⟨b5, os.length * 3 + 2, none⟩ = false := (hO6.frozenAt _ _ hb5 (by simp; omega)).trans f2
        have HO6 := Lib.hid hO6
        clear hC5 hOn5 hg5 hko5 mf' hb5 hgB hO6 y0 y1 yf0 g0 g1 g2 l1' ma' fa' m0' m1' mf0' mf1' d0 d1 d2 f0 f1 f2 m0 m1 q0 q1 e0 e1 e2 ma l1 hcB1 hcB0 hcBr hcBc hRB
        generalize (w5.setCell ⟨w1.heap.size, 0, none⟩ (.slice (some ⟨b5, 0, none⟩) (os.length + 1) c5)) = w6 at *
        go_wp2
        refine bodyPost_ret (v := .agg #[.slice (some ⟨b5, 0, none⟩) (os.length + 1) c5, .slice (some ⟨gR, 0, none⟩) h.roots.length d']) (by simp [results, Try.results29, go_sem, v5_, v6_]) rfl ⟨_, rfl, ?_, ?_⟩
        · have hE : execM h ⟨1, oa, ob, oc⟩ os.length = ⟨h.cells ++ [⟨true, oc, rs⟩], h.roots.set oa.toNat (os.length : Int)⟩ := by unfold execM putCell newCell; simp [HML.out, HRS2.out]
          rw [hE]
          have hC6 : OC w6 (some ⟨b5, 0, none⟩) c5 (os ++ [zc]) := HC5.out.keep fun b hb => HO6.out.block b (HC5.out.lt b hb) (fun hc => by
            have hc' : b = w1.heap.size := by simpa using hc
            rcases List.mem_append.1 hb with h9 | h9
            · have := mem_blk_some h9; omega
            · rw [blks_append] at h9
              rcases List.mem_append.1 h9 with h9 | h9
              · have := HL1.out b (List.mem_append.2 (.inl (List.mem_append.2 (.inr h9)))); omega
              · simp [blks, zc, blk] at h9)
          have hS6 : OF 3 fi w6 S cS rs := ((HS.out.alloc_ _).only HO5.out (fun g hg hc => by have h8 := HSL.out g hg; have h9 := (HBLO.out g hc).2; omega)).only HO6.out (fun g hg hc => by have h8 := HSL.out g hg; have h9 : g = w1.heap.size := (by simpa using hc); omega)
          have hC := hC6.set_ os.length ⟨⟨true, oc, rs⟩, S, cS⟩ (by simp) hS6 (by show rs.length ≤ _; rw [hrl]; omega)
          have hset : (os ++ [zc]).set os.length ⟨⟨true, oc, rs⟩, S, cS⟩ = os ++ [⟨⟨true, oc, rs⟩, S, cS⟩] := by simp
          rw [hset] at hC
          dsimp only at hC
          rw [hrl] at hC
          have hR6 : OF 3 fi w6 (some ⟨gR, 0, none⟩) d' h.roots := ((HPW.out.own.roots.alloc_ _).only HO5.out (fun g hg hc => by rw [mem_blk_some hg] at hc; exact HPW.out.own.cells.apart HPW.out.own.roots gR (by simp [blk]) hc)).only HO6.out (fun g hg hc => by have h8 := mem_blk_some hg; have h9 : g = w1.heap.size := (by simpa using hc); omega)
          have hR0 := ((hR6.ne_ (p := ⟨b5, os.length * 3, none⟩) (u := .bool true) (by simpa [blk] using hn4)).ne_ (p := ⟨b5, os.length * 3 + 1, none⟩) (u := .int .i64 oc) (by simpa [blk] using hn4)).ne_ (p := ⟨b5, os.length * 3 + 2, none⟩) (u := .slice S ob.toNat cS) (by simpa [blk] using hn4)
          have h3 := (OHs.push (n := w1.heap.size + 1) (n5 := wr.heap.size + 1) HP.out.own hC hR0 (fun g hg => by rcases HG5.out g hg with h9 | h9; exact .inl h9; exact .inr (by simpa using h9)) (fun g hg => ⟨by have h8 := HSL.out g hg; omega, by have h8 := HS.out.lt g hg; omega⟩) (by simp) (by omega) (by omega)).root_ oa.toNat (os.length : Int)
          have hoh : OH (w.heap.size + 3) _ (.agg #[.slice (some ⟨b5, 0, none⟩) (os.length + 1) c5, .slice (some ⟨gR, 0, none⟩) h.roots.length d']) ⟨h.cells ++ [⟨true, oc, rs⟩], h.roots.set oa.toNat (os.length : Int)⟩ := ⟨_, c5, _, d', _, by simp [HML.out], by rw [List.map_append, HPW.out.map]; rfl, h3, fun b hb => by
            simp only [hblks, List.mem_append] at hb
            rcases hb with (hb | hb) | hb
            · have := mem_blk_some hb; omega
            · rw [blks_append] at hb
              rcases List.mem_append.1 hb with hb | hb
              · exact HL3.out b (List.mem_append.2 (.inl (List.mem_append.2 (.inr hb))))
              · have h8 := HSL.out b (by simpa [blks] using hb); omega
            · exact HL3.out b (List.mem_append.2 (.inr hb))⟩
          exact ((hoh.setlt (by simp) _).setlt (by simp) _).lo_ (by omega)
        · have hw5 : Below w.heap.size w w5 := (hwr.alloc (by have := hwr.size; omega) _).trans (HO5.out.below (by simp; omega) (fun b hb => by have := (HBLO.out b hb).1; omega))
          have hw6 : Below w.heap.size w w6 := hw5.trans (HO6.out.below hw5.size (fun b hb => by have h9 : b = w1.heap.size := (by simpa using hb); omega))
          exact (((((hw6.setCell (by simp; omega) _).setCell (by simp; omega) _).setCell (by simp; omega) _).setCell (by simp; omega) _).setCell (by simp; omega) _).setCell (by simp; omega) _
      · have hk : at_ < os.length := by omega
        obtain ⟨oo, hko⟩ : ∃ oo, os[at_]? = some oo := ⟨_, List.getElem?_eq_getElem hk⟩
        obtain ⟨gB, rfl, d0, d1, d2, hgB⟩ := hp.own.cells.at_ hko
        have f0 := hp.own.cells.frozen (at_ * 3)
        have f1 := hp.own.cells.frozen (at_ * 3 + 1)
        have f2 := hp.own.cells.frozen (at_ * 3 + 2)
        have hgBlo : w.heap.size + 3 ≤ gB ∧ gB < w1.heap.size := ⟨HL3.out gB (List.mem_append.2 (.inl (List.mem_append.2 (.inl (by simp [blk]))))), HL1.out gB (List.mem_append.2 (.inl (List.mem_append.2 (.inl (by simp [blk])))))⟩
        have hBR : gR ≠ gB := fun e => hp.own.cells.apart hp.own.roots gR (by simp [blk]) (by simp [blk, e])
        have hBR' : gB ≠ gR := fun e => hBR e.symm
        have hb1 : gB ≠ w1.heap.size := by omega
        have hb1' : w1.heap.size ≠ gB := by omega
        have hb2 : gB ≠ w1.heap.size + 1 := by omega
        have hb2' : w1.heap.size + 1 ≠ gB := by omega
        have hb3 : gB ≠ w.heap.size + 2 := by omega
        have hb3' : w.heap.size + 2 ≠ gB := by omega
        have hai : ¬ (at_ : Int) = (h.cells.length : Int) := by omega
        have hai2 : (at_ : Int) < (h.cells.length : Int) := by omega
        have HK := Lib.hid hk
        have HML := Lib.hid hml
        have HHK := Lib.hid hko
        clear hko hp hS hSl hrs hfresh gxa hml hml' hk hgB hgR mf k0 k1 k2 k3 n0 n1
        go_wp2
        refine bodyPost_ret (v := .agg #[.slice (some ⟨gB, 0, none⟩) h.cells.length d, .slice (some ⟨gR, 0, none⟩) h.roots.length d']) (by simp [results, Try.results29, go_sem, m0, m1]) rfl ⟨_, rfl, ?_, (((((hwr.setCell (by simp; omega) _).setCell (by simp; omega) _).setCell (by simp; omega) _).setCell (by simp; omega) _).setCell (by simp; omega) _).setCell (by simp; omega) _⟩
        have hE : execM h ⟨1, oa, ob, oc⟩ at_ = ⟨h.cells.set at_ ⟨true, oc, rs⟩, h.roots.set oa.toNat (at_ : Int)⟩ := by unfold execM putCell newCell; simp [hae, HRS2.out]
        rw [hE]
        have hC := HPW.out.own.cells.set_ at_ ⟨⟨true, oc, rs⟩, S, cS⟩ HK.out HS.out (by show rs.length ≤ _; rw [hrl]; omega)
        dsimp only at hC
        rw [hrl] at hC
        have hR0 := ((HPW.out.own.roots.ne_ (p := ⟨gB, at_ * 3, none⟩) (u := .bool true) (by simpa [blk] using hBR')).ne_ (p := ⟨gB, at_ * 3 + 1, none⟩) (u := .int .i64 oc) (by simpa [blk] using hBR')).ne_ (p := ⟨gB, at_ * 3 + 2, none⟩) (u := .slice S ob.toNat cS) (by simpa [blk] using hBR')
        have h3 := (HPW.out.own.setO hC hR0 rfl HFR.out).root_ oa.toNat (at_ : Int)
        have hoh : OH (w.heap.size + 3) _ (.agg #[.slice (some ⟨gB, 0, none⟩) h.cells.length d, .slice (some ⟨gR, 0, none⟩) h.roots.length d']) ⟨h.cells.set at_ ⟨true, oc, rs⟩, h.roots.set oa.toNat (at_ : Int)⟩ := ⟨_, d, _, d', _, by simp only [List.length_set], by rw [List.map_set, HPW.out.map], h3, fun b hb => by
          simp only [hblks, List.mem_append] at hb
          rcases hb with (hb | hb) | hb
          · exact HL3.out b (List.mem_append.2 (.inl (List.mem_append.2 (.inl hb))))
          · rcases blks_set_mem hb with hb | hb
            · have := HSL.out b hb; omega
            · exact HL3.out b (List.mem_append.2 (.inl (List.mem_append.2 (.inr hb))))
          · exact HL3.out b (List.mem_append.2 (.inr hb))⟩
        exact ((hoh.setlt (by simp) _).setlt (by simp) _).lo_ (by omega)
end Go.Proofs.Ytkikeanpbffpkaa

/- The program's execute returns execM, in new memory, for every possible instruction. -/
namespace Go.Proofs.Ytkikeanpbffpkaa
open Go.RowKit
theorem execute_any (v : Value) (h : HeapM) (o : CmdM) (at_ : Nat) (w : World) (hv : RH w v h) (hva : validM h = true) (hok : cmdOk o = true) (hps : possO h o = true) (hat : at_ ≤ h.cells.length) :
    Calls Try.prog 29 #[v, .agg #[.int .i64 o.op, .int .i64 o.a, .int .i64 o.b, .int .i64 o.c], .int .i64 at_] w fun e w' => ∃ v', e = .returned v' ∧ OH w.heap.size w' v' (execM h o at_) ∧ Below w.heap.size w w' := by
  rcases Classical.em (o.op = 1) with h1 | h1
  · obtain ⟨op, a, b, c⟩ := o
    dsimp only at h1
    subst h1
    exact execNew_any v h a b c at_ w hv hva hok hat
  · exact execOld_any v h o at_ w hv hva hok hps h1
end Go.Proofs.Ytkikeanpbffpkaa
