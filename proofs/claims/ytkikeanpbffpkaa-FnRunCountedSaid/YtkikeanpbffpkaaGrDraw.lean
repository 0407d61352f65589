/- Texts of one family, one behind the other: Draw1, Draw2, Draw3, Draw4. -/
import Derived.Test.YtkikeanpbffpkaaChecked
import Derived.Deep.QuietTactic
import Derived.BigQuiet
import Derived.IntWalk
import Derived.Test.YtkikeanpbffpkaaGrOwn
import Derived.Deep.RegionWith
import Derived.Deep.DeepCutAuto
import Derived.Test.YtkikeanpbffpkaaGrData
import Derived.Deep.CutBlock
import Derived.Maps.AppendAt
import Derived.Test.YtkikeanpbffpkaaGrCopy
import Derived.Test.YtkikeanpbffpkaaGrTo
/- The reference's drawing: numbers out of a code. -/
namespace Go.Proofs.Ytkikeanpbffpkaa
open Go.RowKit
set_option maxRecDepth 100000
set_option linter.unusedSimpArgs false
set_option linter.unusedVariables false
def fu : Int → Value := Value.int .u8
/-- A reader: where its bytes lie, where it stands. -/
structure RdX (lo : Nat) (w : World) (g : Nat) (C : Option Addr) (bs : List Int) (c p : Nat) : Prop where
  c0 : w.cell? ⟨g, 0, none⟩ = some (.slice C bs.length c)
  c1 : w.cell? ⟨g, 1, none⟩ = some (.int .i64 (p : Int))
  fz : ∀ o, w.frozen? ⟨g, o, none⟩ = false
  rf : RF fu w C bs
  bt : ∀ x ∈ bs, 0 ≤ x ∧ x < 256
  far : ∀ b o, C = some ⟨b, o, none⟩ → 0 < bs.length → b < lo
  lo_ : lo ≤ g
  lt : g < w.heap.size
  len : bs.length ≤ 2000
/-- A reader from which K numbers more may be read. -/
def Rd (lo : Nat) (w : World) (g : Nat) (K : Nat) : Prop := ∃ C bs c p, p + K ≤ 1048576 ∧ RdX lo w g C bs c p
theorem Rd.le {lo g K K' : Nat} {w : World} (h : Rd lo w g K) (hk : K' ≤ K) : Rd lo w g K' := by
  obtain ⟨C, bs, c, p, h1, h2⟩ := h
  exact ⟨C, bs, c, p, by omega, h2⟩
theorem Rd.lt {lo g K : Nat} {w : World} (h : Rd lo w g K) : g < w.heap.size ∧ lo ≤ g := by
  obtain ⟨C, bs, c, p, h1, h2⟩ := h
  exact ⟨h2.lt, h2.lo_⟩
theorem RdX.keep {lo g c p : Nat} {w w' : World} {C : Option Addr} {bs : List Int} (h : RdX lo w g C bs c p) (hb : Below (g + 1) w w') : RdX lo w' g C bs c p := by
  have hl := h.lo_
  have hz := h.lt
  have hs := hb.size
  refine ⟨(hb.cell (p := ⟨g, 0, none⟩) (by simp only; omega)).trans h.c0, (hb.cell (p := ⟨g, 1, none⟩) (by simp only; omega)).trans h.c1, fun o => (World.frozen?_of_block (a := ⟨g, o, none⟩) (hb.block g (by omega))).trans (h.fz o), fun i hi => ?_, h.bt, h.far, h.lo_, by omega, h.len⟩
  obtain ⟨b, o, x, h1, h2, h3⟩ := h.rf i hi
  exact ⟨b, o, x, h1, h2, (hb.cell (p := ⟨b, o + i, none⟩) (by have := h.far b o h1 (by omega); simp only; omega)).trans h3⟩
theorem Rd.keep {lo g K : Nat} {w w' : World} (h : Rd lo w g K) (hb : Below (g + 1) w w') : Rd lo w' g K := by
  obtain ⟨C, bs, c, p, h1, h2⟩ := h
  exact ⟨C, bs, c, p, h1, h2.keep hb⟩
theorem Rd.below {lo g K : Nat} {w w' : World} (h : Rd lo w g K) (hb : Below w.heap.size w w') : Rd lo w' g K := h.keep (hb.mono h.lt.1)
theorem RdX.next {lo g c p : Nat} {w : World} {C : Option Addr} {bs : List Int} (h : RdX lo w g C bs c p) : RdX lo (w.setCell ⟨g, 1, none⟩ (.int .i64 ((p : Int) + 1))) g C bs c (p + 1) := by
  have hl := h.lo_
  have hc0 := h.c0
  have hc1 := h.c1
  refine ⟨by simp [go_sem, hc0], by simp [go_sem, hc1], fun o => by have := h.fz o; simpa [go_sem] using this, fun i hi => ?_, h.bt, h.far, h.lo_, by simpa using h.lt, h.len⟩
  obtain ⟨b, o, x, h1, h2, h3⟩ := h.rf i hi
  have hbg : b ≠ g := by have := h.far b o h1 (by omega); omega
  refine ⟨b, o, x, h1, h2, ?_⟩
  have hOn : Only [g] w (w.setCell ⟨g, 1, none⟩ (.int .i64 ((p : Int) + 1))) := (Only.refl _ _).setCell (.inl (by simp)) _
  exact hOn.cell h3 (by simpa using hbg)
theorem wrap_small (n : Int) (h0 : 0 ≤ n) (h1 : n < 4611686018427387904) : IntKind.i64.wrap n = n := by
  simp [IntKind.wrap, IntKind.bits, IntKind.signed]
  omega
theorem xor_i64_nat (a b : Nat) (ha : a < 4611686018427387904) (hb : b < 4611686018427387904) : bits .xor .i64 (a : Int) (b : Int) = ((a ^^^ b : Nat) : Int) := by
  have hx : a ^^^ b < 2 ^ 62 := Nat.xor_lt_two_pow (by omega) (by omega)
  have h1 : (BitVec.ofInt 64 (a : Int)).toNat = a := by
    rw [BitVec.ofInt_natCast, BitVec.toNat_ofNat]; exact Nat.mod_eq_of_lt (by omega)
  have h2 : (BitVec.ofInt 64 (b : Int)).toNat = b := by
    rw [BitVec.ofInt_natCast, BitVec.toNat_ofNat]; exact Nat.mod_eq_of_lt (by omega)
  show IntKind.i64.wrap ((BitVec.ofInt 64 (a : Int) ^^^ BitVec.ofInt 64 (b : Int)).toNat : Int) = _
  rw [BitVec.toNat_xor, h1, h2]
  exact wrap_small _ (by omega) (by omega)
/-- The reader's mixture is no negative number. -/
theorem mix_pos (x : Int) (h0 : 0 ≤ x) (h1 : x < 4611686018427387904) : 0 ≤ bits .xor .i64 x (x / 64) := by
  obtain ⟨a, rfl⟩ := Int.eq_ofNat_of_zero_le h0
  have : ((a : Int) / 64) = ((a / 64 : Nat) : Int) := by omega
  rw [this, xor_i64_nat _ _ (by omega) (by omega)]
  omega
set_option maxHeartbeats 4000000 in
theorem pick_any (lo g K : Nat) (n : Int) (w : World) (h : Rd lo w g (K + 1)) (hn1 : -1048576 ≤ n) (hn2 : n ≤ 1048576) :
    Calls Try.prog 62 #[.pointer (some ⟨g, 0, none⟩), .int .i64 n] w fun e w' => ∃ k : Nat, e = .returned (.int .i64 (k : Int)) ∧ (1 ≤ n → (k : Int) < n) ∧ (n < 1 → k = 0) ∧ Only [g] w w' ∧ Rd lo w' g K := by
  obtain ⟨C, bs, c, p, hp, hx⟩ := h
  have q0 := hx.c0
  have q1 := hx.c1
  have qf := hx.fz 1
  have HX := Lib.hid hx
  have hlen := hx.len
  have HN := Lib.hid hx.next
  have HO : Hid (Only [g] w (w.setCell ⟨g, 1, none⟩ (.int .i64 ((p : Int) + 1)))) := (Only.refl _ _).setCell (.inl (by simp)) _
  clear hx
  by_cases h1 : n < 1
  · go_enter Try.func62, Try.ntmps62
    go_wp2
    go_ret
    exact ⟨0, by simp, by omega, fun _ => rfl, HO.out, C, bs, c, p + 1, by omega, HN.out⟩
  by_cases h2 : bs.length = 0
  · have H2 := Lib.hid h2
    have h2i : (bs.length : Int) = 0 := by omega
    go_enter Try.func62, Try.ntmps62
    go_wp2
    go_ret
    exact ⟨0, by simp, by omega, fun _ => rfl, HO.out, C, bs, c, p + 1, by omega, HN.out⟩
  have h2i : (bs.length : Int) ≠ 0 := by omega
  by_cases h3 : p < bs.length
  · obtain ⟨b, o, x, rfl, gx, m, hb⟩ := HX.out.rf.at_ h3
    have m2 : (w.setCell ⟨g, 1, none⟩ (.int .i64 ((p : Int) + 1))).cell? ⟨b, o + p, none⟩ = some (.int .u8 x) := by
      have := HX.out.far b o rfl (by omega)
      have := HX.out.lo_
      exact HO.out.cell m (by simp; omega)
    have hbt := HX.out.bt x (List.mem_of_getElem? gx)
    clear m gx
    have hm0 : 0 ≤ x % n := Int.emod_nonneg _ (by omega)
    have hm1 : x % n < n := Int.emod_lt_of_pos _ (by omega)
    go_enter Try.func62, Try.ntmps62
    go_wp2
    go_ret
    exact ⟨(x % n).toNat, by rw [Int.toNat_of_nonneg hm0]; rfl, by rw [Int.toNat_of_nonneg hm0]; exact hm1, by omega, HO.out, _, bs, c, p + 1, by omega, HN.out⟩
  · have hL : (0 : Int) < (bs.length : Int) := by omega
    obtain ⟨i1, hi1⟩ : ∃ i : Nat, (p : Int) % (bs.length : Int) = (i : Int) := ⟨((p : Int) % (bs.length : Int)).toNat, by rw [Int.toNat_of_nonneg (Int.emod_nonneg _ (by omega))]⟩
    obtain ⟨i2, hi2⟩ : ∃ i : Nat, ((p : Int) * 7 + 3) % (bs.length : Int) = (i : Int) := ⟨(((p : Int) * 7 + 3) % (bs.length : Int)).toNat, by rw [Int.toNat_of_nonneg (Int.emod_nonneg _ (by omega))]⟩
    obtain ⟨d, hd⟩ : ∃ i : Nat, (p : Int) / (bs.length : Int) = (i : Int) := ⟨((p : Int) / (bs.length : Int)).toNat, by rw [Int.toNat_of_nonneg (Int.ediv_nonneg (by omega) (by omega))]⟩
    have l1 : i1 < bs.length := by have := Int.emod_lt_of_pos (p : Int) hL; omega
    have l2 : i2 < bs.length := by have := Int.emod_lt_of_pos ((p : Int) * 7 + 3) hL; omega
    have l3 : d ≤ p := by have := Int.ediv_le_self (a := (p : Int)) (bs.length : Int) (by omega); omega
    obtain ⟨b, o, x1, rfl, gx, m, hb⟩ := HX.out.rf.at_ l1
    obtain ⟨b9, o9, x2, e9, gx2, m9, -⟩ := HX.out.rf.at_ l2
    injection e9 with e9
    injection e9 with e9 e10
    subst e9 e10
    have hfar := HX.out.far b o rfl (by omega)
    have hlo := HX.out.lo_
    have m2 : (w.setCell ⟨g, 1, none⟩ (.int .i64 ((p : Int) + 1))).cell? ⟨b, o + i1, none⟩ = some (.int .u8 x1) := HO.out.cell m (by simp; omega)
    have m3 : (w.setCell ⟨g, 1, none⟩ (.int .i64 ((p : Int) + 1))).cell? ⟨b, o + i2, none⟩ = some (.int .u8 x2) := HO.out.cell m9 (by simp; omega)
    have hb1 := HX.out.bt x1 (List.mem_of_getElem? gx)
    have hb2 := HX.out.bt x2 (List.mem_of_getElem? gx2)
    clear m gx m9 gx2
    have n1 : (i1 : Int) < (bs.length : Int) := by omega
    have n2 : (i2 : Int) < (bs.length : Int) := by omega
    go_enter Try.func62, Try.ntmps62
    go_wp2
    go_quiet (fail)
    go_wp2
    have hx0 : 0 ≤ x1 * 131 + x2 * 1117 + (p : Int) * 29 + (d : Int) * 53 := by omega
    have hx1 : x1 * 131 + x2 * 1117 + (p : Int) * 29 + (d : Int) * 53 < 4611686018427387904 := by omega
    have hmx := mix_pos _ hx0 hx1
    have hm0 := Int.tmod_nonneg n hmx
    have hm1 := Int.tmod_lt_of_pos (bits BinOp.xor IntKind.i64 (x1 * 131 + x2 * 1117 + (p : Int) * 29 + (d : Int) * 53) ((x1 * 131 + x2 * 1117 + (p : Int) * 29 + (d : Int) * 53) / 64)) (show 0 < n by omega)
    go_ret
    refine ⟨_, by rw [← Int.toNat_of_nonneg hm0]; rfl, fun _ => by rw [Int.toNat_of_nonneg hm0]; exact hm1, by omega, ?_, some ⟨b, o, none⟩, bs, c, p + 1, by omega, ?_⟩
    · exact HO.out.trans (Only.of_below (Below.drewn (Below.refl _ _)))
    · exact HN.out.keep (Below.drewn (Below.refl _ _))
end Go.Proofs.Ytkikeanpbffpkaa

/- The reference's drawing: readers, instructions. -/
namespace Go.Proofs.Ytkikeanpbffpkaa
open Go.RowKit
set_option maxRecDepth 100000
set_option linter.unusedSimpArgs false
set_option linter.unusedVariables false
set_option maxHeartbeats 4000000 in
theorem odd_any (lo g K : Nat) (n : Int) (w : World) (h : Rd lo w g (K + 1)) (hn1 : 0 ≤ n) (hn2 : n ≤ 1048576) :
    Calls Try.prog 63 #[.pointer (some ⟨g, 0, none⟩), .int .i64 n] w fun e w' => ∃ b : Bool, e = .returned (.bool b) ∧ (n = 0 → b = false) ∧ Only [g] w w' ∧ Rd lo w' g K := by
  have H := Lib.hid h
  clear h
  by_cases h1 : n = 0
  · subst h1
    go_enter Try.func63, Try.ntmps63
    go_wp2
    go_ret
    exact ⟨false, rfl, fun _ => rfl, Only.refl _ _, H.out.le (by omega)⟩
  · have h2 : 0 < n := by omega
    go_enter Try.func63, Try.ntmps63
    go_wp2_with fail
    (with_reducible refine (pick_any lo g K n _ H.out (by omega) (by omega)).mono ?_)
    rintro e w1 ⟨k, rfl, -, -, hOn, hR⟩
    have HOn := Lib.hid hOn
    have HR := Lib.hid hR
    clear hOn hR
    go_wp2_with fail
    go_ret
    exact ⟨_, rfl, fun h9 => absurd h9 h1, HOn.out, HR.out⟩
set_option maxHeartbeats 4000000 in
theorem l20Open_any (C : Option Addr) (bs : List Int) (c : Nat) (w : World) (hr : RF fu w C bs) (hb : ∀ x ∈ bs, 0 ≤ x ∧ x < 256) (hc : bs.length ≤ c) (hc2 : c ≤ 9223372036854775807) :
    Calls Try.prog 22 #[.slice C bs.length c] w fun e w' => ∃ g, e = .returned (.pointer (some ⟨g, 0, none⟩)) ∧ Rd w.heap.size w' g 1048576 ∧ Below w.heap.size w w' := by
  have hfar : ∀ b o, C = some ⟨b, o, none⟩ → 0 < bs.length → b < w.heap.size := fun b o e hl => by
    obtain ⟨b2, o2, x, rfl, -, -, h3⟩ := hr.at_ hl
    injection e with e; injection e with e1 e2; omega
  have HF := Lib.hid hfar
  have HR := Lib.hid hr
  have HB := Lib.hid hb
  clear hfar hr hb
  by_cases hl : bs.length ≤ 2000
  · go_enter Try.func22, Try.ntmps22
    go_wp2
    go_ret
    refine ⟨w.heap.size, rfl, ⟨C, bs, c, 0, by omega, ⟨by simp [go_sem], by simp [go_sem], fun o => by simp [go_sem], HR.out.below blw_, HB.out, HF.out, Nat.le_refl _, by simp, hl⟩⟩, blw_⟩
  · have hlt : (bs.take 2000).length = 2000 := by simp; omega
    have hc3 : 2000 ≤ c := by omega
    go_enter Try.func22, Try.ntmps22
    go_wp2
    go_ret
    refine ⟨w.heap.size, rfl, ⟨C, bs.take 2000, c, 0, by omega, ⟨by rw [hlt]; simp [go_sem], by simp [go_sem], fun o => by simp [go_sem], fun i hi => ?_, fun x hx => HB.out x (List.mem_of_mem_take hx), fun b o e _ => HF.out b o e (by omega), Nat.le_refl _, by simp, by omega⟩⟩, blw_⟩
    obtain ⟨b, o, x, h1, h2, h3⟩ := (HR.out.below (w' := w.alloc (.cells #[.slice C 2000 c, .int .i64 0] 86)) blw_) i (by omega)
    exact ⟨b, o, x, h1, by rw [List.getElem?_take_of_lt (by omega)]; exact h2, h3⟩
end Go.Proofs.Ytkikeanpbffpkaa

/- The reference's drawing: instructions. -/
namespace Go.Proofs.Ytkikeanpbffpkaa
open Go.RowKit
set_option maxRecDepth 100000
set_option linter.unusedSimpArgs false
set_option linter.unusedVariables false
/-- A region that draws its order, its ways laid under a name. -/
theorem wp_region_named {P : Program} {id : Nat} {ops : Array Oper} {Q : Exit → Act → World → Prop} {a : Act} {w : World} (hm : P.follows .mixedOrders = true)
    (h : ∀ R : Nat → Array Bool → Act → World → Prop, R = wpAny P .any ops Q → R ops.size (Array.replicate ops.size false) a w.drew) : (Code.region id ops true).wp P Q a w :=
  wp_region_any hm (h _ rfl)
/-- A box of four zeros. -/
structure BoxZ (lo : Nat) (w : World) (b : Nat) : Prop where
  c0 : w.cell? ⟨b, 0, none⟩ = some (.int .i64 0)
  c1 : w.cell? ⟨b, 1, none⟩ = some (.int .i64 0)
  c2 : w.cell? ⟨b, 2, none⟩ = some (.int .i64 0)
  c3 : w.cell? ⟨b, 3, none⟩ = some (.int .i64 0)
  fz : ∀ o, w.frozen? ⟨b, o, none⟩ = false
  ge : lo ≤ b
  lt : b < w.heap.size
theorem BoxZ.only {lo b g : Nat} {w w' : World} (h : BoxZ lo w b) (hOn : Only [g] w w') (hg : g < lo) : BoxZ lo w' b := by
  have hn : b ∉ [g] := by have := h.ge; simp; omega
  exact ⟨hOn.cell h.c0 hn, hOn.cell h.c1 hn, hOn.cell h.c2 hn, hOn.cell h.c3 hn, fun o => (World.frozen?_of_block (a := ⟨b, o, none⟩) (hOn.block b h.lt hn)).trans (h.fz o), h.ge, Nat.lt_of_lt_of_le h.lt hOn.size⟩
/-- A row of ten operations. -/
structure RowZ (lo : Nat) (w : World) (b : Nat) : Prop where
  at_ : ∀ k, k < 10 → ∃ op : Int, w.cell? ⟨b, k, none⟩ = some (.int .i64 op) ∧ 1 ≤ op ∧ op ≤ 6
  ge : lo ≤ b
  lt : b < w.heap.size
theorem RowZ.only {lo b g : Nat} {w w' : World} (h : RowZ lo w b) (hOn : Only [g] w w') (hg : g < lo) : RowZ lo w' b := by
  have hn : b ∉ [g] := by have := h.ge; simp; omega
  exact ⟨fun k hk => by obtain ⟨op, h1, h2⟩ := h.at_ k hk; exact ⟨op, hOn.cell h1 hn, h2⟩, h.ge, Nat.lt_of_lt_of_le h.lt hOn.size⟩
/-- A box of four values. -/
structure BoxV (lo : Nat) (w : World) (b : Nat) (v0 v1 v2 v3 : Value) : Prop where
  c0 : w.cell? ⟨b, 0, none⟩ = some v0
  c1 : w.cell? ⟨b, 1, none⟩ = some v1
  c2 : w.cell? ⟨b, 2, none⟩ = some v2
  c3 : w.cell? ⟨b, 3, none⟩ = some v3
  fz : ∀ o, w.frozen? ⟨b, o, none⟩ = false
  ge : lo ≤ b
  lt : b < w.heap.size
section
variable {lo b g : Nat} {w w' : World} {v0 v1 v2 v3 : Value}
theorem BoxV.only (h : BoxV lo w b v0 v1 v2 v3) (hOn : Only [g] w w') (hg : g < lo) : BoxV lo w' b v0 v1 v2 v3 := by
  have hn : b ∉ [g] := by have := h.ge; simp; omega
  exact ⟨hOn.cell h.c0 hn, hOn.cell h.c1 hn, hOn.cell h.c2 hn, hOn.cell h.c3 hn, fun o => (World.frozen?_of_block (a := ⟨b, o, none⟩) (hOn.block b h.lt hn)).trans (h.fz o), h.ge, Nat.lt_of_lt_of_le h.lt hOn.size⟩
theorem BoxV.below (h : BoxV lo w b v0 v1 v2 v3) (hB : Below w.heap.size w w') : BoxV lo w' b v0 v1 v2 v3 :=
  ⟨cell_below h.c0 hB, cell_below h.c1 hB, cell_below h.c2 hB, cell_below h.c3 hB, fun o => ((bcell hB).2.1 _ o h.lt).trans (h.fz o), h.ge, Nat.lt_of_lt_of_le h.lt hB.size⟩
theorem BoxV.s0 (h : BoxV lo w b v0 v1 v2 v3) (v : Value) : BoxV lo (w.setCell ⟨b, 0, none⟩ v) b v v1 v2 v3 :=
  ⟨by simp [go_sem, h.c0], by simp [go_sem, h.c1], by simp [go_sem, h.c2], by simp [go_sem, h.c3], fun o => by simpa [go_sem] using h.fz o, h.ge, by simpa using h.lt⟩
theorem BoxV.s1 (h : BoxV lo w b v0 v1 v2 v3) (v : Value) : BoxV lo (w.setCell ⟨b, 1, none⟩ v) b v0 v v2 v3 :=
  ⟨by simp [go_sem, h.c0], by simp [go_sem, h.c1], by simp [go_sem, h.c2], by simp [go_sem, h.c3], fun o => by simpa [go_sem] using h.fz o, h.ge, by simpa using h.lt⟩
theorem BoxV.s2 (h : BoxV lo w b v0 v1 v2 v3) (v : Value) : BoxV lo (w.setCell ⟨b, 2, none⟩ v) b v0 v1 v v3 :=
  ⟨by simp [go_sem, h.c0], by simp [go_sem, h.c1], by simp [go_sem, h.c2], by simp [go_sem, h.c3], fun o => by simpa [go_sem] using h.fz o, h.ge, by simpa using h.lt⟩
theorem BoxV.s3 (h : BoxV lo w b v0 v1 v2 v3) (v : Value) : BoxV lo (w.setCell ⟨b, 3, none⟩ v) b v0 v1 v2 v :=
  ⟨by simp [go_sem, h.c0], by simp [go_sem, h.c1], by simp [go_sem, h.c2], by simp [go_sem, h.c3], fun o => by simpa [go_sem] using h.fz o, h.ge, by simpa using h.lt⟩
end
theorem Only.al {S : List Nat} (w : World) (o : Obj) : Only S w (w.alloc o) := (Only.refl _ _).alloc _
def rowA : Array Value := #[.int .i64 1, .int .i64 1, .int .i64 1, .int .i64 2, .int .i64 3, .int .i64 3, .int .i64 3, .int .i64 4, .int .i64 5, .int .i64 6]
theorem opRow (k : Nat) (hk : k < 10) : ∃ op : Int, rowA[k]? = some (.int .i64 op) ∧ 1 ≤ op ∧ op ≤ 6 := by
  match k, hk with
  | 0, _ => exact ⟨1, rfl, by omega, by omega⟩
  | 1, _ => exact ⟨1, rfl, by omega, by omega⟩
  | 2, _ => exact ⟨1, rfl, by omega, by omega⟩
  | 3, _ => exact ⟨2, rfl, by omega, by omega⟩
  | 4, _ => exact ⟨3, rfl, by omega, by omega⟩
  | 5, _ => exact ⟨3, rfl, by omega, by omega⟩
  | 6, _ => exact ⟨3, rfl, by omega, by omega⟩
  | 7, _ => exact ⟨4, rfl, by omega, by omega⟩
  | 8, _ => exact ⟨5, rfl, by omega, by omega⟩
  | 9, _ => exact ⟨6, rfl, by omega, by omega⟩
theorem RowZ.new {lo : Nat} {w : World} (h : lo ≤ w.heap.size) : RowZ lo (w.alloc (.cells #[.int .i64 1, .int .i64 1, .int .i64 1, .int .i64 2, .int .i64 3, .int .i64 3, .int .i64 3, .int .i64 4, .int .i64 5, .int .i64 6] 3)) w.heap.size :=
  ⟨fun k hk => by obtain ⟨op, h1, h2⟩ := opRow k hk; exact ⟨op, (World.cell?_alloc_at _ _ _ k rfl).trans h1, h2⟩, h, by simp⟩
theorem BoxZ.new {lo : Nat} {w : World} (h : lo ≤ w.heap.size) (T : TypeId) : BoxZ lo (w.alloc (.cells #[.int .i64 0, .int .i64 0, .int .i64 0, .int .i64 0] T)) w.heap.size :=
  ⟨by simp [go_sem], by simp [go_sem], by simp [go_sem], by simp [go_sem], fun o => by simp [go_sem], h, by simp⟩
def cmdV (o : CmdM) : Value := .agg #[.int .i64 o.op, .int .i64 o.a, .int .i64 o.b, .int .i64 o.c]
set_option maxHeartbeats 4000000 in
theorem l20Command_any (lo g K : Nat) (n : Int) (w : World) (h : Rd lo w g (K + 16)) (hn1 : 0 ≤ n) (hn2 : n ≤ 1048576) :
    Calls Try.prog 24 #[.pointer (some ⟨g, 0, none⟩), .int .i64 n] w fun e w' => ∃ o : CmdM, e = .returned (cmdV o) ∧ (n = 0 → cmdOk o = true) ∧ Only [g] w w' ∧ Rd lo w' g K := by
  have H := Lib.hid h
  clear h
  have hlt := H.out.lt
  have hW1 : Below w.heap.size w ((w.alloc (.cells #[.int .i64 0, .int .i64 0, .int .i64 0, .int .i64 0] 30))) := blw_
  have HG0 : Hid (∀ W, Only [g] ((w.alloc (.cells #[.int .i64 0, .int .i64 0, .int .i64 0, .int .i64 0] 30))) W → (W.cell? ⟨w.heap.size, 0, none⟩ = some (.int .i64 0) ∧ W.cell? ⟨w.heap.size, 1, none⟩ = some (.int .i64 0) ∧ W.cell? ⟨w.heap.size, 2, none⟩ = some (.int .i64 0) ∧ W.cell? ⟨w.heap.size, 3, none⟩ = some (.int .i64 0) ∧ ∀ o, W.frozen? ⟨w.heap.size, o, none⟩ = false)) := fun W hW => ⟨hW.cell (by simp [go_sem]) (by simp; omega), hW.cell (by simp [go_sem]) (by simp; omega), hW.cell (by simp [go_sem]) (by simp; omega), hW.cell (by simp [go_sem]) (by simp; omega), fun o => (World.frozen?_of_block (a := ⟨w.heap.size, o, none⟩) (hW.block _ (by simp) (by simp; omega))).trans (by simp [go_sem])⟩
  have HO1 : Hid (Only [g] w ((w.alloc (.cells #[.int .i64 0, .int .i64 0, .int .i64 0, .int .i64 0] 30)))) := Only.of_below hW1
  have H1 := Lib.hid (H.out.below hW1)
  have HZ1 : Hid (((w.alloc (.cells #[.int .i64 0, .int .i64 0, .int .i64 0, .int .i64 0] 30))).heap.size = w.heap.size + 1) := by unfold Hid; simp
  have hgl : g < ((w.alloc (.cells #[.int .i64 0, .int .i64 0, .int .i64 0, .int .i64 0] 30))).heap.size := by simp; omega
  go_enter Try.func24, Try.ntmps24
  go_upto_region 1 with fail
  generalize ((w.alloc (.cells #[.int .i64 0, .int .i64 0, .int .i64 0, .int .i64 0] 30))) = W1 at *
  go_cut [5] (fun s5 W => ∃ (b : Nat) (op a : Int), s5 = .pointer (some ⟨b, 0, none⟩) ∧ Hid (1 ≤ op ∧ op ≤ 6 ∧ 0 ≤ a ∧ a ≤ 3) ∧ Hid (BoxV W1.heap.size W b (.int .i64 op) (.int .i64 a) (.int .i64 0) (.int .i64 0)) ∧ Hid (Rd lo W g (K + 14)) ∧ Hid (Only [g] W1 W))
  case first =>
    have hmono : ∀ {W W' : World}, Only [g] W1 W → Only [g] W W' → Only [g] W1 W' ∧ W1.heap.size ≤ W'.heap.size := fun h1 h2 => ⟨h1.trans h2, Nat.le_trans h1.size h2.size⟩
    refine wp_region_named (by kernel_rfl) (fun R hR => ?_)
    have n_02468 : ∀ (bA bB k a : Nat) (op : Int) (W : World), Only [g] W1 W → Hid (Rd lo W g (K + 14)) → BoxZ W1.heap.size W bA → Hid (RowZ W1.heap.size W bB) → (k : Int) < 10 → Hid (1 ≤ op ∧ op ≤ 6) → Hid ((a : Int) < 4) → R 1 #[true, true, true, true, true, true, true, true, true, false] ⟨#[.pointer (some ⟨g, 0, none⟩), .int .i64 n, undef, undef, .pointer (some ⟨w.heap.size, 0, none⟩), .pointer (some ⟨bA, 0, none⟩), .slice (some ⟨bB, 0, none⟩) 10 10, .pointer (some ⟨g, 0, none⟩), .int .i64 (k : Int), .pointer (some ⟨bB, k, none⟩), .int .i64 op, .pointer (some ⟨g, 0, none⟩), .int .i64 (a : Int), .agg #[.int .i64 op, .int .i64 (a : Int), .int .i64 0, .int .i64 0], undef, undef, undef, undef, undef, undef, undef, undef, undef, undef, undef, undef, undef, undef, undef, undef, undef, undef, undef, undef, undef, undef, undef, undef, undef, undef, undef, undef, undef, undef, undef, undef, undef, undef, undef, undef, undef, undef, undef, undef, undef, undef, undef, undef, undef, undef, undef, undef, undef, undef, undef, undef, undef, undef, undef, undef, undef, undef, undef, undef, undef, undef, undef, undef, undef, undef, undef, undef, undef, undef, undef, undef, undef, undef, undef, undef], []⟩ W := by
      intro bA bB k a op W hOn HRd hA hB hk hop ha
      rw [hR]
      refine wpAny_ready (rs := [9]) (by kernel_rfl) (by simp) ?_
      refine AllReady.cons rfl (fun K9 hK9 => ?_) ?_
      · have c0 := hA.c0
        have c1 := hA.c1
        have c2 := hA.c2
        have c3 := hA.c3
        have f0 := hA.fz 0
        have f1 := hA.fz 1
        have f2 := hA.fz 2
        have f3 := hA.fz 3
        go_simp
        refine hK9 _ _ ?_
        (try clear hK9)
        refine wpAny_done (by kernel_rfl) ?_ _
        go_wp2_with fail
        go_meet
        have hge := hA.ge
        have hV : BoxV W1.heap.size W bA (.int .i64 0) (.int .i64 0) (.int .i64 0) (.int .i64 0) := ⟨hA.c0, hA.c1, hA.c2, hA.c3, hA.fz, hA.ge, hA.lt⟩
        exact ⟨bA, op, (a : Int), rfl, ⟨hop.out.1, hop.out.2, by omega, by have := ha.out; omega⟩, (((hV.s0 _).s1 _).s2 _).s3 _, HRd.out.keep blw_, Only.setCell (Only.setCell (Only.setCell (Only.setCell hOn (.inr hge) _) (.inr hge) _) (.inr hge) _) (.inr hge) _⟩
      exact AllReady.nil
    have n_0246 : ∀ (bB k a : Nat) (op : Int) (W : World), Only [g] W1 W → Hid (Rd lo W g (K + 14)) → Hid (RowZ W1.heap.size W bB) → (k : Int) < 10 → Hid (1 ≤ op ∧ op ≤ 6) → Hid ((a : Int) < 4) → R 2 #[true, true, true, true, true, true, true, true, false, false] ⟨#[.pointer (some ⟨g, 0, none⟩), .int .i64 n, undef, undef, .pointer (some ⟨w.heap.size, 0, none⟩), undef, .slice (some ⟨bB, 0, none⟩) 10 10, .pointer (some ⟨g, 0, none⟩), .int .i64 (k : Int), .pointer (some ⟨bB, k, none⟩), .int .i64 op, .pointer (some ⟨g, 0, none⟩), .int .i64 (a : Int), .agg #[.int .i64 op, .int .i64 (a : Int), .int .i64 0, .int .i64 0], undef, undef, undef, undef, undef, undef, undef, undef, undef, undef, undef, undef, undef, undef, undef, undef, undef, undef, undef, undef, undef, undef, undef, undef, undef, undef, undef, undef, undef, undef, undef, undef, undef, undef, undef, undef, undef, undef, undef, undef, undef, undef, undef, undef, undef, undef, undef, undef, undef, undef, undef, undef, undef, undef, undef, undef, undef, undef, undef, undef, undef, undef, undef, undef, undef, undef, undef, undef, undef, undef, undef, undef, undef, undef, undef, undef], []⟩ W := by
      intro bB k a op W hOn HRd hB hk hop ha
      rw [hR]
      refine wpAny_ready (rs := [8]) (by kernel_rfl) (by simp) ?_
      refine AllReady.cons rfl (fun K9 hK9 => ?_) ?_
      · go_simp
        refine hK9 _ _ ?_
        (try clear hK9)
        rw [← hR]
        exact n_02468 W.heap.size bB k a op _ (hmono hOn (Only.al _ _)).1 (HRd.out.below ((Below.refl _ _).alloc (Nat.le_refl _) _)) (BoxZ.new hOn.size _) (hB.out.only (Only.al (S := [g]) _ _) hgl) hk hop ha
      exact AllReady.nil
    have n_0248 : ∀ (bA bB k : Nat) (op : Int) (W : World), Only [g] W1 W → Hid (Rd lo W g (K + 15)) → BoxZ W1.heap.size W bA → Hid (RowZ W1.heap.size W bB) → (k : Int) < 10 → Hid (1 ≤ op ∧ op ≤ 6) → R 3 #[true, true, true, true, true, true, false, false, true, false] ⟨#[.pointer (some ⟨g, 0, none⟩), .int .i64 n, undef, undef, .pointer (some ⟨w.heap.size, 0, none⟩), .pointer (some ⟨bA, 0, none⟩), .slice (some ⟨bB, 0, none⟩) 10 10, .pointer (some ⟨g, 0, none⟩), .int .i64 (k : Int), .pointer (some ⟨bB, k, none⟩), .int .i64 op, .pointer (some ⟨g, 0, none⟩), undef, undef, undef, undef, undef, undef, undef, undef, undef, undef, undef, undef, undef, undef, undef, undef, undef, undef, undef, undef, undef, undef, undef, undef, undef, undef, undef, undef, undef, undef, undef, undef, undef, undef, undef, undef, undef, undef, undef, undef, undef, undef, undef, undef, undef, undef, undef, undef, undef, undef, undef, undef, undef, undef, undef, undef, undef, undef, undef, undef, undef, undef, undef, undef, undef, undef, undef, undef, undef, undef, undef, undef, undef, undef, undef, undef, undef, undef], []⟩ W := by
      intro bA bB k op W hOn HRd hA hB hk hop
      rw [hR]
      refine wpAny_ready (rs := [6]) (by kernel_rfl) (by simp) ?_
      refine AllReady.cons rfl (fun K9 hK9 => ?_) ?_
      · go_wp2_with (go_at_call 62; (with_reducible refine (pick_any lo g (K + 14) 4 _ HRd.out (by omega) (by omega)).mono ?_); rintro e w2 ⟨a, rfl, ha1, -, hOn1, hR1⟩)
        have ha : Hid ((a : Int) < 4) := ha1 (by omega)
        (try (refine hK9 _ _ ?_))
        (try clear hK9)
        (refine wpAny_take (i := 7) (v := ?v9_1) rfl (by kernel_rfl) (by kernel_rfl) (by kernel_rfl) (fun _ _ _ h => h) (Or.inl ⟨by rfl, ?h9_1⟩) ?r9_1; (case h9_1 => (intro w9; go_simp; try with_reducible rfl)))
        rw [← hR]
        exact n_02468 bA bB k a op _ (hmono hOn hOn1).1 hR1 (hA.only hOn1 hgl) (hB.out.only hOn1 hgl) hk hop ha
      exact AllReady.nil
    have n_0268 : ∀ (bA bB k a : Nat) (W : World), Only [g] W1 W → Hid (Rd lo W g (K + 14)) → BoxZ W1.heap.size W bA → Hid (RowZ W1.heap.size W bB) → (k : Int) < 10 → Hid ((a : Int) < 4) → R 3 #[true, true, true, true, false, true, true, false, true, false] ⟨#[.pointer (some ⟨g, 0, none⟩), .int .i64 n, undef, undef, .pointer (some ⟨w.heap.size, 0, none⟩), .pointer (some ⟨bA, 0, none⟩), .slice (some ⟨bB, 0, none⟩) 10 10, .pointer (some ⟨g, 0, none⟩), .int .i64 (k : Int), .pointer (some ⟨bB, k, none⟩), undef, .pointer (some ⟨g, 0, none⟩), .int .i64 (a : Int), undef, undef, undef, undef, undef, undef, undef, undef, undef, undef, undef, undef, undef, undef, undef, undef, undef, undef, undef, undef, undef, undef, undef, undef, undef, undef, undef, undef, undef, undef, undef, undef, undef, undef, undef, undef, undef, undef, undef, undef, undef, undef, undef, undef, undef, undef, undef, undef, undef, undef, undef, undef, undef, undef, undef, undef, undef, undef, undef, undef, undef, undef, undef, undef, undef, undef, undef, undef, undef, undef, undef, undef, undef, undef, undef, undef, undef], []⟩ W := by
      intro bA bB k a W hOn HRd hA hB hk ha
      rw [hR]
      refine wpAny_ready (rs := [4]) (by kernel_rfl) (by simp) ?_
      refine AllReady.cons rfl (fun K9 hK9 => ?_) ?_
      · obtain ⟨op, hc, hop⟩ := hB.out.at_ k (by omega)
        have hop := Lib.hid hop
        go_simp
        refine hK9 _ _ ?_
        (try clear hK9)
        (refine wpAny_take (i := 7) (v := ?v9_2) rfl (by kernel_rfl) (by kernel_rfl) (by kernel_rfl) (fun _ _ _ h => h) (Or.inl ⟨by rfl, ?h9_2⟩) ?r9_2; (case h9_2 => (intro w9; go_simp; try with_reducible rfl)))
        rw [← hR]
        exact n_02468 bA bB k a op _ hOn HRd hA hB hk hop ha
      exact AllReady.nil
    have n_024 : ∀ (bB k : Nat) (op : Int) (W : World), Only [g] W1 W → Hid (Rd lo W g (K + 15)) → Hid (RowZ W1.heap.size W bB) → (k : Int) < 10 → Hid (1 ≤ op ∧ op ≤ 6) → R 4 #[true, true, true, true, true, true, false, false, false, false] ⟨#[.pointer (some ⟨g, 0, none⟩), .int .i64 n, undef, undef, .pointer (some ⟨w.heap.size, 0, none⟩), undef, .slice (some ⟨bB, 0, none⟩) 10 10, .pointer (some ⟨g, 0, none⟩), .int .i64 (k : Int), .pointer (some ⟨bB, k, none⟩), .int .i64 op, .pointer (some ⟨g, 0, none⟩), undef, undef, undef, undef, undef, undef, undef, undef, undef, undef, undef, undef, undef, undef, undef, undef, undef, undef, undef, undef, undef, undef, undef, undef, undef, undef, undef, undef, undef, undef, undef, undef, undef, undef, undef, undef, undef, undef, undef, undef, undef, undef, undef, undef, undef, undef, undef, undef, undef, undef, undef, undef, undef, undef, undef, undef, undef, undef, undef, undef, undef, undef, undef, undef, undef, undef, undef, undef, undef, undef, undef, undef, undef, undef, undef, undef, undef, undef], []⟩ W := by
      intro bB k op W hOn HRd hB hk hop
      rw [hR]
      refine wpAny_ready (rs := [6, 8]) (by kernel_rfl) (by simp) ?_
      refine AllReady.cons rfl (fun K9 hK9 => ?_) ?_
      · go_wp2_with (go_at_call 62; (with_reducible refine (pick_any lo g (K + 14) 4 _ HRd.out (by omega) (by omega)).mono ?_); rintro e w2 ⟨a, rfl, ha1, -, hOn1, hR1⟩)
        have ha : Hid ((a : Int) < 4) := ha1 (by omega)
        (try (refine hK9 _ _ ?_))
        (try clear hK9)
        (refine wpAny_take (i := 7) (v := ?v9_3) rfl (by kernel_rfl) (by kernel_rfl) (by kernel_rfl) (fun _ _ _ h => h) (Or.inl ⟨by rfl, ?h9_3⟩) ?r9_3; (case h9_3 => (intro w9; go_simp; try with_reducible rfl)))
        rw [← hR]
        exact n_0246 bB k a op _ (hmono hOn hOn1).1 hR1 (hB.out.only hOn1 hgl) hk hop ha
      refine AllReady.cons rfl (fun K9 hK9 => ?_) ?_
      · go_simp
        refine hK9 _ _ ?_
        (try clear hK9)
        rw [← hR]
        exact n_0248 W.heap.size bB k op _ (hmono hOn (Only.al _ _)).1 (HRd.out.below ((Below.refl _ _).alloc (Nat.le_refl _) _)) (BoxZ.new hOn.size _) (hB.out.only (Only.al (S := [g]) _ _) hgl) hk hop
      exact AllReady.nil
    have n_026 : ∀ (bB k a : Nat) (W : World), Only [g] W1 W → Hid (Rd lo W g (K + 14)) → Hid (RowZ W1.heap.size W bB) → (k : Int) < 10 → Hid ((a : Int) < 4) → R 4 #[true, true, true, true, false, true, true, false, false, false] ⟨#[.pointer (some ⟨g, 0, none⟩), .int .i64 n, undef, undef, .pointer (some ⟨w.heap.size, 0, none⟩), undef, .slice (some ⟨bB, 0, none⟩) 10 10, .pointer (some ⟨g, 0, none⟩), .int .i64 (k : Int), .pointer (some ⟨bB, k, none⟩), undef, .pointer (some ⟨g, 0, none⟩), .int .i64 (a : Int), undef, undef, undef, undef, undef, undef, undef, undef, undef, undef, undef, undef, undef, undef, undef, undef, undef, undef, undef, undef, undef, undef, undef, undef, undef, undef, undef, undef, undef, undef, undef, undef, undef, undef, undef, undef, undef, undef, undef, undef, undef, undef, undef, undef, undef, undef, undef, undef, undef, undef, undef, undef, undef, undef, undef, undef, undef, undef, undef, undef, undef, undef, undef, undef, undef, undef, undef, undef, undef, undef, undef, undef, undef, undef, undef, undef, undef], []⟩ W := by
      intro bB k a W hOn HRd hB hk ha
      rw [hR]
      refine wpAny_ready (rs := [4, 8]) (by kernel_rfl) (by simp) ?_
      refine AllReady.cons rfl (fun K9 hK9 => ?_) ?_
      · obtain ⟨op, hc, hop⟩ := hB.out.at_ k (by omega)
        have hop := Lib.hid hop
        go_simp
        refine hK9 _ _ ?_
        (try clear hK9)
        (refine wpAny_take (i := 7) (v := ?v9_4) rfl (by kernel_rfl) (by kernel_rfl) (by kernel_rfl) (fun _ _ _ h => h) (Or.inl ⟨by rfl, ?h9_4⟩) ?r9_4; (case h9_4 => (intro w9; go_simp; try with_reducible rfl)))
        rw [← hR]
        exact n_0246 bB k a op _ hOn HRd hB hk hop ha
      refine AllReady.cons rfl (fun K9 hK9 => ?_) ?_
      · go_simp
        refine hK9 _ _ ?_
        (try clear hK9)
        rw [← hR]
        exact n_0268 W.heap.size bB k a _ (hmono hOn (Only.al _ _)).1 (HRd.out.below ((Below.refl _ _).alloc (Nat.le_refl _) _)) (BoxZ.new hOn.size _) (hB.out.only (Only.al (S := [g]) _ _) hgl) hk ha
      exact AllReady.nil
    have n_028 : ∀ (bA bB k : Nat) (W : World), Only [g] W1 W → Hid (Rd lo W g (K + 15)) → BoxZ W1.heap.size W bA → Hid (RowZ W1.heap.size W bB) → (k : Int) < 10 → R 4 #[true, true, true, true, false, true, false, false, true, false] ⟨#[.pointer (some ⟨g, 0, none⟩), .int .i64 n, undef, undef, .pointer (some ⟨w.heap.size, 0, none⟩), .pointer (some ⟨bA, 0, none⟩), .slice (some ⟨bB, 0, none⟩) 10 10, .pointer (some ⟨g, 0, none⟩), .int .i64 (k : Int), .pointer (some ⟨bB, k, none⟩), undef, .pointer (some ⟨g, 0, none⟩), undef, undef, undef, undef, undef, undef, undef, undef, undef, undef, undef, undef, undef, undef, undef, undef, undef, undef, undef, undef, undef, undef, undef, undef, undef, undef, undef, undef, undef, undef, undef, undef, undef, undef, undef, undef, undef, undef, undef, undef, undef, undef, undef, undef, undef, undef, undef, undef, undef, undef, undef, undef, undef, undef, undef, undef, undef, undef, undef, undef, undef, undef, undef, undef, undef, undef, undef, undef, undef, undef, undef, undef, undef, undef, undef, undef, undef, undef], []⟩ W := by
      intro bA bB k W hOn HRd hA hB hk
      rw [hR]
      refine wpAny_ready (rs := [4, 6]) (by kernel_rfl) (by simp) ?_
      refine AllReady.cons rfl (fun K9 hK9 => ?_) ?_
      · obtain ⟨op, hc, hop⟩ := hB.out.at_ k (by omega)
        have hop := Lib.hid hop
        go_simp
        refine hK9 _ _ ?_
        (try clear hK9)
        rw [← hR]
        exact n_0248 bA bB k op _ hOn HRd hA hB hk hop
      refine AllReady.cons rfl (fun K9 hK9 => ?_) ?_
      · go_wp2_with (go_at_call 62; (with_reducible refine (pick_any lo g (K + 14) 4 _ HRd.out (by omega) (by omega)).mono ?_); rintro e w2 ⟨a, rfl, ha1, -, hOn1, hR1⟩)
        have ha : Hid ((a : Int) < 4) := ha1 (by omega)
        (try (refine hK9 _ _ ?_))
        (try clear hK9)
        rw [← hR]
        exact n_0268 bA bB k a _ (hmono hOn hOn1).1 hR1 (hA.only hOn1 hgl) (hB.out.only hOn1 hgl) hk ha
      exact AllReady.nil
    have n_268 : ∀ (bA k a : Nat) (W : World), Only [g] W1 W → Hid (Rd lo W g (K + 14)) → BoxZ W1.heap.size W bA → (k : Int) < 10 → Hid ((a : Int) < 4) → R 5 #[false, true, true, false, false, true, true, false, true, false] ⟨#[.pointer (some ⟨g, 0, none⟩), .int .i64 n, undef, undef, .pointer (some ⟨w.heap.size, 0, none⟩), .pointer (some ⟨bA, 0, none⟩), undef, .pointer (some ⟨g, 0, none⟩), .int .i64 (k : Int), undef, undef, .pointer (some ⟨g, 0, none⟩), .int .i64 (a : Int), undef, undef, undef, undef, undef, undef, undef, undef, undef, undef, undef, undef, undef, undef, undef, undef, undef, undef, undef, undef, undef, undef, undef, undef, undef, undef, undef, undef, undef, undef, undef, undef, undef, undef, undef, undef, undef, undef, undef, undef, undef, undef, undef, undef, undef, undef, undef, undef, undef, undef, undef, undef, undef, undef, undef, undef, undef, undef, undef, undef, undef, undef, undef, undef, undef, undef, undef, undef, undef, undef, undef, undef, undef, undef, undef, undef, undef], []⟩ W := by
      intro bA k a W hOn HRd hA hk ha
      rw [hR]
      refine wpAny_ready (rs := [0]) (by kernel_rfl) (by simp) ?_
      refine AllReady.cons rfl (fun K9 hK9 => ?_) ?_
      · go_simp
        refine hK9 _ _ ?_
        (try clear hK9)
        (refine wpAny_take (i := 3) (v := ?v9_5) rfl (by kernel_rfl) (by kernel_rfl) (by kernel_rfl) (fun _ _ _ h => h) (Or.inl ⟨by rfl, ?h9_5⟩) ?r9_5; (case h9_5 => (intro w9; go_simp; try with_reducible rfl)))
        rw [← hR]
        exact n_0268 bA W.heap.size k a _ (hmono hOn (Only.al _ _)).1 (HRd.out.below ((Below.refl _ _).alloc (Nat.le_refl _) _)) (hA.only (Only.al (S := [g]) _ _) hgl) (RowZ.new hOn.size) hk ha
      exact AllReady.nil
    have n_02 : ∀ (bB k : Nat) (W : World), Only [g] W1 W → Hid (Rd lo W g (K + 15)) → Hid (RowZ W1.heap.size W bB) → (k : Int) < 10 → R 5 #[true, true, true, true, false, true, false, false, false, false] ⟨#[.pointer (some ⟨g, 0, none⟩), .int .i64 n, undef, undef, .pointer (some ⟨w.heap.size, 0, none⟩), undef, .slice (some ⟨bB, 0, none⟩) 10 10, .pointer (some ⟨g, 0, none⟩), .int .i64 (k : Int), .pointer (some ⟨bB, k, none⟩), undef, .pointer (some ⟨g, 0, none⟩), undef, undef, undef, undef, undef, undef, undef, undef, undef, undef, undef, undef, undef, undef, undef, undef, undef, undef, undef, undef, undef, undef, undef, undef, undef, undef, undef, undef, undef, undef, undef, undef, undef, undef, undef, undef, undef, undef, undef, undef, undef, undef, undef, undef, undef, undef, undef, undef, undef, undef, undef, undef, undef, undef, undef, undef, undef, undef, undef, undef, undef, undef, undef, undef, undef, undef, undef, undef, undef, undef, undef, undef, undef, undef, undef, undef, undef, undef], []⟩ W := by
      intro bB k W hOn HRd hB hk
      rw [hR]
      refine wpAny_ready (rs := [4, 6, 8]) (by kernel_rfl) (by simp) ?_
      refine AllReady.cons rfl (fun K9 hK9 => ?_) ?_
      · obtain ⟨op, hc, hop⟩ := hB.out.at_ k (by omega)
        have hop := Lib.hid hop
        go_simp
        refine hK9 _ _ ?_
        (try clear hK9)
        rw [← hR]
        exact n_024 bB k op _ hOn HRd hB hk hop
      refine AllReady.cons rfl (fun K9 hK9 => ?_) ?_
      · go_wp2_with (go_at_call 62; (with_reducible refine (pick_any lo g (K + 14) 4 _ HRd.out (by omega) (by omega)).mono ?_); rintro e w2 ⟨a, rfl, ha1, -, hOn1, hR1⟩)
        have ha : Hid ((a : Int) < 4) := ha1 (by omega)
        (try (refine hK9 _ _ ?_))
        (try clear hK9)
        rw [← hR]
        exact n_026 bB k a _ (hmono hOn hOn1).1 hR1 (hB.out.only hOn1 hgl) hk ha
      refine AllReady.cons rfl (fun K9 hK9 => ?_) ?_
      · go_simp
        refine hK9 _ _ ?_
        (try clear hK9)
        rw [← hR]
        exact n_028 W.heap.size bB k _ (hmono hOn (Only.al _ _)).1 (HRd.out.below ((Below.refl _ _).alloc (Nat.le_refl _) _)) (BoxZ.new hOn.size _) (hB.out.only (Only.al (S := [g]) _ _) hgl) hk
      exact AllReady.nil
    have n_26 : ∀ (k a : Nat) (W : World), Only [g] W1 W → Hid (Rd lo W g (K + 14)) → (k : Int) < 10 → Hid ((a : Int) < 4) → R 6 #[false, true, true, false, false, true, true, false, false, false] ⟨#[.pointer (some ⟨g, 0, none⟩), .int .i64 n, undef, undef, .pointer (some ⟨w.heap.size, 0, none⟩), undef, undef, .pointer (some ⟨g, 0, none⟩), .int .i64 (k : Int), undef, undef, .pointer (some ⟨g, 0, none⟩), .int .i64 (a : Int), undef, undef, undef, undef, undef, undef, undef, undef, undef, undef, undef, undef, undef, undef, undef, undef, undef, undef, undef, undef, undef, undef, undef, undef, undef, undef, undef, undef, undef, undef, undef, undef, undef, undef, undef, undef, undef, undef, undef, undef, undef, undef, undef, undef, undef, undef, undef, undef, undef, undef, undef, undef, undef, undef, undef, undef, undef, undef, undef, undef, undef, undef, undef, undef, undef, undef, undef, undef, undef, undef, undef, undef, undef, undef, undef, undef, undef], []⟩ W := by
      intro k a W hOn HRd hk ha
      rw [hR]
      refine wpAny_ready (rs := [0, 8]) (by kernel_rfl) (by simp) ?_
      refine AllReady.cons rfl (fun K9 hK9 => ?_) ?_
      · go_simp
        refine hK9 _ _ ?_
        (try clear hK9)
        (refine wpAny_take (i := 3) (v := ?v9_6) rfl (by kernel_rfl) (by kernel_rfl) (by kernel_rfl) (fun _ _ _ h => h) (Or.inl ⟨by rfl, ?h9_6⟩) ?r9_6; (case h9_6 => (intro w9; go_simp; try with_reducible rfl)))
        rw [← hR]
        exact n_026 W.heap.size k a _ (hmono hOn (Only.al _ _)).1 (HRd.out.below ((Below.refl _ _).alloc (Nat.le_refl _) _)) (RowZ.new hOn.size) hk ha
      refine AllReady.cons rfl (fun K9 hK9 => ?_) ?_
      · go_simp
        refine hK9 _ _ ?_
        (try clear hK9)
        rw [← hR]
        exact n_268 W.heap.size k a _ (hmono hOn (Only.al _ _)).1 (HRd.out.below ((Below.refl _ _).alloc (Nat.le_refl _) _)) (BoxZ.new hOn.size _) hk ha
      exact AllReady.nil
    have n_08 : ∀ (bA bB : Nat) (W : World), Only [g] W1 W → Hid (Rd lo W g (K + 16)) → BoxZ W1.heap.size W bA → Hid (RowZ W1.heap.size W bB) → R 6 #[true, true, false, false, false, true, false, false, true, false] ⟨#[.pointer (some ⟨g, 0, none⟩), .int .i64 n, undef, undef, .pointer (some ⟨w.heap.size, 0, none⟩), .pointer (some ⟨bA, 0, none⟩), .slice (some ⟨bB, 0, none⟩) 10 10, .pointer (some ⟨g, 0, none⟩), undef, undef, undef, .pointer (some ⟨g, 0, none⟩), undef, undef, undef, undef, undef, undef, undef, undef, undef, undef, undef, undef, undef, undef, undef, undef, undef, undef, undef, undef, undef, undef, undef, undef, undef, undef, undef, undef, undef, undef, undef, undef, undef, undef, undef, undef, undef, undef, undef, undef, undef, undef, undef, undef, undef, undef, undef, undef, undef, undef, undef, undef, undef, undef, undef, undef, undef, undef, undef, undef, undef, undef, undef, undef, undef, undef, undef, undef, undef, undef, undef, undef, undef, undef, undef, undef, undef, undef], []⟩ W := by
      intro bA bB W hOn HRd hA hB
      rw [hR]
      refine wpAny_ready (rs := [2]) (by kernel_rfl) (by simp) ?_
      refine AllReady.cons rfl (fun K9 hK9 => ?_) ?_
      · go_wp2_with (go_at_call 62; (with_reducible refine (pick_any lo g (K + 15) 10 _ HRd.out (by omega) (by omega)).mono ?_); rintro e w2 ⟨k, rfl, hk1, -, hOn1, hR1⟩)
        have hk : (k : Int) < 10 := hk1 (by omega)
        (try (refine hK9 _ _ ?_))
        (try clear hK9)
        (refine wpAny_take (i := 3) (v := ?v9_7) rfl (by kernel_rfl) (by kernel_rfl) (by kernel_rfl) (fun _ _ _ h => h) (Or.inl ⟨by rfl, ?h9_7⟩) ?r9_7; (case h9_7 => (intro w9; go_simp; try with_reducible rfl)))
        rw [← hR]
        exact n_028 bA bB k _ (hmono hOn hOn1).1 hR1 (hA.only hOn1 hgl) (hB.out.only hOn1 hgl) hk
      exact AllReady.nil
    have n_28 : ∀ (bA k : Nat) (W : World), Only [g] W1 W → Hid (Rd lo W g (K + 15)) → BoxZ W1.heap.size W bA → (k : Int) < 10 → R 6 #[false, true, true, false, false, true, false, false, true, false] ⟨#[.pointer (some ⟨g, 0, none⟩), .int .i64 n, undef, undef, .pointer (some ⟨w.heap.size, 0, none⟩), .pointer (some ⟨bA, 0, none⟩), undef, .pointer (some ⟨g, 0, none⟩), .int .i64 (k : Int), undef, undef, .pointer (some ⟨g, 0, none⟩), undef, undef, undef, undef, undef, undef, undef, undef, undef, undef, undef, undef, undef, undef, undef, undef, undef, undef, undef, undef, undef, undef, undef, undef, undef, undef, undef, undef, undef, undef, undef, undef, undef, undef, undef, undef, undef, undef, undef, undef, undef, undef, undef, undef, undef, undef, undef, undef, undef, undef, undef, undef, undef, undef, undef, undef, undef, undef, undef, undef, undef, undef, undef, undef, undef, undef, undef, undef, undef, undef, undef, undef, undef, undef, undef, undef, undef, undef], []⟩ W := by
      intro bA k W hOn HRd hA hk
      rw [hR]
      refine wpAny_ready (rs := [0, 6]) (by kernel_rfl) (by simp) ?_
      refine AllReady.cons rfl (fun K9 hK9 => ?_) ?_
      · go_simp
        refine hK9 _ _ ?_
        (try clear hK9)
        (refine wpAny_take (i := 3) (v := ?v9_8) rfl (by kernel_rfl) (by kernel_rfl) (by kernel_rfl) (fun _ _ _ h => h) (Or.inl ⟨by rfl, ?h9_8⟩) ?r9_8; (case h9_8 => (intro w9; go_simp; try with_reducible rfl)))
        rw [← hR]
        exact n_028 bA W.heap.size k _ (hmono hOn (Only.al _ _)).1 (HRd.out.below ((Below.refl _ _).alloc (Nat.le_refl _) _)) (hA.only (Only.al (S := [g]) _ _) hgl) (RowZ.new hOn.size) hk
      refine AllReady.cons rfl (fun K9 hK9 => ?_) ?_
      · go_wp2_with (go_at_call 62; (with_reducible refine (pick_any lo g (K + 14) 4 _ HRd.out (by omega) (by omega)).mono ?_); rintro e w2 ⟨a, rfl, ha1, -, hOn1, hR1⟩)
        have ha : Hid ((a : Int) < 4) := ha1 (by omega)
        (try (refine hK9 _ _ ?_))
        (try clear hK9)
        rw [← hR]
        exact n_268 bA k a _ (hmono hOn hOn1).1 hR1 (hA.only hOn1 hgl) hk ha
      exact AllReady.nil
    have n_0 : ∀ (bB : Nat) (W : World), Only [g] W1 W → Hid (Rd lo W g (K + 16)) → Hid (RowZ W1.heap.size W bB) → R 7 #[true, true, false, false, false, true, false, false, false, false] ⟨#[.pointer (some ⟨g, 0, none⟩), .int .i64 n, undef, undef, .pointer (some ⟨w.heap.size, 0, none⟩), undef, .slice (some ⟨bB, 0, none⟩) 10 10, .pointer (some ⟨g, 0, none⟩), undef, undef, undef, .pointer (some ⟨g, 0, none⟩), undef, undef, undef, undef, undef, undef, undef, undef, undef, undef, undef, undef, undef, undef, undef, undef, undef, undef, undef, undef, undef, undef, undef, undef, undef, undef, undef, undef, undef, undef, undef, undef, undef, undef, undef, undef, undef, undef, undef, undef, undef, undef, undef, undef, undef, undef, undef, undef, undef, undef, undef, undef, undef, undef, undef, undef, undef, undef, undef, undef, undef, undef, undef, undef, undef, undef, undef, undef, undef, undef, undef, undef, undef, undef, undef, undef, undef, undef], []⟩ W := by
      intro bB W hOn HRd hB
      rw [hR]
      refine wpAny_ready (rs := [2, 8]) (by kernel_rfl) (by simp) ?_
      refine AllReady.cons rfl (fun K9 hK9 => ?_) ?_
      · go_wp2_with (go_at_call 62; (with_reducible refine (pick_any lo g (K + 15) 10 _ HRd.out (by omega) (by omega)).mono ?_); rintro e w2 ⟨k, rfl, hk1, -, hOn1, hR1⟩)
        have hk : (k : Int) < 10 := hk1 (by omega)
        (try (refine hK9 _ _ ?_))
        (try clear hK9)
        (refine wpAny_take (i := 3) (v := ?v9_9) rfl (by kernel_rfl) (by kernel_rfl) (by kernel_rfl) (fun _ _ _ h => h) (Or.inl ⟨by rfl, ?h9_9⟩) ?r9_9; (case h9_9 => (intro w9; go_simp; try with_reducible rfl)))
        rw [← hR]
        exact n_02 bB k _ (hmono hOn hOn1).1 hR1 (hB.out.only hOn1 hgl) hk
      refine AllReady.cons rfl (fun K9 hK9 => ?_) ?_
      · go_simp
        refine hK9 _ _ ?_
        (try clear hK9)
        rw [← hR]
        exact n_08 W.heap.size bB _ (hmono hOn (Only.al _ _)).1 (HRd.out.below ((Below.refl _ _).alloc (Nat.le_refl _) _)) (BoxZ.new hOn.size _) (hB.out.only (Only.al (S := [g]) _ _) hgl)
      exact AllReady.nil
    have n_2 : ∀ (k : Nat) (W : World), Only [g] W1 W → Hid (Rd lo W g (K + 15)) → (k : Int) < 10 → R 7 #[false, true, true, false, false, true, false, false, false, false] ⟨#[.pointer (some ⟨g, 0, none⟩), .int .i64 n, undef, undef, .pointer (some ⟨w.heap.size, 0, none⟩), undef, undef, .pointer (some ⟨g, 0, none⟩), .int .i64 (k : Int), undef, undef, .pointer (some ⟨g, 0, none⟩), undef, undef, undef, undef, undef, undef, undef, undef, undef, undef, undef, undef, undef, undef, undef, undef, undef, undef, undef, undef, undef, undef, undef, undef, undef, undef, undef, undef, undef, undef, undef, undef, undef, undef, undef, undef, undef, undef, undef, undef, undef, undef, undef, undef, undef, undef, undef, undef, undef, undef, undef, undef, undef, undef, undef, undef, undef, undef, undef, undef, undef, undef, undef, undef, undef, undef, undef, undef, undef, undef, undef, undef, undef, undef, undef, undef, undef, undef], []⟩ W := by
      intro k W hOn HRd hk
      rw [hR]
      refine wpAny_ready (rs := [0, 6, 8]) (by kernel_rfl) (by simp) ?_
      refine AllReady.cons rfl (fun K9 hK9 => ?_) ?_
      · go_simp
        refine hK9 _ _ ?_
        (try clear hK9)
        (refine wpAny_take (i := 3) (v := ?v9_10) rfl (by kernel_rfl) (by kernel_rfl) (by kernel_rfl) (fun _ _ _ h => h) (Or.inl ⟨by rfl, ?h9_10⟩) ?r9_10; (case h9_10 => (intro w9; go_simp; try with_reducible rfl)))
        rw [← hR]
        exact n_02 W.heap.size k _ (hmono hOn (Only.al _ _)).1 (HRd.out.below ((Below.refl _ _).alloc (Nat.le_refl _) _)) (RowZ.new hOn.size) hk
      refine AllReady.cons rfl (fun K9 hK9 => ?_) ?_
      · go_wp2_with (go_at_call 62; (with_reducible refine (pick_any lo g (K + 14) 4 _ HRd.out (by omega) (by omega)).mono ?_); rintro e w2 ⟨a, rfl, ha1, -, hOn1, hR1⟩)
        have ha : Hid ((a : Int) < 4) := ha1 (by omega)
        (try (refine hK9 _ _ ?_))
        (try clear hK9)
        rw [← hR]
        exact n_26 k a _ (hmono hOn hOn1).1 hR1 hk ha
      refine AllReady.cons rfl (fun K9 hK9 => ?_) ?_
      · go_simp
        refine hK9 _ _ ?_
        (try clear hK9)
        rw [← hR]
        exact n_28 W.heap.size k _ (hmono hOn (Only.al _ _)).1 (HRd.out.below ((Below.refl _ _).alloc (Nat.le_refl _) _)) (BoxZ.new hOn.size _) hk
      exact AllReady.nil
    have n_8 : ∀ (bA : Nat) (W : World), Only [g] W1 W → Hid (Rd lo W g (K + 16)) → BoxZ W1.heap.size W bA → R 7 #[false, true, false, false, false, true, false, false, true, false] ⟨#[.pointer (some ⟨g, 0, none⟩), .int .i64 n, undef, undef, .pointer (some ⟨w.heap.size, 0, none⟩), .pointer (some ⟨bA, 0, none⟩), undef, .pointer (some ⟨g, 0, none⟩), undef, undef, undef, .pointer (some ⟨g, 0, none⟩), undef, undef, undef, undef, undef, undef, undef, undef, undef, undef, undef, undef, undef, undef, undef, undef, undef, undef, undef, undef, undef, undef, undef, undef, undef, undef, undef, undef, undef, undef, undef, undef, undef, undef, undef, undef, undef, undef, undef, undef, undef, undef, undef, undef, undef, undef, undef, undef, undef, undef, undef, undef, undef, undef, undef, undef, undef, undef, undef, undef, undef, undef, undef, undef, undef, undef, undef, undef, undef, undef, undef, undef, undef, undef, undef, undef, undef, undef], []⟩ W := by
      intro bA W hOn HRd hA
      rw [hR]
      refine wpAny_ready (rs := [0, 2]) (by kernel_rfl) (by simp) ?_
      refine AllReady.cons rfl (fun K9 hK9 => ?_) ?_
      · go_simp
        refine hK9 _ _ ?_
        (try clear hK9)
        rw [← hR]
        exact n_08 bA W.heap.size _ (hmono hOn (Only.al _ _)).1 (HRd.out.below ((Below.refl _ _).alloc (Nat.le_refl _) _)) (hA.only (Only.al (S := [g]) _ _) hgl) (RowZ.new hOn.size)
      refine AllReady.cons rfl (fun K9 hK9 => ?_) ?_
      · go_wp2_with (go_at_call 62; (with_reducible refine (pick_any lo g (K + 15) 10 _ HRd.out (by omega) (by omega)).mono ?_); rintro e w2 ⟨k, rfl, hk1, -, hOn1, hR1⟩)
        have hk : (k : Int) < 10 := hk1 (by omega)
        (try (refine hK9 _ _ ?_))
        (try clear hK9)
        rw [← hR]
        exact n_28 bA k _ (hmono hOn hOn1).1 hR1 (hA.only hOn1 hgl) hk
      exact AllReady.nil
    have n_ : ∀ (W : World), Only [g] W1 W → Hid (Rd lo W g (K + 16)) → R 8 #[false, true, false, false, false, true, false, false, false, false] ⟨#[.pointer (some ⟨g, 0, none⟩), .int .i64 n, undef, undef, .pointer (some ⟨w.heap.size, 0, none⟩), undef, undef, .pointer (some ⟨g, 0, none⟩), undef, undef, undef, .pointer (some ⟨g, 0, none⟩), undef, undef, undef, undef, undef, undef, undef, undef, undef, undef, undef, undef, undef, undef, undef, undef, undef, undef, undef, undef, undef, undef, undef, undef, undef, undef, undef, undef, undef, undef, undef, undef, undef, undef, undef, undef, undef, undef, undef, undef, undef, undef, undef, undef, undef, undef, undef, undef, undef, undef, undef, undef, undef, undef, undef, undef, undef, undef, undef, undef, undef, undef, undef, undef, undef, undef, undef, undef, undef, undef, undef, undef, undef, undef, undef, undef, undef, undef], []⟩ W := by
      intro W hOn HRd
      rw [hR]
      refine wpAny_ready (rs := [0, 2, 8]) (by kernel_rfl) (by simp) ?_
      refine AllReady.cons rfl (fun K9 hK9 => ?_) ?_
      · go_simp
        refine hK9 _ _ ?_
        (try clear hK9)
        rw [← hR]
        exact n_0 W.heap.size _ (hmono hOn (Only.al _ _)).1 (HRd.out.below ((Below.refl _ _).alloc (Nat.le_refl _) _)) (RowZ.new hOn.size)
      refine AllReady.cons rfl (fun K9 hK9 => ?_) ?_
      · go_wp2_with (go_at_call 62; (with_reducible refine (pick_any lo g (K + 15) 10 _ HRd.out (by omega) (by omega)).mono ?_); rintro e w2 ⟨k, rfl, hk1, -, hOn1, hR1⟩)
        have hk : (k : Int) < 10 := hk1 (by omega)
        (try (refine hK9 _ _ ?_))
        (try clear hK9)
        rw [← hR]
        exact n_2 k _ (hmono hOn hOn1).1 hR1 hk
      refine AllReady.cons rfl (fun K9 hK9 => ?_) ?_
      · go_simp
        refine hK9 _ _ ?_
        (try clear hK9)
        rw [← hR]
        exact n_8 W.heap.size _ (hmono hOn (Only.al _ _)).1 (HRd.out.below ((Below.refl _ _).alloc (Nat.le_refl _) _)) (BoxZ.new hOn.size _)
      exact AllReady.nil
    rw [hR]
    (refine wpAny_take (i := 1) (v := ?v9_11) rfl (by kernel_rfl) (by kernel_rfl) (by kernel_rfl) (fun _ _ _ h => h) (Or.inl ⟨by rfl, ?h9_11⟩) ?r9_11; (case h9_11 => (intro w9; go_simp; try with_reducible rfl)))
    (refine wpAny_take (i := 5) (v := ?v9_12) rfl (by kernel_rfl) (by kernel_rfl) (by kernel_rfl) (fun _ _ _ h => h) (Or.inl ⟨by rfl, ?h9_12⟩) ?r9_12; (case h9_12 => (intro w9; go_simp; try with_reducible rfl)))
    rw [← hR]
    exact n_ _ (Only.of_below ((Below.refl _ _).drew)) (H1.out.keep ((Below.refl _ _).drew))
  case rest =>
    obtain ⟨b, op, a, rfl, HOA, HV, HR, HOn⟩ := hcut
    obtain ⟨W2, hW2⟩ : ∃ x, x = wc := ⟨_, rfl⟩
    subst hW2
    have c0 := HV.out.c0
    go_upto_block 0 with fail
    go_cut [5] (fun s5 W => ∃ (o : CmdM), s5 = .pointer (some ⟨b, 0, none⟩) ∧ Hid (cmdOk o = true) ∧ Hid (BoxV W1.heap.size W b (.int .i64 o.op) (.int .i64 o.a) (.int .i64 o.b) (.int .i64 o.c)) ∧ Hid (Rd lo W g (K + 8)) ∧ Hid (Only [g] W1 W))
    case first =>
      have ho6 : op = 1 ∨ op = 2 ∨ op = 3 ∨ op = 4 ∨ op = 5 ∨ op = 6 := by have := HOA.out; omega
      have ha3 := HOA.out.2.2
      have hbW := HV.out.ge
      have hgb : g + 1 ≤ b := by omega
      have hzb := HV.out.lt
      clear c0 HOA
      rcases ho6 with rfl | rfl | rfl | rfl | rfl | rfl
      · go_wp2_with fail
        (with_reducible refine (pick_any lo g (K + 13) 4 _ HR.out (by omega) (by omega)).mono ?_); rintro e w3 ⟨x1, rfl, hx1, -, hO3, hR3⟩
        have hx1I := hx1 (by omega)
        have HR3 := Lib.hid hR3
        have HV3 := Lib.hid (HV.out.only hO3 hgl)
        have HOn3 : Hid (Only [g] W1 w3) := HOn.out.trans hO3
        have hzb3 := HV3.out.lt
        clear hO3 hR3
        go_wp2_with fail
        (with_reducible refine (pick_any lo g (K + 12) 3 _ HR3.out (by omega) (by omega)).mono ?_); rintro e w4 ⟨x2, rfl, hx2, -, hO4, hR4⟩
        have hx2I := hx2 (by omega)
        have HR4 := Lib.hid hR4
        have HV4 := Lib.hid (HV3.out.only hO4 hgl)
        have HOn4 : Hid (Only [g] W1 w4) := HOn3.out.trans hO4
        have hzb4 := HV4.out.lt
        clear hO4 hR4
        go_wp2_with fail
        (with_reducible refine (pick_any lo g (K + 11) 2 _ (HR4.out.keep blw_) (by omega) (by omega)).mono ?_); rintro e w5 ⟨x3, rfl, hx3, -, hO5, hR5⟩
        have hx3I := hx3 (by omega)
        have HR5 := Lib.hid hR5
        have HV5 := Lib.hid ((HV4.out.below blw_).only hO5 hgl)
        have HOn5 : Hid (Only [g] W1 w5) := (Only.alloc HOn4.out _).trans hO5
        have hzb5 := HV5.out.lt
        have hn9 : w4.heap.size ∉ [g] := by simp; omega
        have l0 : w5.cell? ⟨w4.heap.size, 0, none⟩ = some (.int .i64 (x1 : Int)) := hO5.cell (by simp [go_sem]) hn9
        have l1 : w5.cell? ⟨w4.heap.size, 1, none⟩ = some (.int .i64 (1 + (x2 : Int))) := hO5.cell (by simp [go_sem]) hn9
        clear hO5 hR5
        have c2 := HV5.out.c2
        have f2 := HV5.out.fz 2
        have hx3 : x3 = 0 ∨ x3 = 1 := by omega
        rcases hx3 with rfl | rfl
        · go_wp2_with fail
          (with_reducible refine (pick_any lo g (K + 10) 100 _ (HR5.out.keep blw_) (by omega) (by omega)).mono ?_); rintro e w6 ⟨x4, rfl, hx4, -, hO6, hR6⟩
          have hx4I := hx4 (by omega)
          have HR6 := Lib.hid hR6
          have HV6 := Lib.hid ((HV5.out.s2 (.int .i64 (x1 : Int))).only hO6 hgl)
          have HOn6 : Hid (Only [g] W1 w6) := (Only.setCell HOn5.out (.inr hbW) _).trans hO6
          have hzb6 := HV6.out.lt
          clear hO6 hR6
          clear c2 f2 l0 l1
          have c3 := HV6.out.c3
          have f3 := HV6.out.fz 3
          go_wp2_with fail
          go_meet
          exact ⟨⟨1, a, (x1 : Int), (x4 : Int)⟩, rfl, (by unfold Hid cmdOk; simp [inB, maxB, maxC]; omega), HV6.out.s3 _, (HR6.out.le (by omega)).keep blw_, (Only.setCell HOn6.out (.inr hbW) _)⟩
        · go_wp2_with fail
          (with_reducible refine (pick_any lo g (K + 10) 100 _ (HR5.out.keep blw_) (by omega) (by omega)).mono ?_); rintro e w6 ⟨x4, rfl, hx4, -, hO6, hR6⟩
          have hx4I := hx4 (by omega)
          have HR6 := Lib.hid hR6
          have HV6 := Lib.hid ((HV5.out.s2 (.int .i64 (1 + (x2 : Int)))).only hO6 hgl)
          have HOn6 : Hid (Only [g] W1 w6) := (Only.setCell HOn5.out (.inr hbW) _).trans hO6
          have hzb6 := HV6.out.lt
          clear hO6 hR6
          clear c2 f2 l0 l1
          have c3 := HV6.out.c3
          have f3 := HV6.out.fz 3
          go_wp2_with fail
          go_meet
          exact ⟨⟨1, a, (1 + (x2 : Int)), (x4 : Int)⟩, rfl, (by unfold Hid cmdOk; simp [inB, maxB, maxC]; omega), HV6.out.s3 _, (HR6.out.le (by omega)).keep blw_, (Only.setCell HOn6.out (.inr hbW) _)⟩
      · go_wp2_with fail
        (with_reducible refine (pick_any lo g (K + 13) 4 _ HR.out (by omega) (by omega)).mono ?_); rintro e w3 ⟨x1, rfl, hx1, -, hO3, hR3⟩
        have hx1I := hx1 (by omega)
        have HR3 := Lib.hid hR3
        have HV3 := Lib.hid (HV.out.only hO3 hgl)
        have HOn3 : Hid (Only [g] W1 w3) := HOn.out.trans hO3
        have hzb3 := HV3.out.lt
        clear hO3 hR3
        have c2 := HV3.out.c2
        have f2 := HV3.out.fz 2
        go_wp2_with fail
        (with_reducible refine (pick_any lo g (K + 12) 3 _ (HR3.out.keep blw_) (by omega) (by omega)).mono ?_); rintro e w4 ⟨x2, rfl, hx2, -, hO4, hR4⟩
        have hx2I := hx2 (by omega)
        have HR4 := Lib.hid hR4
        have HV4 := Lib.hid ((HV3.out.s2 (.int .i64 (x1 : Int))).only hO4 hgl)
        have HOn4 : Hid (Only [g] W1 w4) := (Only.setCell HOn3.out (.inr hbW) _).trans hO4
        have hzb4 := HV4.out.lt
        clear hO4 hR4
        clear c2 f2
        go_wp2_with fail
        (with_reducible refine (pick_any lo g (K + 11) (1 + (x2 : Int)) _ HR4.out (by omega) (by omega)).mono ?_); rintro e w5 ⟨x3, rfl, hx3, -, hO5, hR5⟩
        have hx3I := hx3 (by omega)
        have HR5 := Lib.hid hR5
        have HV5 := Lib.hid (HV4.out.only hO5 hgl)
        have HOn5 : Hid (Only [g] W1 w5) := HOn4.out.trans hO5
        have hzb5 := HV5.out.lt
        clear hO5 hR5
        have c3 := HV5.out.c3
        have f3 := HV5.out.fz 3
        go_wp2_with fail
        go_meet
        exact ⟨⟨2, a, (x1 : Int), (x3 : Int)⟩, rfl, (by unfold Hid cmdOk; simp [inB, maxB, maxC]; omega), HV5.out.s3 _, (HR5.out.le (by omega)).keep blw_, (Only.setCell HOn5.out (.inr hbW) _)⟩
      · go_wp2_with fail
        (with_reducible refine (pick_any lo g (K + 13) 4 _ HR.out (by omega) (by omega)).mono ?_); rintro e w3 ⟨x1, rfl, hx1, -, hO3, hR3⟩
        have hx1I := hx1 (by omega)
        have HR3 := Lib.hid hR3
        have HV3 := Lib.hid (HV.out.only hO3 hgl)
        have HOn3 : Hid (Only [g] W1 w3) := HOn.out.trans hO3
        have hzb3 := HV3.out.lt
        clear hO3 hR3
        have c2 := HV3.out.c2
        have f2 := HV3.out.fz 2
        go_wp2_with fail
        (with_reducible refine (pick_any lo g (K + 12) 3 _ (HR3.out.keep blw_) (by omega) (by omega)).mono ?_); rintro e w4 ⟨x2, rfl, hx2, -, hO4, hR4⟩
        have hx2I := hx2 (by omega)
        have HR4 := Lib.hid hR4
        have HV4 := Lib.hid ((HV3.out.s2 (.int .i64 (x1 : Int))).only hO4 hgl)
        have HOn4 : Hid (Only [g] W1 w4) := (Only.setCell HOn3.out (.inr hbW) _).trans hO4
        have hzb4 := HV4.out.lt
        clear hO4 hR4
        clear c2 f2
        go_wp2_with fail
        (with_reducible refine (pick_any lo g (K + 11) (1 + (x2 : Int)) _ HR4.out (by omega) (by omega)).mono ?_); rintro e w5 ⟨x3, rfl, hx3, -, hO5, hR5⟩
        have hx3I := hx3 (by omega)
        have HR5 := Lib.hid hR5
        have HV5 := Lib.hid (HV4.out.only hO5 hgl)
        have HOn5 : Hid (Only [g] W1 w5) := HOn4.out.trans hO5
        have hzb5 := HV5.out.lt
        clear hO5 hR5
        have c3 := HV5.out.c3
        have f3 := HV5.out.fz 3
        go_wp2_with fail
        go_meet
        exact ⟨⟨3, a, (x1 : Int), (x3 : Int)⟩, rfl, (by unfold Hid cmdOk; simp [inB, maxB, maxC]; omega), HV5.out.s3 _, (HR5.out.le (by omega)).keep blw_, (Only.setCell HOn5.out (.inr hbW) _)⟩
      · go_wp2_with fail
        (with_reducible refine (pick_any lo g (K + 13) 4 _ HR.out (by omega) (by omega)).mono ?_); rintro e w3 ⟨x1, rfl, hx1, -, hO3, hR3⟩
        have hx1I := hx1 (by omega)
        have HR3 := Lib.hid hR3
        have HV3 := Lib.hid (HV.out.only hO3 hgl)
        have HOn3 : Hid (Only [g] W1 w3) := HOn.out.trans hO3
        have hzb3 := HV3.out.lt
        clear hO3 hR3
        have c2 := HV3.out.c2
        have f2 := HV3.out.fz 2
        go_wp2_with fail
        go_meet
        exact ⟨⟨4, a, (x1 : Int), 0⟩, rfl, (by unfold Hid cmdOk; simp [inB, maxB, maxC]; omega), HV3.out.s2 _, (HR3.out.le (by omega)).keep blw_, (Only.setCell HOn3.out (.inr hbW) _)⟩
      · go_wp2_with fail
        go_meet
        exact ⟨⟨5, a, 0, 0⟩, rfl, (by unfold Hid cmdOk; simp [inB, maxB, maxC]; omega), HV.out, HR.out.le (by omega), HOn.out⟩
      · go_wp2_with fail
        (with_reducible refine (pick_any lo g (K + 13) 100 _ HR.out (by omega) (by omega)).mono ?_); rintro e w3 ⟨x1, rfl, hx1, -, hO3, hR3⟩
        have hx1I := hx1 (by omega)
        have HR3 := Lib.hid hR3
        have HV3 := Lib.hid (HV.out.only hO3 hgl)
        have HOn3 : Hid (Only [g] W1 w3) := HOn.out.trans hO3
        have hzb3 := HV3.out.lt
        clear hO3 hR3
        have c2 := HV3.out.c2
        have f2 := HV3.out.fz 2
        go_wp2_with fail
        go_meet
        exact ⟨⟨6, a, (x1 : Int), 0⟩, rfl, (by unfold Hid cmdOk; simp [inB, maxB, maxC]; omega), HV3.out.s2 _, (HR3.out.le (by omega)).keep blw_, (Only.setCell HOn3.out (.inr hbW) _)⟩
    case rest =>
      clear HV HR HOn c0 HOA
      obtain ⟨o, rfl, HCK, HV, HR, HOn⟩ := hcut
      obtain ⟨W3, hW3⟩ : ∃ x, x = wc := ⟨_, rfl⟩
      subst hW3
      have hbW := HV.out.ge
      have hgb : g + 1 ≤ b := by omega
      have hzb := HV.out.lt
      have hwb : w.heap.size < b := by have := HZ1.out; omega
      go_wp2_with fail
      (with_reducible refine (odd_any lo g (K + 7) n _ HR.out hn1 hn2).mono ?_); rintro e w3 ⟨d, rfl, hd, hO3, hR3⟩
      have HD := Lib.hid hd
      have HR3 := Lib.hid hR3
      have HV3 := Lib.hid (HV.out.only hO3 hgl)
      have HOn3 : Hid (Only [g] W1 w3) := HOn.out.trans hO3
      have hzb3 := HV3.out.lt
      clear hd hR3 hO3 HV HR HOn hzb
      rcases bool_ft d with rfl | rfl
      · have hk0 := HCK.out
        have hlw := hlt.1
        have hne : b ≠ w.heap.size := by omega
        have hne2 : w.heap.size ≠ b := by omega
        have c0 := HV3.out.c0
        have c1 := HV3.out.c1
        have c2 := HV3.out.c2
        have c3 := HV3.out.c3
        obtain ⟨r0, r1, r2, r3, rf⟩ := HG0.out _ HOn3.out
        have rf0 := rf 0
        have rf1 := rf 1
        have rf2 := rf 2
        have rf3 := rf 3
        clear rf
        go_wp2_with fail
        refine bodyPost_ret (v := cmdV o) (by simp [results, Try.results24, go_sem, r0, r1, r2, r3, cmdV, hne, hne2]) rfl ⟨o, rfl, (fun _ => hk0), (Only.setCell (Only.setCell (Only.setCell (Only.setCell (HO1.out.trans HOn3.out) (.inr (Nat.le_refl _)) _) (.inr (Nat.le_refl _)) _) (.inr (Nat.le_refl _)) _) (.inr (Nat.le_refl _)) _), (HR3.out.le (by omega)).keep blw_⟩
      · have hn0 : n ≠ 0 := fun h9 => by have := HD.out h9; cases this
        have hlw := hlt.1
        clear HD
        go_wp2_with fail
        (with_reducible refine (pick_any lo g (K + 6) 4 _ HR3.out (by omega) (by omega)).mono ?_); rintro e w4 ⟨x1, rfl, hx1, -, hO4, hR4⟩
        have hx1I := hx1 (by omega)
        have HR4 := Lib.hid hR4
        have HV4 := Lib.hid (HV3.out.only hO4 hgl)
        have HOn4 : Hid (Only [g] W1 w4) := HOn3.out.trans hO4
        have hzb4 := HV4.out.lt
        clear hO4 hR4
        have hx1 : x1 = 0 ∨ x1 = 1 ∨ x1 = 2 ∨ x1 = 3 := by omega
        rcases hx1 with rfl | rfl | rfl | rfl
        · go_wp2_with fail
          (with_reducible refine (pick_any lo g (K + 5) 2 _ (HR4.out.keep blw_) (by omega) (by omega)).mono ?_); rintro e w5 ⟨x2, rfl, hx2, -, hO5, hR5⟩
          have hx2I := hx2 (by omega)
          have HR5 := Lib.hid hR5
          have HV5 := Lib.hid ((HV4.out.below blw_).only hO5 hgl)
          have HOn5 : Hid (Only [g] W1 w5) := (Only.alloc HOn4.out _).trans hO5
          have hzb5 := HV5.out.lt
          have hn9 : w4.heap.size ∉ [g] := by simp; omega
          have l0 : w5.cell? ⟨w4.heap.size, 0, none⟩ = some (.int .i64 0) := hO5.cell (by simp [go_sem]) hn9
          have l1 : w5.cell? ⟨w4.heap.size, 1, none⟩ = some (.int .i64 7) := hO5.cell (by simp [go_sem]) hn9
          clear hO5 hR5
          have hne : b ≠ w.heap.size := by omega
          have hne2 : w.heap.size ≠ b := by omega
          have c0 := HV5.out.c0
          have c1 := HV5.out.c1
          have c2 := HV5.out.c2
          have c3 := HV5.out.c3
          obtain ⟨r0, r1, r2, r3, rf⟩ := HG0.out _ HOn5.out
          have rf0 := rf 0
          have rf1 := rf 1
          have rf2 := rf 2
          have rf3 := rf 3
          clear rf
          have f0 := HV5.out.fz 0
          have hx2 : x2 = 0 ∨ x2 = 1 := by omega
          rcases hx2 with rfl | rfl
          · have HRX := HR5
            go_wp2_with fail
            refine bodyPost_ret (v := cmdV ⟨0, o.a, o.b, o.c⟩) (by simp [results, Try.results24, go_sem, r0, r1, r2, r3, cmdV, hne, hne2]) rfl ⟨⟨0, o.a, o.b, o.c⟩, rfl, (fun h9 => absurd h9 hn0), (Only.setCell (Only.setCell (Only.setCell (Only.setCell (Only.setCell (HO1.out.trans HOn5.out) (.inr (by simp only; omega)) _) (.inr (Nat.le_refl _)) _) (.inr (Nat.le_refl _)) _) (.inr (Nat.le_refl _)) _) (.inr (Nat.le_refl _)) _), (HR5.out.le (by omega)).keep blw_⟩
          · have HRX := HR5
            go_wp2_with fail
            refine bodyPost_ret (v := cmdV ⟨7, o.a, o.b, o.c⟩) (by simp [results, Try.results24, go_sem, r0, r1, r2, r3, cmdV, hne, hne2]) rfl ⟨⟨7, o.a, o.b, o.c⟩, rfl, (fun h9 => absurd h9 hn0), (Only.setCell (Only.setCell (Only.setCell (Only.setCell (Only.setCell (HO1.out.trans HOn5.out) (.inr (by simp only; omega)) _) (.inr (Nat.le_refl _)) _) (.inr (Nat.le_refl _)) _) (.inr (Nat.le_refl _)) _) (.inr (Nat.le_refl _)) _), (HR5.out.le (by omega)).keep blw_⟩
        · go_wp2_with fail
          (with_reducible refine (pick_any lo g (K + 5) 2 _ (HR4.out.keep blw_) (by omega) (by omega)).mono ?_); rintro e w5 ⟨x2, rfl, hx2, -, hO5, hR5⟩
          have hx2I := hx2 (by omega)
          have HR5 := Lib.hid hR5
          have HV5 := Lib.hid ((HV4.out.below blw_).only hO5 hgl)
          have HOn5 : Hid (Only [g] W1 w5) := (Only.alloc HOn4.out _).trans hO5
          have hzb5 := HV5.out.lt
          have hn9 : w4.heap.size ∉ [g] := by simp; omega
          have l0 : w5.cell? ⟨w4.heap.size, 0, none⟩ = some (.int .i64 (-1)) := hO5.cell (by simp [go_sem]) hn9
          have l1 : w5.cell? ⟨w4.heap.size, 1, none⟩ = some (.int .i64 4) := hO5.cell (by simp [go_sem]) hn9
          clear hO5 hR5
          have hne : b ≠ w.heap.size := by omega
          have hne2 : w.heap.size ≠ b := by omega
          have c0 := HV5.out.c0
          have c1 := HV5.out.c1
          have c2 := HV5.out.c2
          have c3 := HV5.out.c3
          obtain ⟨r0, r1, r2, r3, rf⟩ := HG0.out _ HOn5.out
          have rf0 := rf 0
          have rf1 := rf 1
          have rf2 := rf 2
          have rf3 := rf 3
          clear rf
          have f1 := HV5.out.fz 1
          have hx2 : x2 = 0 ∨ x2 = 1 := by omega
          rcases hx2 with rfl | rfl
          · have HRX := HR5
            go_wp2_with fail
            refine bodyPost_ret (v := cmdV ⟨o.op, (-1), o.b, o.c⟩) (by simp [results, Try.results24, go_sem, r0, r1, r2, r3, cmdV, hne, hne2]) rfl ⟨⟨o.op, (-1), o.b, o.c⟩, rfl, (fun h9 => absurd h9 hn0), (Only.setCell (Only.setCell (Only.setCell (Only.setCell (Only.setCell (HO1.out.trans HOn5.out) (.inr (by simp only; omega)) _) (.inr (Nat.le_refl _)) _) (.inr (Nat.le_refl _)) _) (.inr (Nat.le_refl _)) _) (.inr (Nat.le_refl _)) _), (HR5.out.le (by omega)).keep blw_⟩
          · have HRX := HR5
            go_wp2_with fail
            refine bodyPost_ret (v := cmdV ⟨o.op, 4, o.b, o.c⟩) (by simp [results, Try.results24, go_sem, r0, r1, r2, r3, cmdV, hne, hne2]) rfl ⟨⟨o.op, 4, o.b, o.c⟩, rfl, (fun h9 => absurd h9 hn0), (Only.setCell (Only.setCell (Only.setCell (Only.setCell (Only.setCell (HO1.out.trans HOn5.out) (.inr (by simp only; omega)) _) (.inr (Nat.le_refl _)) _) (.inr (Nat.le_refl _)) _) (.inr (Nat.le_refl _)) _) (.inr (Nat.le_refl _)) _), (HR5.out.le (by omega)).keep blw_⟩
        · go_wp2_with fail
          (with_reducible refine (pick_any lo g (K + 5) 2 _ (HR4.out.keep blw_) (by omega) (by omega)).mono ?_); rintro e w5 ⟨x2, rfl, hx2, -, hO5, hR5⟩
          have hx2I := hx2 (by omega)
          have HR5 := Lib.hid hR5
          have HV5 := Lib.hid ((HV4.out.below blw_).only hO5 hgl)
          have HOn5 : Hid (Only [g] W1 w5) := (Only.alloc HOn4.out _).trans hO5
          have hzb5 := HV5.out.lt
          have hn9 : w4.heap.size ∉ [g] := by simp; omega
          have l0 : w5.cell? ⟨w4.heap.size, 0, none⟩ = some (.int .i64 (-1)) := hO5.cell (by simp [go_sem]) hn9
          have l1 : w5.cell? ⟨w4.heap.size, 1, none⟩ = some (.int .i64 100) := hO5.cell (by simp [go_sem]) hn9
          clear hO5 hR5
          have hne : b ≠ w.heap.size := by omega
          have hne2 : w.heap.size ≠ b := by omega
          have c0 := HV5.out.c0
          have c1 := HV5.out.c1
          have c2 := HV5.out.c2
          have c3 := HV5.out.c3
          obtain ⟨r0, r1, r2, r3, rf⟩ := HG0.out _ HOn5.out
          have rf0 := rf 0
          have rf1 := rf 1
          have rf2 := rf 2
          have rf3 := rf 3
          clear rf
          have f2 := HV5.out.fz 2
          have hx2 : x2 = 0 ∨ x2 = 1 := by omega
          rcases hx2 with rfl | rfl
          · have HRX := HR5
            go_wp2_with fail
            refine bodyPost_ret (v := cmdV ⟨o.op, o.a, (-1), o.c⟩) (by simp [results, Try.results24, go_sem, r0, r1, r2, r3, cmdV, hne, hne2]) rfl ⟨⟨o.op, o.a, (-1), o.c⟩, rfl, (fun h9 => absurd h9 hn0), (Only.setCell (Only.setCell (Only.setCell (Only.setCell (Only.setCell (HO1.out.trans HOn5.out) (.inr (by simp only; omega)) _) (.inr (Nat.le_refl _)) _) (.inr (Nat.le_refl _)) _) (.inr (Nat.le_refl _)) _) (.inr (Nat.le_refl _)) _), (HR5.out.le (by omega)).keep blw_⟩
          · have HRX := HR5
            go_wp2_with fail
            refine bodyPost_ret (v := cmdV ⟨o.op, o.a, 100, o.c⟩) (by simp [results, Try.results24, go_sem, r0, r1, r2, r3, cmdV, hne, hne2]) rfl ⟨⟨o.op, o.a, 100, o.c⟩, rfl, (fun h9 => absurd h9 hn0), (Only.setCell (Only.setCell (Only.setCell (Only.setCell (Only.setCell (HO1.out.trans HOn5.out) (.inr (by simp only; omega)) _) (.inr (Nat.le_refl _)) _) (.inr (Nat.le_refl _)) _) (.inr (Nat.le_refl _)) _) (.inr (Nat.le_refl _)) _), (HR5.out.le (by omega)).keep blw_⟩
        · go_wp2_with fail
          (with_reducible refine (pick_any lo g (K + 5) 2 _ (HR4.out.keep blw_) (by omega) (by omega)).mono ?_); rintro e w5 ⟨x2, rfl, hx2, -, hO5, hR5⟩
          have hx2I := hx2 (by omega)
          have HR5 := Lib.hid hR5
          have HV5 := Lib.hid ((HV4.out.below blw_).only hO5 hgl)
          have HOn5 : Hid (Only [g] W1 w5) := (Only.alloc HOn4.out _).trans hO5
          have hzb5 := HV5.out.lt
          have hn9 : w4.heap.size ∉ [g] := by simp; omega
          have l0 : w5.cell? ⟨w4.heap.size, 0, none⟩ = some (.int .i64 (-1)) := hO5.cell (by simp [go_sem]) hn9
          have l1 : w5.cell? ⟨w4.heap.size, 1, none⟩ = some (.int .i64 100) := hO5.cell (by simp [go_sem]) hn9
          clear hO5 hR5
          have hne : b ≠ w.heap.size := by omega
          have hne2 : w.heap.size ≠ b := by omega
          have c0 := HV5.out.c0
          have c1 := HV5.out.c1
          have c2 := HV5.out.c2
          have c3 := HV5.out.c3
          obtain ⟨r0, r1, r2, r3, rf⟩ := HG0.out _ HOn5.out
          have rf0 := rf 0
          have rf1 := rf 1
          have rf2 := rf 2
          have rf3 := rf 3
          clear rf
          have f3 := HV5.out.fz 3
          have hx2 : x2 = 0 ∨ x2 = 1 := by omega
          rcases hx2 with rfl | rfl
          · have HRX := HR5
            go_wp2_with fail
            refine bodyPost_ret (v := cmdV ⟨o.op, o.a, o.b, (-1)⟩) (by simp [results, Try.results24, go_sem, r0, r1, r2, r3, cmdV, hne, hne2]) rfl ⟨⟨o.op, o.a, o.b, (-1)⟩, rfl, (fun h9 => absurd h9 hn0), (Only.setCell (Only.setCell (Only.setCell (Only.setCell (Only.setCell (HO1.out.trans HOn5.out) (.inr (by simp only; omega)) _) (.inr (Nat.le_refl _)) _) (.inr (Nat.le_refl _)) _) (.inr (Nat.le_refl _)) _) (.inr (Nat.le_refl _)) _), (HR5.out.le (by omega)).keep blw_⟩
          · have HRX := HR5
            go_wp2_with fail
            refine bodyPost_ret (v := cmdV ⟨o.op, o.a, o.b, 100⟩) (by simp [results, Try.results24, go_sem, r0, r1, r2, r3, cmdV, hne, hne2]) rfl ⟨⟨o.op, o.a, o.b, 100⟩, rfl, (fun h9 => absurd h9 hn0), (Only.setCell (Only.setCell (Only.setCell (Only.setCell (Only.setCell (HO1.out.trans HOn5.out) (.inr (by simp only; omega)) _) (.inr (Nat.le_refl _)) _) (.inr (Nat.le_refl _)) _) (.inr (Nat.le_refl _)) _) (.inr (Nat.le_refl _)) _), (HR5.out.le (by omega)).keep blw_⟩
end Go.Proofs.Ytkikeanpbffpkaa

/- The reference's drawing: programs. -/
namespace Go.Proofs.Ytkikeanpbffpkaa
open Go.RowKit
set_option maxRecDepth 100000
set_option linter.unusedSimpArgs false
set_option linter.unusedVariables false
theorem info_cmd9 : (Try.prog.info? 30).map (fun i => (i.zero, i.size, i.bytes)) = some (some (.agg #[.int .i64 0, .int .i64 0, .int .i64 0, .int .i64 0]), 4, 32) := by kernel_rfl
section
variable {w : World}
theorem app_cmd (ty : TypeId) {S : Option Addr} {c : Nat} {os : List CmdM} (hown : OO w S c os) (o : CmdM) (b c2 : Nat)
    (k0 : w.cell? ⟨b, 0, none⟩ = some (.int .i64 o.op)) (k1 : w.cell? ⟨b, 1, none⟩ = some (.int .i64 o.a)) (k2 : w.cell? ⟨b, 2, none⟩ = some (.int .i64 o.b)) (k3 : w.cell? ⟨b, 3, none⟩ = some (.int .i64 o.c)) (h : os.length ≤ 1099511627776) :
    ∃ S' c' w', (Builtin.append_ #[44, 44] ty #[.slice S os.length c, .slice (some ⟨b, 0, none⟩) 1 c2]).run Try.prog w = .ok (.slice S' (os ++ [o]).length c') w' ∧ OO w' S' c' (os ++ [o]) ∧ Only (blk S) w w' ∧
      (∀ g ∈ blk S', g ∈ blk S ∨ w.heap.size ≤ g) := by
  obtain ⟨i0, hi, hz0, hz1, hz2⟩ := info_parts info_cmd9
  have hcells : ∀ j u, (cmdVals o)[j]? = some u → w.cell? ((⟨b, 0, none⟩ : Addr).add j) = some u := by
    intro j u hu
    have hj := (List.getElem?_eq_some_iff.1 hu).1
    simp [cmdVals] at hj
    rcases (by omega : j = 0 ∨ j = 1 ∨ j = 2 ∨ j = 3) with rfl | rfl | rfl | rfl
    all_goals
      simp [cmdVals] at hu
      subst hu
      simp [Addr.add, *]
  have h1' : ∀ u ∈ cmdVals o, u.oneCell' = true := by
    intro u hu
    simp [cmdVals] at hu
    rcases hu with rfl | rfl | rfl | rfl <;> rfl
  obtain ⟨v', w', hrun, h2, h3, _, h5⟩ := run_append_own_at (P := Try.prog) w 0 44 ty 30 i0 _ 4 32 Try.underlying44 hi hz0 hz1 hz2 rfl (by omega) _ os.length _ hown ⟨b, 0, none⟩ 1 c2 (cmdVals o) (by simp [cmdVals]) hcells h1' (by simp only [maxLen]; omega) (by omega) (Nat.zero_le _)
  have hv : ∃ S' c', v' = .slice S' (os.length + 1) c' := by
    rcases h2.2 with ⟨h, h0⟩ | ⟨g, cap, cur, h, _⟩
    · omega
    · exact ⟨_, cap, h⟩
  obtain ⟨S', c', rfl⟩ := hv
  have hO := only_of_grown h3
  refine ⟨S', c', w', by rw [List.length_append]; exact hrun, ?_, hO, fun g hg => ?_⟩
  · unfold OO; rw [List.length_append, List.flatMap_append]; simpa using h2
  · rw [ownBlock_blk, ownBlock_blk] at h5
    have hg' : S'.map (·.block) = some g := by
      cases S' with
      | none => simp [blk] at hg
      | some a => simp [blk] at hg; simp [hg]
    rcases h5 with h5 | h5
    · left; rw [hg'] at h5; rw [blk_of_map h5.symm]; simp
    · right; rw [hg'] at h5; injection h5 with h5; omega
variable {ops : Array Oper} {o : Oper} {a : Act}
theorem wpList_appcmd {rest : List Oper} {Q : Exit → Act → World → Prop} (hgd : o.guard = none) (s x : Operand) (ho : o.op = .call { callee := .builtin .append, args := #[s, x], argTypes := #[44, 44] })
    {S : Option Addr} {c b c2 : Nat} {os : List CmdM} (hs : a.eval s = .slice S os.length c) (hx : a.eval x = .slice (some ⟨b, 0, none⟩) 1 c2)
    (hown : OO w S c os) (oc : CmdM)
    (k0 : w.cell? ⟨b, 0, none⟩ = some (.int .i64 oc.op)) (k1 : w.cell? ⟨b, 1, none⟩ = some (.int .i64 oc.a)) (k2 : w.cell? ⟨b, 2, none⟩ = some (.int .i64 oc.b)) (k3 : w.cell? ⟨b, 3, none⟩ = some (.int .i64 oc.c)) (h : os.length ≤ 1099511627776)
    (hK : ∀ S' c' w', OO w' S' c' (os ++ [oc]) → Only (blk S) w w' → (∀ g ∈ blk S', g ∈ blk S ∨ w.heap.size ≤ g) → wpList Try.prog ops Q rest (a.put o.dst (.slice S' (os ++ [oc]).length c')) w') :
    wpList Try.prog ops Q (o :: rest) a w := by
  obtain ⟨S', c', w', hrun, h1, h2, h3⟩ := app_cmd o.type hown oc b c2 k0 k1 k2 k3 h
  exact wpList_ran hgd s x _ ho hs hx hrun (hK _ _ _ h1 h2 h3)
theorem step_appcmd {K : Act → World → Prop} {Q : Exit → Act → World → Prop} {E : Prop} (hgd : o.guard = none) (s x : Operand) (ho : o.op = .call { callee := .builtin .append, args := #[s, x], argTypes := #[44, 44] })
    {S : Option Addr} {c b c2 : Nat} {os : List CmdM} (hs : a.eval s = .slice S os.length c) (hx : a.eval x = .slice (some ⟨b, 0, none⟩) 1 c2)
    (hown : OO w S c os) (oc : CmdM)
    (k0 : w.cell? ⟨b, 0, none⟩ = some (.int .i64 oc.op)) (k1 : w.cell? ⟨b, 1, none⟩ = some (.int .i64 oc.a)) (k2 : w.cell? ⟨b, 2, none⟩ = some (.int .i64 oc.b)) (k3 : w.cell? ⟨b, 3, none⟩ = some (.int .i64 oc.c)) (h : os.length ≤ 1099511627776)
    (hK : ∀ S' c' w', OO w' S' c' (os ++ [oc]) → Only (blk S) w w' → (∀ g ∈ blk S', g ∈ blk S ∨ w.heap.size ≤ g) → K (a.put o.dst (.slice S' (os ++ [oc]).length c')) w') :
    if Region.wanted o (yielded ops a.tmps) = true then Oper.wp Try.prog o a w K Q else E := by
  obtain ⟨S', c', w', hrun, h1, h2, h3⟩ := app_cmd o.type hown oc b c2 k0 k1 k2 k3 h
  exact step_ran hgd s x _ ho hs hx hrun (hK _ _ _ h1 h2 h3)
theorem flat4_take (os : List CmdM) : ∀ m, m ≤ os.length → (os.flatMap cmdVals).take (m * 4) = (os.take m).flatMap cmdVals := by
  induction os with
  | nil => intro m h; simp at h; subst h; rfl
  | cons a os ih =>
    intro m h
    cases m with
    | zero => simp
    | succ m =>
      have h' := ih m (by simpa using h)
      have e : (a :: os).flatMap cmdVals = .int .i64 a.op :: .int .i64 a.a :: .int .i64 a.b :: .int .i64 a.c :: os.flatMap cmdVals := by simp [cmdVals]
      have e2 : (a :: os.take m).flatMap cmdVals = .int .i64 a.op :: .int .i64 a.a :: .int .i64 a.b :: .int .i64 a.c :: (os.take m).flatMap cmdVals := by simp [cmdVals]
      rw [List.take_succ_cons, e, e2, ← h', show (m + 1) * 4 = m * 4 + 1 + 1 + 1 + 1 by omega]
      rfl
/-- The first part of a row of instructions of the call's own. -/
theorem OO.take_ {A : Option Addr} {c : Nat} {os : List CmdM} (h : OO w A c os) {m : Nat} (hm : m ≤ os.length) : OO w A c (os.take m) := by
  have hlen : (os.take m).length = m := by simp; omega
  refine ⟨flat4_len _, ?_⟩
  rw [hlen]
  rcases h.2 with ⟨h1, h2⟩ | ⟨g, cap, cur, h1, h2, h3, h4, h5, h6, h7⟩
  · injection h1 with h1 h1b h1c
    subst h1 h1c
    have h2' : m = 0 := by omega
    subst h2'
    exact .inl ⟨rfl, rfl⟩
  · injection h1 with h1 h1b h1c
    subst h1 h1c
    refine .inr ⟨g, _, cur, rfl, h2, h3, by omega, h5, h6, ?_⟩
    rw [← flat4_take os m hm, ← h7, List.take_take, Nat.min_eq_left (by omega)]
theorem OO.new0 {q : Nat} (h : w.heap[q]? = some (.cells #[] 30 (0, 0))) : OO w (some ⟨q, 0, none⟩) 0 [] :=
  ⟨by simp, .inr ⟨q, 0, #[], rfl, Nat.zero_le _, h, Nat.le_refl _, Nat.zero_le _, by simp, by simp⟩⟩
end
theorem Only.thenb {S : List Nat} {a b c : World} {B : Nat} (h : Only S a b) (k : Below B b c) (hB : a.heap.size ≤ B) : Only S a c :=
  ⟨k.os.trans h.os, k.tape.trans h.tape, k.output.trans h.output, Nat.le_trans h.size k.size, fun i hi hs => (k.block i (by omega)).trans (h.block i hi hs)⟩
theorem mk_cmds41 (W : World) :
    (Instr.makeSlice 44 (.int .i64 41) (.int .i64 41)).run Try.prog W = .ok (.slice (some ⟨W.heap.size, 0, none⟩) 41 41) (W.alloc (.cells (rowO (List.replicate 41 zo)) 30)) := by
  obtain ⟨i0, hi, hz0, hz1, hz2⟩ := info_parts info_cmd9
  have h := run_make (P := Try.prog) W 44 30 i0 _ Try.underlying44 hi hz0 .i64 .i64 41 41 (by omega) (by omega) (by rw [hz2]; omega) (by omega)
  have e : (41 : Int).toNat = 41 := rfl
  rw [e] at h
  rw [h, hz1, ← rowO_made 41]
  rfl
theorem OO.of41 {w : World} {q : Nat} (h : w.heap[q]? = some (.cells (rowO (List.replicate 41 zo)) 30 (0, 0))) : OO w (some ⟨q, 0, none⟩) 41 (List.replicate 41 zo) := by
  have e : (List.replicate 41 zo).length = 41 := by simp
  have hf := flat4_len (List.replicate 41 zo)
  refine ⟨hf, .inr ⟨q, 41, rowO (List.replicate 41 zo), by rw [e], Nat.zero_le _, h, by omega, by simp only [maxLen]; omega, by simp only [rowO, List.size_toArray, hf, e], by rw [rowO, ← hf, List.take_length]⟩⟩
theorem OO.cap_ {w : World} {A : Option Addr} {c : Nat} {os : List CmdM} (h : OO w A c os) : os.length ≤ c ∧ c ≤ 9223372036854775807 := by
  rcases ownsRow_block h with ⟨_, h1, h2⟩ | ⟨g, cur, _, _, h1, h2, _⟩
  · omega
  · simp only [maxLen] at h2; omega
theorem wp_region_at {P : Program} {id : Nat} {ops : Array Oper} {Q : Exit → Act → World → Prop} {a : Act} {w : World} (hm : P.follows .mixedOrders = true)
    (h : ∀ W : World, W = w.drew → wpAny P .any ops Q ops.size (Array.replicate ops.size false) a W) : (Code.region id ops true).wp P Q a w :=
  wp_region_any hm (h _ rfl)
theorem cmdsOk_snoc {L : List CmdM} {o : CmdM} (h : ∀ x ∈ L, cmdOk x = true) (ho : cmdOk o = true) : ∀ x ∈ L ++ [o], cmdOk x = true := fun x hx => by
  rcases List.mem_append.1 hx with h1 | h1
  · exact h x h1
  · obtain rfl : x = o := by simpa using h1
    exact ho
set_option maxHeartbeats 4000000 in
theorem l20Program_any (lo g K : Nat) (n : Int) (w : World) (h : Rd lo w g (K + 1000)) (hn1 : 0 ≤ n) (hn2 : n ≤ 1048576) :
    Calls Try.prog 47 #[.pointer (some ⟨g, 0, none⟩), .int .i64 n] w fun e w' => ∃ L S c, e = .returned (.slice S (L : List CmdM).length c) ∧ OO w' S c L ∧ (∀ b ∈ blk S, w.heap.size ≤ b) ∧ L.length ≤ 41 ∧ (n = 0 → cmdsOk L = true) ∧ Only [g] w w' ∧ Rd lo w' g K := by
  have H := Lib.hid h
  clear h
  have hlt := H.out.lt
  go_enter Try.func47, Try.ntmps47
  go_wp2_with fail
  (with_reducible refine (pick_any lo g (K + 999) 41 _ (H.out.below blw_) (by omega) (by omega)).mono ?_); rintro e w1 ⟨x, rfl, hx, -, hO1, hR1⟩
  have hxI := hx (by omega)
  have HR1 := Lib.hid hR1
  have HOn1 : Hid (Only [g] w w1) := (Only.alloc (Only.refl _ _) _).trans hO1
  have hz1 := hO1.size
  (try simp only [World.size_alloc, World.size_setCell, World.size_drew, World.heap_drewN] at hz1)
  have hK0 : OO w1 (some ⟨w.heap.size, 0, none⟩) 0 [] := OO.new0 ((hO1.block w.heap.size (by simp) (by simp; omega)).trans (heap_alloc_at _ _ _ (by simp)))
  have HK0 := Lib.hid hK0
  clear hx hR1 hO1 hK0
  go_wp2_with fail
  go_loopw [5, 6] (fun s5 s6 wr => ∃ (j : Nat) (L : List CmdM) (S : Option Addr) (cS : Nat), L.length + j = x ∧ s6 = .int .i64 j ∧ s5 = .slice S L.length cS ∧ Hid (∀ o ∈ L, cmdOk o = true) ∧ Hid (OO wr S cS L) ∧ Hid (∀ b ∈ blk S, w.heap.size ≤ b) ∧ Hid (Rd lo wr g (K + 199 + 20 * j)) ∧ Hid (Only [g] w wr) ∧ w1.heap.size ≤ wr.heap.size) (fun _ s6 _ => (intOf s6).toNat)
  case atStart => exact ⟨x, [], _, _, by simp, rfl, rfl, by simp [Hid], HK0, fun b hb => (by have := mem_blk_some hb; omega), HR1.out.le (by omega), HOn1, Nat.le_refl _⟩
  case round =>
    obtain ⟨j, L, S, cS, hj, rfl, rfl, HL, HS, HSB, HR, HOn, hz⟩ := hrel
    have hgw : g + 1 ≤ wr.heap.size := by omega
    by_cases hj0 : j = 0
    · subst hj0
      have hjx : L.length ≤ 40 := by omega
      go_wp2_with fail
      (with_reducible refine (odd_any lo g (K + 198) n _ (HR.out.le (by omega)) hn1 hn2).mono ?_); rintro e w2 ⟨b, rfl, hb, hO2, hR2⟩
      have Hb := Lib.hid hb
      have HR2 := Lib.hid hR2
      have hz2 := hO2.size
      have HS2 := Lib.hid (OO.only HS.out hO2 (fun b hb => by have := HSB.out b hb; simp; omega))
      have HOn2 : Hid (Only [g] w w2) := HOn.out.trans hO2
      clear hb hR2 hO2
      cases b with
      | false =>
        go_wp2_with fail
        go_ret
        exact ⟨L, S, cS, rfl, HS2.out, HSB.out, by omega, fun _ => by simp only [cmdsOk, Bool.and_eq_true, decide_eq_true_eq, List.all_eq_true]; exact ⟨by omega, HL.out⟩, HOn2.out, HR2.out.le (by omega)⟩
      | true =>
        go_wp2_with fail
        (with_reducible refine (pick_any lo g (K + 197) 2 _ (HR2.out.le (by omega)) (by omega) (by omega)).mono ?_); rintro e w3 ⟨k, rfl, hk, -, hO3, hR3⟩
        have hkI := hk (by omega)
        have HR3 := Lib.hid hR3
        have hz3 := hO3.size
        have HS3 := Lib.hid (OO.only HS2.out hO3 (fun b hb => by have := HSB.out b hb; simp; omega))
        have HOn3 : Hid (Only [g] w w3) := HOn2.out.trans hO3
        clear hk hR3 hO3
        rcases (by omega : k = 0 ∨ k = 1) with rfl | rfl
        · go_wp2_with fail
          have Hn1 : Hid (n = 0 → False) := fun h9 => by simpa using Hb.out h9
          have hm9 : min L.length 9 ≤ L.length := Nat.min_le_left _ _
          obtain ⟨T, hT9, HT3⟩ : ∃ T : List CmdM, Hid (T.length = min L.length 9) ∧ Hid (OO w3 S cS T) := ⟨L.take (min L.length 9), show (L.take (min L.length 9)).length = _ by simp, HS3.out.take_ hm9⟩
          have hT10 : T.length ≤ 9 := by have := hT9.out; omega
          have hTl : T.length ≤ 1099511627776 := by omega
          have hcap := HS3.out.cap_
          refine wp_region_at (by kernel_rfl) (fun wd hwd => ?_)
          have HRd : Hid (Rd lo wd g (K + 197)) := by rw [hwd]; exact HR3.out.below blw_
          have HTd : Hid (OO wd S cS T) := by rw [hwd]; exact HT3.out.below blw_
          have HOd : Hid (Only [g] w wd) := by rw [hwd]; exact HOn3.out.thenb (B := w3.heap.size) blw_ (by omega)
          have hzd : w3.heap.size = wd.heap.size := by rw [hwd]; rfl
          clear HR3 HT3 HOn3 HS3 hwd
          (refine wpAny_take (i := 0) (v := ?v9_0) rfl (by kernel_rfl) (by kernel_rfl) (by kernel_rfl) (fun _ _ _ h => h) (Or.inl ⟨by rfl, ?h9_0⟩) ?r9_0; (case h9_0 => (intro w9; go_simp; try with_reducible rfl)))
          (refine wpAny_take (i := 1) (v := ?v9_1) rfl (by kernel_rfl) (by kernel_rfl) (by kernel_rfl) (fun _ _ _ h => h) (Or.inl ⟨by rfl, ?h9_1⟩) ?r9_1; (case h9_1 => (intro w9; go_simp; try with_reducible rfl)))
          (refine wpAny_take (i := 5) (v := ?v9_5) rfl (by kernel_rfl) (by kernel_rfl) (by kernel_rfl) (fun _ _ _ h => h) (Or.inl ⟨by rfl, ?h9_5⟩) ?r9_5; (case h9_5 => (intro w9; go_simp; try with_reducible rfl)))
          (refine wpAny_take (i := 2) (v := ?v9_2) rfl (by kernel_rfl) (by kernel_rfl) (by kernel_rfl) (fun _ _ _ h => h) (Or.inl ⟨by rfl, ?h9_2⟩) ?r9_2; (case h9_2 => (intro w9; go_simp; try with_reducible rfl)))
          (refine wpAny_take (i := 3) (v := .int .i64 (T.length : Int)) rfl (by kernel_rfl) (by kernel_rfl) (by kernel_rfl) (fun _ _ _ h => h) (Or.inl ⟨by rfl, ?h9_3⟩) ?r9_3; (case h9_3 => (intro w9; go_simp; (have h9 := hT9.out; split <;> omega))))
          (refine wpAny_take (i := 4) (v := .slice S T.length cS) rfl (by kernel_rfl) (by kernel_rfl) (by kernel_rfl) (fun _ _ _ h => h) (Or.inl ⟨by rfl, ?h9_4⟩) ?r9_4; (case h9_4 => (intro w9; go_simp; (try (intro h9; have h8 := hT9.out; omega)))))
          refine wpAny_ready (rs := [6]) (by kernel_rfl) (by simp) ?_
          refine AllReady.cons rfl (fun K9 hK9 => ?_) AllReady.nil
          go_wp2_with (go_at_call 24; (with_reducible refine (l20Command_any lo g (K + 170) 1 _ (HRd.out.le (by omega)) (by omega) (by omega)).mono ?_); rintro e w4 ⟨o, rfl, -, hO4, hR4⟩; have HR4 := Lib.hid hR4; have HOn4 := Lib.hid (HOd.out.trans hO4); have HT4 := Lib.hid (OO.only HTd.out hO4 (fun b hb => by have := HSB.out b hb; simp; omega)); have hz4 := hO4.size; clear hR4 hO4; unfold cmdV)
          (try refine hK9 _ _ ?_)
          (try clear hK9)
          refine wpAny_ready (rs := [7]) (by kernel_rfl) (by simp) ?_
          refine AllReady.cons rfl (fun K9 hK9 => ?_) AllReady.nil
          go_simp
          (try refine hK9 _ _ ?_)
          (try clear hK9)
          refine wpAny_ready (rs := [8]) (by kernel_rfl) (by simp) ?_
          refine AllReady.cons rfl (fun K9 hK9 => ?_) AllReady.nil
          refine step_appcmd rfl (.tmp 29) (.tmp 32) rfl rfl rfl (HT4.out.below blw_) o (by simp [go_sem]) (by simp [go_sem]) (by simp [go_sem]) (by simp [go_sem]) hTl ?_
          intro S5 c5 w5 hO5 hOn5 hg5
          have hz5 := hOn5.size
          (try simp only [World.size_alloc, World.size_setCell, World.size_drew, World.heap_drewN] at hz5)
          have HB5 : Hid (Below w.heap.size w4 w5) := Below.trans blw_ (hOn5.below (by simp; omega) (fun b9 hb9 => HSB.out b9 hb9))
          have HO5 := Lib.hid hO5
          have HSB5 : Hid (∀ b9 ∈ blk S5, w.heap.size ≤ b9) := (fun b9 hb9 => by rcases hg5 b9 hb9 with h9 | h9; exact HSB.out b9 h9; simp at h9; omega)
          have hl5 : (T ++ [o]).length ≤ 41 := by simp; omega
          clear hOn5 hg5 hO5
          refine hK9 _ _ ?_
          clear hK9
          refine wpAny_ready (rs := [9]) (by kernel_rfl) (by simp) ?_
          refine AllReady.cons rfl (fun K9 hK9 => ?_) AllReady.nil
          go_simp
          refine hK9 _ _ ?_
          clear hK9
          refine wpAny_done (by kernel_rfl) ?_ _
          go_wp2_with fail
          (try go_meet)
          (try go_ret)
          exact ⟨T ++ [o], S5, c5, by simp, HO5.out, HSB5.out, hl5, fun h9 => (Hn1.out h9).elim, HOn4.out.thenb HB5.out (Nat.le_refl _), (HR4.out.keep (HB5.out.mono (by omega))).le (by omega)⟩
        · have Hn1 : Hid (n = 0 → False) := fun h9 => by simpa using Hb.out h9
          obtain ⟨zs, HZ, hmk⟩ : ∃ zs : List CmdM, Hid (∀ (W : World) (q : Nat), W.heap[q]? = some (.cells (rowO zs) 30 (0, 0)) → zs.length = 41 ∧ OO W (some ⟨q, 0, none⟩) 41 zs) ∧ (∀ W : World, (Instr.makeSlice 44 (.int .i64 41) (.int .i64 41)).run Try.prog W = .ok (.slice (some ⟨W.heap.size, 0, none⟩) 41 41) (W.alloc (.cells (rowO zs) 30))) :=
            ⟨List.replicate 41 zo, fun W q h9 => ⟨by simp, OO.of41 h9⟩, mk_cmds41⟩
          go_wp2_with fail
          go_ret
          obtain ⟨z41, hz41⟩ := HZ.out (w3.alloc (.cells (rowO zs) 30)) w3.heap.size (heap_alloc_at _ _ _ (by simp))
          exact ⟨zs, _, 41, by rw [z41]; rfl, hz41, fun b hb => (by have := mem_blk_some hb; omega), by omega, fun h9 => (Hn1.out h9).elim, HOn3.out.thenb (B := w3.heap.size) blw_ (by omega), (HR3.out.below blw_).le (by omega)⟩
    · obtain ⟨j, rfl⟩ : ∃ i, j = i + 1 := ⟨j - 1, by omega⟩
      go_wp2_with fail
      (with_reducible refine (l20Command_any lo g (K + 199 + 20 * j) 0 _ (HR.out.le (by omega)) (by omega) (by omega)).mono ?_); rintro e w2 ⟨o, rfl, ho, hO2, hR2⟩
      have HO := Lib.hid (ho rfl)
      have HR2 := Lib.hid hR2
      have hz2 := hO2.size
      have HS2 := Lib.hid (OO.only HS.out hO2 (fun b hb => by have := HSB.out b hb; simp; omega))
      have HOn2 : Hid (Only [g] w w2) := HOn.out.trans hO2
      have hll : L.length ≤ 1099511627776 := by omega
      clear ho hR2 hO2
      unfold cmdV
      go_wp2_with (at_builtin; (refine wpList_appcmd rfl (.tmp 14) (.tmp 17) rfl rfl rfl (HS2.out.below blw_) o (by simp [go_sem]) (by simp [go_sem]) (by simp [go_sem]) (by simp [go_sem]) hll ?_); intro S3 cS3 w3 hO3 hOn3 hg3; have hz3 := hOn3.size; (try simp only [World.size_alloc, World.size_setCell, World.size_drew, World.heap_drewN] at hz3 hg3); have HB3 : Hid (Below w.heap.size w2 w3) := Below.trans blw_ (hOn3.below (by simp; omega) (fun b9 hb9 => HSB.out b9 hb9)); have HSB3 : Hid (∀ b9 ∈ blk S3, w.heap.size ≤ b9) := (fun b9 hb9 => by rcases hg3 b9 hb9 with h9 | h9; exact HSB.out b9 h9; omega); have HK3 := Lib.hid hO3; clear hO3 hOn3 hg3)
      go_roundw
      case rel => exact ⟨j, L ++ [o], S3, cS3, by simp; omega, by go_num, by simp, cmdsOk_snoc HL.out HO.out, HK3, HSB3, HR2.out.keep (HB3.out.mono (by omega)), Only.thenb HOn2.out HB3.out (Nat.le_refl _), by omega⟩
      case measure => simp [intOf]
end Go.Proofs.Ytkikeanpbffpkaa
