/- The reference's drawing: numbers out of a code. -/
import Derived.Test.YtngmkflmjjkjaaaChecked
import Derived.Deep.QuietTactic
import Derived.BigQuiet
import Derived.IntWalk
import Derived.Test.YtngmkflmjjkjaaaGrOwn
namespace Go.Proofs.Ytngmkflmjjkjaaa
open Go.RowKit
set_option maxRecDepth 100000
set_option linter.unusedSimpArgs false
set_option linter.unusedVariables false
def fu : Int → Value := Value.int .u8
/-- A reader: where its bytes lie, where it stands. -/
structure RdX (lo : Nat) (w : World) (g : Nat) (C : Option Addr) (bs : List Int) (c p : Nat) : Prop where
  c0 : w.cell? ⟨g, 0, none⟩ = some (.slice C bs.length c)
  c1 : w.cell? ⟨g, 1, none⟩ = some (.int .i64 (p : Int))
  fz : ∀ o, w.frozen? ⟨g, o, none⟩ = false
  rf : RF fu w C bs
  bt : ∀ x ∈ bs, 0 ≤ x ∧ x < 256
  far : ∀ b o, C = some ⟨b, o, none⟩ → 0 < bs.length → b < lo
  lo_ : lo ≤ g
  lt : g < w.heap.size
  len : bs.length ≤ 2000
/-- A reader from which K numbers more may be read. -/
def Rd (lo : Nat) (w : World) (g : Nat) (K : Nat) : Prop := ∃ C bs c p, p + K ≤ 1048576 ∧ RdX lo w g C bs c p
theorem Rd.le {lo g K K' : Nat} {w : World} (h : Rd lo w g K) (hk : K' ≤ K) : Rd lo w g K' := by
  obtain ⟨C, bs, c, p, h1, h2⟩ := h
  exact ⟨C, bs, c, p, by omega, h2⟩
theorem Rd.lt {lo g K : Nat} {w : World} (h : Rd lo w g K) : g < w.heap.size ∧ lo ≤ g := by
  obtain ⟨C, bs, c, p, h1, h2⟩ := h
  exact ⟨h2.lt, h2.lo_⟩
theorem RdX.keep {lo g c p : Nat} {w w' : World} {C : Option Addr} {bs : List Int} (h : RdX lo w g C bs c p) (hb : Below (g + 1) w w') : RdX lo w' g C bs c p := by
  have hl := h.lo_
  have hz := h.lt
  have hs := hb.size
  refine ⟨(hb.cell (p := ⟨g, 0, none⟩) (by simp only; omega)).trans h.c0, (hb.cell (p := ⟨g, 1, none⟩) (by simp only; omega)).trans h.c1, fun o => (World.frozen?_of_block (a := ⟨g, o, none⟩) (hb.block g (by omega))).trans (h.fz o), fun i hi => ?_, h.bt, h.far, h.lo_, by omega, h.len⟩
  obtain ⟨b, o, x, h1, h2, h3⟩ := h.rf i hi
  exact ⟨b, o, x, h1, h2, (hb.cell (p := ⟨b, o + i, none⟩) (by have := h.far b o h1 (by omega); simp only; omega)).trans h3⟩
theorem Rd.keep {lo g K : Nat} {w w' : World} (h : Rd lo w g K) (hb : Below (g + 1) w w') : Rd lo w' g K := by
  obtain ⟨C, bs, c, p, h1, h2⟩ := h
  exact ⟨C, bs, c, p, h1, h2.keep hb⟩
theorem Rd.below {lo g K : Nat} {w w' : World} (h : Rd lo w g K) (hb : Below w.heap.size w w') : Rd lo w' g K := h.keep (hb.mono h.lt.1)
theorem RdX.next {lo g c p : Nat} {w : World} {C : Option Addr} {bs : List Int} (h : RdX lo w g C bs c p) : RdX lo (w.setCell ⟨g, 1, none⟩ (.int .i64 ((p : Int) + 1))) g C bs c (p + 1) := by
  have hl := h.lo_
  have hc0 := h.c0
  have hc1 := h.c1
  refine ⟨by simp [go_sem, hc0], by simp [go_sem, hc1], fun o => by have := h.fz o; simpa [go_sem] using this, fun i hi => ?_, h.bt, h.far, h.lo_, by simpa using h.lt, h.len⟩
  obtain ⟨b, o, x, h1, h2, h3⟩ := h.rf i hi
  have hbg : b ≠ g := by have := h.far b o h1 (by omega); omega
  refine ⟨b, o, x, h1, h2, ?_⟩
  have hOn : Only [g] w (w.setCell ⟨g, 1, none⟩ (.int .i64 ((p : Int) + 1))) := (Only.refl _ _).setCell (.inl (by simp)) _
  exact hOn.cell h3 (by simpa using hbg)
theorem wrap_small (n : Int) (h0 : 0 ≤ n) (h1 : n < 4611686018427387904) : IntKind.i64.wrap n = n := by
  simp [IntKind.wrap, IntKind.bits, IntKind.signed]
  omega
theorem xor_i64_nat (a b : Nat) (ha : a < 4611686018427387904) (hb : b < 4611686018427387904) : bits .xor .i64 (a : Int) (b : Int) = ((a ^^^ b : Nat) : Int) := by
  have hx : a ^^^ b < 2 ^ 62 := Nat.xor_lt_two_pow (by omega) (by omega)
  have h1 : (BitVec.ofInt 64 (a : Int)).toNat = a := by
    rw [BitVec.ofInt_natCast, BitVec.toNat_ofNat]; exact Nat.mod_eq_of_lt (by omega)
  have h2 : (BitVec.ofInt 64 (b : Int)).toNat = b := by
    rw [BitVec.ofInt_natCast, BitVec.toNat_ofNat]; exact Nat.mod_eq_of_lt (by omega)
  show IntKind.i64.wrap ((BitVec.ofInt 64 (a : Int) ^^^ BitVec.ofInt 64 (b : Int)).toNat : Int) = _
  rw [BitVec.toNat_xor, h1, h2]
  exact wrap_small _ (by omega) (by omega)
/-- The reader's mixture is no negative number. -/
theorem mix_pos (x : Int) (h0 : 0 ≤ x) (h1 : x < 4611686018427387904) : 0 ≤ bits .xor .i64 x (x / 64) := by
  obtain ⟨a, rfl⟩ := Int.eq_ofNat_of_zero_le h0
  have : ((a : Int) / 64) = ((a / 64 : Nat) : Int) := by omega
  rw [this, xor_i64_nat _ _ (by omega) (by omega)]
  omega
set_option maxHeartbeats 4000000 in
theorem pick_any (lo g K : Nat) (n : Int) (w : World) (h : Rd lo w g (K + 1)) (hn1 : -1048576 ≤ n) (hn2 : n ≤ 1048576) :
    Calls Try.prog 73 #[.pointer (some ⟨g, 0, none⟩), .int .i64 n] w fun e w' => ∃ k : Nat, e = .returned (.int .i64 (k : Int)) ∧ (1 ≤ n → (k : Int) < n) ∧ (n < 1 → k = 0) ∧ Only [g] w w' ∧ Rd lo w' g K := by
  obtain ⟨C, bs, c, p, hp, hx⟩ := h
  have q0 := hx.c0
  have q1 := hx.c1
  have qf := hx.fz 1
  have HX := Lib.hid hx
  have hlen := hx.len
  have HN := Lib.hid hx.next
  have HO : Hid (Only [g] w (w.setCell ⟨g, 1, none⟩ (.int .i64 ((p : Int) + 1)))) := (Only.refl _ _).setCell (.inl (by simp)) _
  clear hx
  by_cases h1 : n < 1
  · go_enter Try.func73, Try.ntmps73
    go_wp2
    go_ret
    exact ⟨0, by simp, by omega, fun _ => rfl, HO.out, C, bs, c, p + 1, by omega, HN.out⟩
  by_cases h2 : bs.length = 0
  · have H2 := Lib.hid h2
    have h2i : (bs.length : Int) = 0 := by omega
    go_enter Try.func73, Try.ntmps73
    go_wp2
    go_ret
    exact ⟨0, by simp, by omega, fun _ => rfl, HO.out, C, bs, c, p + 1, by omega, HN.out⟩
  have h2i : (bs.length : Int) ≠ 0 := by omega
  by_cases h3 : p < bs.length
  · obtain ⟨b, o, x, rfl, gx, m, hb⟩ := HX.out.rf.at_ h3
    have m2 : (w.setCell ⟨g, 1, none⟩ (.int .i64 ((p : Int) + 1))).cell? ⟨b, o + p, none⟩ = some (.int .u8 x) := by
      have := HX.out.far b o rfl (by omega)
      have := HX.out.lo_
      exact HO.out.cell m (by simp; omega)
    have hbt := HX.out.bt x (List.mem_of_getElem? gx)
    clear m gx
    have hm0 : 0 ≤ x % n := Int.emod_nonneg _ (by omega)
    have hm1 : x % n < n := Int.emod_lt_of_pos _ (by omega)
    go_enter Try.func73, Try.ntmps73
    go_wp2
    go_ret
    exact ⟨(x % n).toNat, by rw [Int.toNat_of_nonneg hm0]; rfl, by rw [Int.toNat_of_nonneg hm0]; exact hm1, by omega, HO.out, _, bs, c, p + 1, by omega, HN.out⟩
  · have hL : (0 : Int) < (bs.length : Int) := by omega
    obtain ⟨i1, hi1⟩ : ∃ i : Nat, (p : Int) % (bs.length : Int) = (i : Int) := ⟨((p : Int) % (bs.length : Int)).toNat, by rw [Int.toNat_of_nonneg (Int.emod_nonneg _ (by omega))]⟩
    obtain ⟨i2, hi2⟩ : ∃ i : Nat, ((p : Int) * 7 + 3) % (bs.length : Int) = (i : Int) := ⟨(((p : Int) * 7 + 3) % (bs.length : Int)).toNat, by rw [Int.toNat_of_nonneg (Int.emod_nonneg _ (by omega))]⟩
    obtain ⟨d, hd⟩ : ∃ i : Nat, (p : Int) / (bs.length : Int) = (i : Int) := ⟨((p : Int) / (bs.length : Int)).toNat, by rw [Int.toNat_of_nonneg (Int.ediv_nonneg (by omega) (by omega))]⟩
    have l1 : i1 < bs.length := by have := Int.emod_lt_of_pos (p : Int) hL; omega
    have l2 : i2 < bs.length := by have := Int.emod_lt_of_pos ((p : Int) * 7 + 3) hL; omega
    have l3 : d ≤ p := by have := Int.ediv_le_self (a := (p : Int)) (bs.length : Int) (by omega); omega
    obtain ⟨b, o, x1, rfl, gx, m, hb⟩ := HX.out.rf.at_ l1
    obtain ⟨b9, o9, x2, e9, gx2, m9, -⟩ := HX.out.rf.at_ l2
    injection e9 with e9
    injection e9 with e9 e10
    subst e9 e10
    have hfar := HX.out.far b o rfl (by omega)
    have hlo := HX.out.lo_
    have m2 : (w.setCell ⟨g, 1, none⟩ (.int .i64 ((p : Int) + 1))).cell? ⟨b, o + i1, none⟩ = some (.int .u8 x1) := HO.out.cell m (by simp; omega)
    have m3 : (w.setCell ⟨g, 1, none⟩ (.int .i64 ((p : Int) + 1))).cell? ⟨b, o + i2, none⟩ = some (.int .u8 x2) := HO.out.cell m9 (by simp; omega)
    have hb1 := HX.out.bt x1 (List.mem_of_getElem? gx)
    have hb2 := HX.out.bt x2 (List.mem_of_getElem? gx2)
    clear m gx m9 gx2
    have n1 : (i1 : Int) < (bs.length : Int) := by omega
    have n2 : (i2 : Int) < (bs.length : Int) := by omega
    go_enter Try.func73, Try.ntmps73
    go_wp2
    go_quiet (fail)
    go_wp2
    have hx0 : 0 ≤ x1 * 131 + x2 * 1117 + (p : Int) * 29 + (d : Int) * 53 := by omega
    have hx1 : x1 * 131 + x2 * 1117 + (p : Int) * 29 + (d : Int) * 53 < 4611686018427387904 := by omega
    have hmx := mix_pos _ hx0 hx1
    have hm0 := Int.tmod_nonneg n hmx
    have hm1 := Int.tmod_lt_of_pos (bits BinOp.xor IntKind.i64 (x1 * 131 + x2 * 1117 + (p : Int) * 29 + (d : Int) * 53) ((x1 * 131 + x2 * 1117 + (p : Int) * 29 + (d : Int) * 53) / 64)) (show 0 < n by omega)
    go_ret
    refine ⟨_, by rw [← Int.toNat_of_nonneg hm0]; rfl, fun _ => by rw [Int.toNat_of_nonneg hm0]; exact hm1, by omega, ?_, some ⟨b, o, none⟩, bs, c, p + 1, by omega, ?_⟩
    · exact HO.out.trans (Only.of_below (Below.drewn (Below.refl _ _)))
    · exact HN.out.keep (Below.drewn (Below.refl _ _))
end Go.Proofs.Ytngmkflmjjkjaaa
