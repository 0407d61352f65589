/- The reference's drawing: instructions. -/
import Derived.Test.YtngmkflmjjkjaaaChecked
import Derived.Deep.QuietTactic
import Derived.BigQuiet
import Derived.IntWalk
import Derived.Deep.RegionWith
import Derived.Deep.DeepCutAuto
import Derived.Deep.CutBlock
import Derived.Test.YtngmkflmjjkjaaaDraw2
namespace Go.Proofs.Ytngmkflmjjkjaaa
open Go.RowKit
set_option maxRecDepth 100000
set_option linter.unusedSimpArgs false
set_option linter.unusedVariables false
/-- A region that draws its order, its ways laid under a name. -/
theorem wp_region_named {P : Program} {id : Nat} {ops : Array Oper} {Q : Exit → Act → World → Prop} {a : Act} {w : World} (hm : P.follows .mixedOrders = true)
    (h : ∀ R : Nat → Array Bool → Act → World → Prop, R = wpAny P .any ops Q → R ops.size (Array.replicate ops.size false) a w.drew) : (Code.region id ops true).wp P Q a w :=
  wp_region_any hm (h _ rfl)
/-- A box of four zeros. -/
structure BoxZ (lo : Nat) (w : World) (b : Nat) : Prop where
  c0 : w.cell? ⟨b, 0, none⟩ = some (.int .i64 0)
  c1 : w.cell? ⟨b, 1, none⟩ = some (.int .i64 0)
  c2 : w.cell? ⟨b, 2, none⟩ = some (.int .i64 0)
  c3 : w.cell? ⟨b, 3, none⟩ = some (.int .i64 0)
  fz : ∀ o, w.frozen? ⟨b, o, none⟩ = false
  ge : lo ≤ b
  lt : b < w.heap.size
theorem BoxZ.only {lo b g : Nat} {w w' : World} (h : BoxZ lo w b) (hOn : Only [g] w w') (hg : g < lo) : BoxZ lo w' b := by
  have hn : b ∉ [g] := by have := h.ge; simp; omega
  exact ⟨hOn.cell h.c0 hn, hOn.cell h.c1 hn, hOn.cell h.c2 hn, hOn.cell h.c3 hn, fun o => (World.frozen?_of_block (a := ⟨b, o, none⟩) (hOn.block b h.lt hn)).trans (h.fz o), h.ge, Nat.lt_of_lt_of_le h.lt hOn.size⟩
/-- A row of ten operations. -/
structure RowZ (lo : Nat) (w : World) (b : Nat) : Prop where
  at_ : ∀ k, k < 10 → ∃ op : Int, w.cell? ⟨b, k, none⟩ = some (.int .i64 op) ∧ 1 ≤ op ∧ op ≤ 6
  ge : lo ≤ b
  lt : b < w.heap.size
theorem RowZ.only {lo b g : Nat} {w w' : World} (h : RowZ lo w b) (hOn : Only [g] w w') (hg : g < lo) : RowZ lo w' b := by
  have hn : b ∉ [g] := by have := h.ge; simp; omega
  exact ⟨fun k hk => by obtain ⟨op, h1, h2⟩ := h.at_ k hk; exact ⟨op, hOn.cell h1 hn, h2⟩, h.ge, Nat.lt_of_lt_of_le h.lt hOn.size⟩
/-- A box of four values. -/
structure BoxV (lo : Nat) (w : World) (b : Nat) (v0 v1 v2 v3 : Value) : Prop where
  c0 : w.cell? ⟨b, 0, none⟩ = some v0
  c1 : w.cell? ⟨b, 1, none⟩ = some v1
  c2 : w.cell? ⟨b, 2, none⟩ = some v2
  c3 : w.cell? ⟨b, 3, none⟩ = some v3
  fz : ∀ o, w.frozen? ⟨b, o, none⟩ = false
  ge : lo ≤ b
  lt : b < w.heap.size
section
variable {lo b g : Nat} {w w' : World} {v0 v1 v2 v3 : Value}
theorem BoxV.only (h : BoxV lo w b v0 v1 v2 v3) (hOn : Only [g] w w') (hg : g < lo) : BoxV lo w' b v0 v1 v2 v3 := by
  have hn : b ∉ [g] := by have := h.ge; simp; omega
  exact ⟨hOn.cell h.c0 hn, hOn.cell h.c1 hn, hOn.cell h.c2 hn, hOn.cell h.c3 hn, fun o => (World.frozen?_of_block (a := ⟨b, o, none⟩) (hOn.block b h.lt hn)).trans (h.fz o), h.ge, Nat.lt_of_lt_of_le h.lt hOn.size⟩
theorem BoxV.below (h : BoxV lo w b v0 v1 v2 v3) (hB : Below w.heap.size w w') : BoxV lo w' b v0 v1 v2 v3 :=
  ⟨cell_below h.c0 hB, cell_below h.c1 hB, cell_below h.c2 hB, cell_below h.c3 hB, fun o => ((bcell hB).2.1 _ o h.lt).trans (h.fz o), h.ge, Nat.lt_of_lt_of_le h.lt hB.size⟩
theorem BoxV.s0 (h : BoxV lo w b v0 v1 v2 v3) (v : Value) : BoxV lo (w.setCell ⟨b, 0, none⟩ v) b v v1 v2 v3 :=
  ⟨by simp [go_sem, h.c0], by simp [go_sem, h.c1], by simp [go_sem, h.c2], by simp [go_sem, h.c3], fun o => by simpa [go_sem] using h.fz o, h.ge, by simpa using h.lt⟩
theorem BoxV.s1 (h : BoxV lo w b v0 v1 v2 v3) (v : Value) : BoxV lo (w.setCell ⟨b, 1, none⟩ v) b v0 v v2 v3 :=
  ⟨by simp [go_sem, h.c0], by simp [go_sem, h.c1], by simp [go_sem, h.c2], by simp [go_sem, h.c3], fun o => by simpa [go_sem] using h.fz o, h.ge, by simpa using h.lt⟩
theorem BoxV.s2 (h : BoxV lo w b v0 v1 v2 v3) (v : Value) : BoxV lo (w.setCell ⟨b, 2, none⟩ v) b v0 v1 v v3 :=
  ⟨by simp [go_sem, h.c0], by simp [go_sem, h.c1], by simp [go_sem, h.c2], by simp [go_sem, h.c3], fun o => by simpa [go_sem] using h.fz o, h.ge, by simpa using h.lt⟩
theorem BoxV.s3 (h : BoxV lo w b v0 v1 v2 v3) (v : Value) : BoxV lo (w.setCell ⟨b, 3, none⟩ v) b v0 v1 v2 v :=
  ⟨by simp [go_sem, h.c0], by simp [go_sem, h.c1], by simp [go_sem, h.c2], by simp [go_sem, h.c3], fun o => by simpa [go_sem] using h.fz o, h.ge, by simpa using h.lt⟩
end
theorem Only.al {S : List Nat} (w : World) (o : Obj) : Only S w (w.alloc o) := (Only.refl _ _).alloc _
def rowA : Array Value := #[.int .i64 1, .int .i64 1, .int .i64 1, .int .i64 2, .int .i64 3, .int .i64 3, .int .i64 3, .int .i64 4, .int .i64 5, .int .i64 6]
theorem opRow (k : Nat) (hk : k < 10) : ∃ op : Int, rowA[k]? = some (.int .i64 op) ∧ 1 ≤ op ∧ op ≤ 6 := by
  match k, hk with
  | 0, _ => exact ⟨1, rfl, by omega, by omega⟩
  | 1, _ => exact ⟨1, rfl, by omega, by omega⟩
  | 2, _ => exact ⟨1, rfl, by omega, by omega⟩
  | 3, _ => exact ⟨2, rfl, by omega, by omega⟩
  | 4, _ => exact ⟨3, rfl, by omega, by omega⟩
  | 5, _ => exact ⟨3, rfl, by omega, by omega⟩
  | 6, _ => exact ⟨3, rfl, by omega, by omega⟩
  | 7, _ => exact ⟨4, rfl, by omega, by omega⟩
  | 8, _ => exact ⟨5, rfl, by omega, by omega⟩
  | 9, _ => exact ⟨6, rfl, by omega, by omega⟩
theorem RowZ.new {lo : Nat} {w : World} (h : lo ≤ w.heap.size) : RowZ lo (w.alloc (.cells #[.int .i64 1, .int .i64 1, .int .i64 1, .int .i64 2, .int .i64 3, .int .i64 3, .int .i64 3, .int .i64 4, .int .i64 5, .int .i64 6] 3)) w.heap.size :=
  ⟨fun k hk => by obtain ⟨op, h1, h2⟩ := opRow k hk; exact ⟨op, (World.cell?_alloc_at _ _ _ k rfl).trans h1, h2⟩, h, by simp⟩
theorem BoxZ.new {lo : Nat} {w : World} (h : lo ≤ w.heap.size) (T : TypeId) : BoxZ lo (w.alloc (.cells #[.int .i64 0, .int .i64 0, .int .i64 0, .int .i64 0] T)) w.heap.size :=
  ⟨by simp [go_sem], by simp [go_sem], by simp [go_sem], by simp [go_sem], fun o => by simp [go_sem], h, by simp⟩
theorem set4 {w : World} {b : Nat} {v0 v1 v2 v3 u0 u1 u2 u3 : Value} (h0 : w.cell? ⟨b, 0, none⟩ = some u0) (h1 : w.cell? ⟨b, 1, none⟩ = some u1) (h2 : w.cell? ⟨b, 2, none⟩ = some u2) (h3 : w.cell? ⟨b, 3, none⟩ = some u3) :
    ((((w.setCell ⟨b, 0, none⟩ v0).setCell ⟨b, 1, none⟩ v1).setCell ⟨b, 2, none⟩ v2).setCell ⟨b, 3, none⟩ v3).cell? ⟨b, 0, none⟩ = some v0 ∧
    ((((w.setCell ⟨b, 0, none⟩ v0).setCell ⟨b, 1, none⟩ v1).setCell ⟨b, 2, none⟩ v2).setCell ⟨b, 3, none⟩ v3).cell? ⟨b, 1, none⟩ = some v1 ∧
    ((((w.setCell ⟨b, 0, none⟩ v0).setCell ⟨b, 1, none⟩ v1).setCell ⟨b, 2, none⟩ v2).setCell ⟨b, 3, none⟩ v3).cell? ⟨b, 2, none⟩ = some v2 ∧
    ((((w.setCell ⟨b, 0, none⟩ v0).setCell ⟨b, 1, none⟩ v1).setCell ⟨b, 2, none⟩ v2).setCell ⟨b, 3, none⟩ v3).cell? ⟨b, 3, none⟩ = some v3 := by
  refine ⟨?_, ?_, ?_, ?_⟩ <;> simp [go_sem, h0, h1, h2, h3]
def cmdV (o : CmdM) : Value := .agg #[.int .i64 o.op, .int .i64 o.a, .int .i64 o.b, .int .i64 o.c]
set_option maxHeartbeats 4000000 in
theorem l20Command_any (lo g K : Nat) (n : Int) (w : World) (h : Rd lo w g (K + 16)) (hn1 : 0 ≤ n) (hn2 : n ≤ 1048576) :
    Calls Try.prog 75 #[.pointer (some ⟨g, 0, none⟩), .int .i64 n] w fun e w' => ∃ o : CmdM, e = .returned (cmdV o) ∧ (n = 0 → cmdOk o = true) ∧ Only [g] w w' ∧ Rd lo w' g K := by
  have H := Lib.hid h
  clear h
  have hlt := H.out.lt
  have hW1 : Below w.heap.size w ((w.alloc (.cells #[.int .i64 0, .int .i64 0, .int .i64 0, .int .i64 0] 36))) := (by repeat (first | ((with_reducible refine Below.setc ?_ ?_ _); focus (first | omega | (simp; done) | (simp; omega))) | ((with_reducible refine Below.allocc ?_ ?_ _); focus (first | omega | (simp; done) | (simp; omega))) | (with_reducible refine Below.drew ?_) | (with_reducible refine Below.drewn ?_) | (with_reducible assumption) | (with_reducible exact Below.refl _ _) | ((with_reducible refine Below.stepp (by with_reducible assumption) ?_ ?_); focus (first | omega | (simp; done) | (simp; omega)))))
  have HG0 : Hid (∀ W, Only [g] ((w.alloc (.cells #[.int .i64 0, .int .i64 0, .int .i64 0, .int .i64 0] 36))) W → (W.cell? ⟨w.heap.size, 0, none⟩ = some (.int .i64 0) ∧ W.cell? ⟨w.heap.size, 1, none⟩ = some (.int .i64 0) ∧ W.cell? ⟨w.heap.size, 2, none⟩ = some (.int .i64 0) ∧ W.cell? ⟨w.heap.size, 3, none⟩ = some (.int .i64 0) ∧ ∀ o, W.frozen? ⟨w.heap.size, o, none⟩ = false)) := fun W hW => ⟨hW.cell (by simp [go_sem]) (by simp; omega), hW.cell (by simp [go_sem]) (by simp; omega), hW.cell (by simp [go_sem]) (by simp; omega), hW.cell (by simp [go_sem]) (by simp; omega), fun o => (World.frozen?_of_block (a := ⟨w.heap.size, o, none⟩) (hW.block _ (by simp) (by simp; omega))).trans (by simp [go_sem])⟩
  have HO1 : Hid (Only [g] w ((w.alloc (.cells #[.int .i64 0, .int .i64 0, .int .i64 0, .int .i64 0] 36)))) := Only.of_below hW1
  have H1 := Lib.hid (H.out.below hW1)
  have HZ1 : Hid (((w.alloc (.cells #[.int .i64 0, .int .i64 0, .int .i64 0, .int .i64 0] 36))).heap.size = w.heap.size + 1) := by unfold Hid; simp
  have hgl : g < ((w.alloc (.cells #[.int .i64 0, .int .i64 0, .int .i64 0, .int .i64 0] 36))).heap.size := by simp; omega
  go_enter Try.func75, Try.ntmps75
  go_upto_region 1 with fail
  generalize ((w.alloc (.cells #[.int .i64 0, .int .i64 0, .int .i64 0, .int .i64 0] 36))) = W1 at *
  go_cut [5] (fun s5 W => ∃ (b : Nat) (op a : Int), s5 = .pointer (some ⟨b, 0, none⟩) ∧ Hid (1 ≤ op ∧ op ≤ 6 ∧ 0 ≤ a ∧ a ≤ 3) ∧ Hid (BoxV W1.heap.size W b (.int .i64 op) (.int .i64 a) (.int .i64 0) (.int .i64 0)) ∧ Hid (Rd lo W g (K + 14)) ∧ Hid (Only [g] W1 W))
  case first =>
    have hmono : ∀ {W W' : World}, Only [g] W1 W → Only [g] W W' → Only [g] W1 W' ∧ W1.heap.size ≤ W'.heap.size := fun h1 h2 => ⟨h1.trans h2, Nat.le_trans h1.size h2.size⟩
    refine wp_region_named (by kernel_rfl) (fun R hR => ?_)
    have n_02468 : ∀ (bA bB k a : Nat) (op : Int) (W : World), Only [g] W1 W → Hid (Rd lo W g (K + 14)) → BoxZ W1.heap.size W bA → Hid (RowZ W1.heap.size W bB) → (k : Int) < 10 → Hid (1 ≤ op ∧ op ≤ 6) → Hid ((a : Int) < 4) → R 1 #[true, true, true, true, true, true, true, true, true, false] ⟨#[.pointer (some ⟨g, 0, none⟩), .int .i64 n, undef, undef, .pointer (some ⟨w.heap.size, 0, none⟩), .pointer (some ⟨bA, 0, none⟩), .slice (some ⟨bB, 0, none⟩) 10 10, .pointer (some ⟨g, 0, none⟩), .int .i64 (k : Int), .pointer (some ⟨bB, k, none⟩), .int .i64 op, .pointer (some ⟨g, 0, none⟩), .int .i64 (a : Int), .agg #[.int .i64 op, .int .i64 (a : Int), .int .i64 0, .int .i64 0], undef, undef, undef, undef, undef, undef, undef, undef, undef, undef, undef, undef, undef, undef, undef, undef, undef, undef, undef, undef, undef, undef, undef, undef, undef, undef, undef, undef, undef, undef, undef, undef, undef, undef, undef, undef, undef, undef, undef, undef, undef, undef, undef, undef, undef, undef, undef, undef, undef, undef, undef, undef, undef, undef, undef, undef, undef, undef, undef, undef, undef, undef, undef, undef, undef, undef, undef, undef, undef, undef, undef, undef, undef, undef, undef, undef], []⟩ W := by
      intro bA bB k a op W hOn HRd hA hB hk hop ha
      rw [hR]
      refine wpAny_ready (rs := [9]) (by kernel_rfl) (by simp) ?_
      refine AllReady.cons rfl (fun K9 hK9 => ?_) ?_
      · have c0 := hA.c0
        have c1 := hA.c1
        have c2 := hA.c2
        have c3 := hA.c3
        have f0 := hA.fz 0
        have f1 := hA.fz 1
        have f2 := hA.fz 2
        have f3 := hA.fz 3
        go_simp
        refine hK9 _ _ ?_
        (try clear hK9)
        refine wpAny_done (by kernel_rfl) ?_ _
        go_wp2_with fail
        go_meet
        have hge := hA.ge
        have hV : BoxV W1.heap.size W bA (.int .i64 0) (.int .i64 0) (.int .i64 0) (.int .i64 0) := ⟨hA.c0, hA.c1, hA.c2, hA.c3, hA.fz, hA.ge, hA.lt⟩
        exact ⟨bA, op, (a : Int), rfl, ⟨hop.out.1, hop.out.2, by omega, by have := ha.out; omega⟩, (((hV.s0 _).s1 _).s2 _).s3 _, HRd.out.keep (by repeat (first | ((with_reducible refine Below.setc ?_ ?_ _); focus (first | omega | (simp; done) | (simp; omega))) | ((with_reducible refine Below.allocc ?_ ?_ _); focus (first | omega | (simp; done) | (simp; omega))) | (with_reducible refine Below.drew ?_) | (with_reducible refine Below.drewn ?_) | (with_reducible assumption) | (with_reducible exact Below.refl _ _) | ((with_reducible refine Below.stepp (by with_reducible assumption) ?_ ?_); focus (first | omega | (simp; done) | (simp; omega))))), Only.setCell (Only.setCell (Only.setCell (Only.setCell hOn (.inr hge) _) (.inr hge) _) (.inr hge) _) (.inr hge) _⟩
      exact AllReady.nil
    have n_0246 : ∀ (bB k a : Nat) (op : Int) (W : World), Only [g] W1 W → Hid (Rd lo W g (K + 14)) → Hid (RowZ W1.heap.size W bB) → (k : Int) < 10 → Hid (1 ≤ op ∧ op ≤ 6) → Hid ((a : Int) < 4) → R 2 #[true, true, true, true, true, true, true, true, false, false] ⟨#[.pointer (some ⟨g, 0, none⟩), .int .i64 n, undef, undef, .pointer (some ⟨w.heap.size, 0, none⟩), undef, .slice (some ⟨bB, 0, none⟩) 10 10, .pointer (some ⟨g, 0, none⟩), .int .i64 (k : Int), .pointer (some ⟨bB, k, none⟩), .int .i64 op, .pointer (some ⟨g, 0, none⟩), .int .i64 (a : Int), .agg #[.int .i64 op, .int .i64 (a : Int), .int .i64 0, .int .i64 0], undef, undef, undef, undef, undef, undef, undef, undef, undef, undef, undef, undef, undef, undef, undef, undef, undef, undef, undef, undef, undef, undef, undef, undef, undef, undef, undef, undef, undef, undef, undef, undef, undef, undef, undef, undef, undef, undef, undef, undef, undef, undef, undef, undef, undef, undef, undef, undef, undef, undef, undef, undef, undef, undef, undef, undef, undef, undef, undef, undef, undef, undef, undef, undef, undef, undef, undef, undef, undef, undef, undef, undef, undef, undef, undef, undef], []⟩ W := by
      intro bB k a op W hOn HRd hB hk hop ha
      rw [hR]
      refine wpAny_ready (rs := [8]) (by kernel_rfl) (by simp) ?_
      refine AllReady.cons rfl (fun K9 hK9 => ?_) ?_
      · go_simp
        refine hK9 _ _ ?_
        (try clear hK9)
        rw [← hR]
        exact n_02468 W.heap.size bB k a op _ (hmono hOn (Only.al _ _)).1 (HRd.out.below ((Below.refl _ _).alloc (Nat.le_refl _) _)) (BoxZ.new hOn.size _) (hB.out.only (Only.al (S := [g]) _ _) hgl) hk hop ha
      exact AllReady.nil
    have n_0248 : ∀ (bA bB k : Nat) (op : Int) (W : World), Only [g] W1 W → Hid (Rd lo W g (K + 15)) → BoxZ W1.heap.size W bA → Hid (RowZ W1.heap.size W bB) → (k : Int) < 10 → Hid (1 ≤ op ∧ op ≤ 6) → R 3 #[true, true, true, true, true, true, false, false, true, false] ⟨#[.pointer (some ⟨g, 0, none⟩), .int .i64 n, undef, undef, .pointer (some ⟨w.heap.size, 0, none⟩), .pointer (some ⟨bA, 0, none⟩), .slice (some ⟨bB, 0, none⟩) 10 10, .pointer (some ⟨g, 0, none⟩), .int .i64 (k : Int), .pointer (some ⟨bB, k, none⟩), .int .i64 op, .pointer (some ⟨g, 0, none⟩), undef, undef, undef, undef, undef, undef, undef, undef, undef, undef, undef, undef, undef, undef, undef, undef, undef, undef, undef, undef, undef, undef, undef, undef, undef, undef, undef, undef, undef, undef, undef, undef, undef, undef, undef, undef, undef, undef, undef, undef, undef, undef, undef, undef, undef, undef, undef, undef, undef, undef, undef, undef, undef, undef, undef, undef, undef, undef, undef, undef, undef, undef, undef, undef, undef, undef, undef, undef, undef, undef, undef, undef, undef, undef, undef, undef, undef, undef], []⟩ W := by
      intro bA bB k op W hOn HRd hA hB hk hop
      rw [hR]
      refine wpAny_ready (rs := [6]) (by kernel_rfl) (by simp) ?_
      refine AllReady.cons rfl (fun K9 hK9 => ?_) ?_
      · go_wp2_with (go_at_call 73; (with_reducible refine (pick_any lo g (K + 14) 4 _ HRd.out (by omega) (by omega)).mono ?_); rintro e w2 ⟨a, rfl, ha1, -, hOn1, hR1⟩)
        have ha : Hid ((a : Int) < 4) := ha1 (by omega)
        (try (refine hK9 _ _ ?_))
        (try clear hK9)
        (refine wpAny_take (i := 7) (v := ?v9_1) rfl (by kernel_rfl) (by kernel_rfl) (by kernel_rfl) (fun _ _ _ h => h) (Or.inl ⟨by rfl, ?h9_1⟩) ?r9_1; (case h9_1 => (intro w9; go_simp; try with_reducible rfl)))
        rw [← hR]
        exact n_02468 bA bB k a op _ (hmono hOn hOn1).1 hR1 (hA.only hOn1 hgl) (hB.out.only hOn1 hgl) hk hop ha
      exact AllReady.nil
    have n_0268 : ∀ (bA bB k a : Nat) (W : World), Only [g] W1 W → Hid (Rd lo W g (K + 14)) → BoxZ W1.heap.size W bA → Hid (RowZ W1.heap.size W bB) → (k : Int) < 10 → Hid ((a : Int) < 4) → R 3 #[true, true, true, true, false, true, true, false, true, false] ⟨#[.pointer (some ⟨g, 0, none⟩), .int .i64 n, undef, undef, .pointer (some ⟨w.heap.size, 0, none⟩), .pointer (some ⟨bA, 0, none⟩), .slice (some ⟨bB, 0, none⟩) 10 10, .pointer (some ⟨g, 0, none⟩), .int .i64 (k : Int), .pointer (some ⟨bB, k, none⟩), undef, .pointer (some ⟨g, 0, none⟩), .int .i64 (a : Int), undef, undef, undef, undef, undef, undef, undef, undef, undef, undef, undef, undef, undef, undef, undef, undef, undef, undef, undef, undef, undef, undef, undef, undef, undef, undef, undef, undef, undef, undef, undef, undef, undef, undef, undef, undef, undef, undef, undef, undef, undef, undef, undef, undef, undef, undef, undef, undef, undef, undef, undef, undef, undef, undef, undef, undef, undef, undef, undef, undef, undef, undef, undef, undef, undef, undef, undef, undef, undef, undef, undef, undef, undef, undef, undef, undef, undef], []⟩ W := by
      intro bA bB k a W hOn HRd hA hB hk ha
      rw [hR]
      refine wpAny_ready (rs := [4]) (by kernel_rfl) (by simp) ?_
      refine AllReady.cons rfl (fun K9 hK9 => ?_) ?_
      · obtain ⟨op, hc, hop⟩ := hB.out.at_ k (by omega)
        have hop := Lib.hid hop
        go_simp
        refine hK9 _ _ ?_
        (try clear hK9)
        (refine wpAny_take (i := 7) (v := ?v9_2) rfl (by kernel_rfl) (by kernel_rfl) (by kernel_rfl) (fun _ _ _ h => h) (Or.inl ⟨by rfl, ?h9_2⟩) ?r9_2; (case h9_2 => (intro w9; go_simp; try with_reducible rfl)))
        rw [← hR]
        exact n_02468 bA bB k a op _ hOn HRd hA hB hk hop ha
      exact AllReady.nil
    have n_024 : ∀ (bB k : Nat) (op : Int) (W : World), Only [g] W1 W → Hid (Rd lo W g (K + 15)) → Hid (RowZ W1.heap.size W bB) → (k : Int) < 10 → Hid (1 ≤ op ∧ op ≤ 6) → R 4 #[true, true, true, true, true, true, false, false, false, false] ⟨#[.pointer (some ⟨g, 0, none⟩), .int .i64 n, undef, undef, .pointer (some ⟨w.heap.size, 0, none⟩), undef, .slice (some ⟨bB, 0, none⟩) 10 10, .pointer (some ⟨g, 0, none⟩), .int .i64 (k : Int), .pointer (some ⟨bB, k, none⟩), .int .i64 op, .pointer (some ⟨g, 0, none⟩), undef, undef, undef, undef, undef, undef, undef, undef, undef, undef, undef, undef, undef, undef, undef, undef, undef, undef, undef, undef, undef, undef, undef, undef, undef, undef, undef, undef, undef, undef, undef, undef, undef, undef, undef, undef, undef, undef, undef, undef, undef, undef, undef, undef, undef, undef, undef, undef, undef, undef, undef, undef, undef, undef, undef, undef, undef, undef, undef, undef, undef, undef, undef, undef, undef, undef, undef, undef, undef, undef, undef, undef, undef, undef, undef, undef, undef, undef], []⟩ W := by
      intro bB k op W hOn HRd hB hk hop
      rw [hR]
      refine wpAny_ready (rs := [6, 8]) (by kernel_rfl) (by simp) ?_
      refine AllReady.cons rfl (fun K9 hK9 => ?_) ?_
      · go_wp2_with (go_at_call 73; (with_reducible refine (pick_any lo g (K + 14) 4 _ HRd.out (by omega) (by omega)).mono ?_); rintro e w2 ⟨a, rfl, ha1, -, hOn1, hR1⟩)
        have ha : Hid ((a : Int) < 4) := ha1 (by omega)
        (try (refine hK9 _ _ ?_))
        (try clear hK9)
        (refine wpAny_take (i := 7) (v := ?v9_3) rfl (by kernel_rfl) (by kernel_rfl) (by kernel_rfl) (fun _ _ _ h => h) (Or.inl ⟨by rfl, ?h9_3⟩) ?r9_3; (case h9_3 => (intro w9; go_simp; try with_reducible rfl)))
        rw [← hR]
        exact n_0246 bB k a op _ (hmono hOn hOn1).1 hR1 (hB.out.only hOn1 hgl) hk hop ha
      refine AllReady.cons rfl (fun K9 hK9 => ?_) ?_
      · go_simp
        refine hK9 _ _ ?_
        (try clear hK9)
        rw [← hR]
        exact n_0248 W.heap.size bB k op _ (hmono hOn (Only.al _ _)).1 (HRd.out.below ((Below.refl _ _).alloc (Nat.le_refl _) _)) (BoxZ.new hOn.size _) (hB.out.only (Only.al (S := [g]) _ _) hgl) hk hop
      exact AllReady.nil
    have n_026 : ∀ (bB k a : Nat) (W : World), Only [g] W1 W → Hid (Rd lo W g (K + 14)) → Hid (RowZ W1.heap.size W bB) → (k : Int) < 10 → Hid ((a : Int) < 4) → R 4 #[true, true, true, true, false, true, true, false, false, false] ⟨#[.pointer (some ⟨g, 0, none⟩), .int .i64 n, undef, undef, .pointer (some ⟨w.heap.size, 0, none⟩), undef, .slice (some ⟨bB, 0, none⟩) 10 10, .pointer (some ⟨g, 0, none⟩), .int .i64 (k : Int), .pointer (some ⟨bB, k, none⟩), undef, .pointer (some ⟨g, 0, none⟩), .int .i64 (a : Int), undef, undef, undef, undef, undef, undef, undef, undef, undef, undef, undef, undef, undef, undef, undef, undef, undef, undef, undef, undef, undef, undef, undef, undef, undef, undef, undef, undef, undef, undef, undef, undef, undef, undef, undef, undef, undef, undef, undef, undef, undef, undef, undef, undef, undef, undef, undef, undef, undef, undef, undef, undef, undef, undef, undef, undef, undef, undef, undef, undef, undef, undef, undef, undef, undef, undef, undef, undef, undef, undef, undef, undef, undef, undef, undef, undef, undef], []⟩ W := by
      intro bB k a W hOn HRd hB hk ha
      rw [hR]
      refine wpAny_ready (rs := [4, 8]) (by kernel_rfl) (by simp) ?_
      refine AllReady.cons rfl (fun K9 hK9 => ?_) ?_
      · obtain ⟨op, hc, hop⟩ := hB.out.at_ k (by omega)
        have hop := Lib.hid hop
        go_simp
        refine hK9 _ _ ?_
        (try clear hK9)
        (refine wpAny_take (i := 7) (v := ?v9_4) rfl (by kernel_rfl) (by kernel_rfl) (by kernel_rfl) (fun _ _ _ h => h) (Or.inl ⟨by rfl, ?h9_4⟩) ?r9_4; (case h9_4 => (intro w9; go_simp; try with_reducible rfl)))
        rw [← hR]
        exact n_0246 bB k a op _ hOn HRd hB hk hop ha
      refine AllReady.cons rfl (fun K9 hK9 => ?_) ?_
      · go_simp
        refine hK9 _ _ ?_
        (try clear hK9)
        rw [← hR]
        exact n_0268 W.heap.size bB k a _ (hmono hOn (Only.al _ _)).1 (HRd.out.below ((Below.refl _ _).alloc (Nat.le_refl _) _)) (BoxZ.new hOn.size _) (hB.out.only (Only.al (S := [g]) _ _) hgl) hk ha
      exact AllReady.nil
    have n_028 : ∀ (bA bB k : Nat) (W : World), Only [g] W1 W → Hid (Rd lo W g (K + 15)) → BoxZ W1.heap.size W bA → Hid (RowZ W1.heap.size W bB) → (k : Int) < 10 → R 4 #[true, true, true, true, false, true, false, false, true, false] ⟨#[.pointer (some ⟨g, 0, none⟩), .int .i64 n, undef, undef, .pointer (some ⟨w.heap.size, 0, none⟩), .pointer (some ⟨bA, 0, none⟩), .slice (some ⟨bB, 0, none⟩) 10 10, .pointer (some ⟨g, 0, none⟩), .int .i64 (k : Int), .pointer (some ⟨bB, k, none⟩), undef, .pointer (some ⟨g, 0, none⟩), undef, undef, undef, undef, undef, undef, undef, undef, undef, undef, undef, undef, undef, undef, undef, undef, undef, undef, undef, undef, undef, undef, undef, undef, undef, undef, undef, undef, undef, undef, undef, undef, undef, undef, undef, undef, undef, undef, undef, undef, undef, undef, undef, undef, undef, undef, undef, undef, undef, undef, undef, undef, undef, undef, undef, undef, undef, undef, undef, undef, undef, undef, undef, undef, undef, undef, undef, undef, undef, undef, undef, undef, undef, undef, undef, undef, undef, undef], []⟩ W := by
      intro bA bB k W hOn HRd hA hB hk
      rw [hR]
      refine wpAny_ready (rs := [4, 6]) (by kernel_rfl) (by simp) ?_
      refine AllReady.cons rfl (fun K9 hK9 => ?_) ?_
      · obtain ⟨op, hc, hop⟩ := hB.out.at_ k (by omega)
        have hop := Lib.hid hop
        go_simp
        refine hK9 _ _ ?_
        (try clear hK9)
        rw [← hR]
        exact n_0248 bA bB k op _ hOn HRd hA hB hk hop
      refine AllReady.cons rfl (fun K9 hK9 => ?_) ?_
      · go_wp2_with (go_at_call 73; (with_reducible refine (pick_any lo g (K + 14) 4 _ HRd.out (by omega) (by omega)).mono ?_); rintro e w2 ⟨a, rfl, ha1, -, hOn1, hR1⟩)
        have ha : Hid ((a : Int) < 4) := ha1 (by omega)
        (try (refine hK9 _ _ ?_))
        (try clear hK9)
        rw [← hR]
        exact n_0268 bA bB k a _ (hmono hOn hOn1).1 hR1 (hA.only hOn1 hgl) (hB.out.only hOn1 hgl) hk ha
      exact AllReady.nil
    have n_268 : ∀ (bA k a : Nat) (W : World), Only [g] W1 W → Hid (Rd lo W g (K + 14)) → BoxZ W1.heap.size W bA → (k : Int) < 10 → Hid ((a : Int) < 4) → R 5 #[false, true, true, false, false, true, true, false, true, false] ⟨#[.pointer (some ⟨g, 0, none⟩), .int .i64 n, undef, undef, .pointer (some ⟨w.heap.size, 0, none⟩), .pointer (some ⟨bA, 0, none⟩), undef, .pointer (some ⟨g, 0, none⟩), .int .i64 (k : Int), undef, undef, .pointer (some ⟨g, 0, none⟩), .int .i64 (a : Int), undef, undef, undef, undef, undef, undef, undef, undef, undef, undef, undef, undef, undef, undef, undef, undef, undef, undef, undef, undef, undef, undef, undef, undef, undef, undef, undef, undef, undef, undef, undef, undef, undef, undef, undef, undef, undef, undef, undef, undef, undef, undef, undef, undef, undef, undef, undef, undef, undef, undef, undef, undef, undef, undef, undef, undef, undef, undef, undef, undef, undef, undef, undef, undef, undef, undef, undef, undef, undef, undef, undef, undef, undef, undef, undef, undef, undef], []⟩ W := by
      intro bA k a W hOn HRd hA hk ha
      rw [hR]
      refine wpAny_ready (rs := [0]) (by kernel_rfl) (by simp) ?_
      refine AllReady.cons rfl (fun K9 hK9 => ?_) ?_
      · go_simp
        refine hK9 _ _ ?_
        (try clear hK9)
        (refine wpAny_take (i := 3) (v := ?v9_5) rfl (by kernel_rfl) (by kernel_rfl) (by kernel_rfl) (fun _ _ _ h => h) (Or.inl ⟨by rfl, ?h9_5⟩) ?r9_5; (case h9_5 => (intro w9; go_simp; try with_reducible rfl)))
        rw [← hR]
        exact n_0268 bA W.heap.size k a _ (hmono hOn (Only.al _ _)).1 (HRd.out.below ((Below.refl _ _).alloc (Nat.le_refl _) _)) (hA.only (Only.al (S := [g]) _ _) hgl) (RowZ.new hOn.size) hk ha
      exact AllReady.nil
    have n_02 : ∀ (bB k : Nat) (W : World), Only [g] W1 W → Hid (Rd lo W g (K + 15)) → Hid (RowZ W1.heap.size W bB) → (k : Int) < 10 → R 5 #[true, true, true, true, false, true, false, false, false, false] ⟨#[.pointer (some ⟨g, 0, none⟩), .int .i64 n, undef, undef, .pointer (some ⟨w.heap.size, 0, none⟩), undef, .slice (some ⟨bB, 0, none⟩) 10 10, .pointer (some ⟨g, 0, none⟩), .int .i64 (k : Int), .pointer (some ⟨bB, k, none⟩), undef, .pointer (some ⟨g, 0, none⟩), undef, undef, undef, undef, undef, undef, undef, undef, undef, undef, undef, undef, undef, undef, undef, undef, undef, undef, undef, undef, undef, undef, undef, undef, undef, undef, undef, undef, undef, undef, undef, undef, undef, undef, undef, undef, undef, undef, undef, undef, undef, undef, undef, undef, undef, undef, undef, undef, undef, undef, undef, undef, undef, undef, undef, undef, undef, undef, undef, undef, undef, undef, undef, undef, undef, undef, undef, undef, undef, undef, undef, undef, undef, undef, undef, undef, undef, undef], []⟩ W := by
      intro bB k W hOn HRd hB hk
      rw [hR]
      refine wpAny_ready (rs := [4, 6, 8]) (by kernel_rfl) (by simp) ?_
      refine AllReady.cons rfl (fun K9 hK9 => ?_) ?_
      · obtain ⟨op, hc, hop⟩ := hB.out.at_ k (by omega)
        have hop := Lib.hid hop
        go_simp
        refine hK9 _ _ ?_
        (try clear hK9)
        rw [← hR]
        exact n_024 bB k op _ hOn HRd hB hk hop
      refine AllReady.cons rfl (fun K9 hK9 => ?_) ?_
      · go_wp2_with (go_at_call 73; (with_reducible refine (pick_any lo g (K + 14) 4 _ HRd.out (by omega) (by omega)).mono ?_); rintro e w2 ⟨a, rfl, ha1, -, hOn1, hR1⟩)
        have ha : Hid ((a : Int) < 4) := ha1 (by omega)
        (try (refine hK9 _ _ ?_))
        (try clear hK9)
        rw [← hR]
        exact n_026 bB k a _ (hmono hOn hOn1).1 hR1 (hB.out.only hOn1 hgl) hk ha
      refine AllReady.cons rfl (fun K9 hK9 => ?_) ?_
      · go_simp
        refine hK9 _ _ ?_
        (try clear hK9)
        rw [← hR]
        exact n_028 W.heap.size bB k _ (hmono hOn (Only.al _ _)).1 (HRd.out.below ((Below.refl _ _).alloc (Nat.le_refl _) _)) (BoxZ.new hOn.size _) (hB.out.only (Only.al (S := [g]) _ _) hgl) hk
      exact AllReady.nil
    have n_26 : ∀ (k a : Nat) (W : World), Only [g] W1 W → Hid (Rd lo W g (K + 14)) → (k : Int) < 10 → Hid ((a : Int) < 4) → R 6 #[false, true, true, false, false, true, true, false, false, false] ⟨#[.pointer (some ⟨g, 0, none⟩), .int .i64 n, undef, undef, .pointer (some ⟨w.heap.size, 0, none⟩), undef, undef, .pointer (some ⟨g, 0, none⟩), .int .i64 (k : Int), undef, undef, .pointer (some ⟨g, 0, none⟩), .int .i64 (a : Int), undef, undef, undef, undef, undef, undef, undef, undef, undef, undef, undef, undef, undef, undef, undef, undef, undef, undef, undef, undef, undef, undef, undef, undef, undef, undef, undef, undef, undef, undef, undef, undef, undef, undef, undef, undef, undef, undef, undef, undef, undef, undef, undef, undef, undef, undef, undef, undef, undef, undef, undef, undef, undef, undef, undef, undef, undef, undef, undef, undef, undef, undef, undef, undef, undef, undef, undef, undef, undef, undef, undef, undef, undef, undef, undef, undef, undef], []⟩ W := by
      intro k a W hOn HRd hk ha
      rw [hR]
      refine wpAny_ready (rs := [0, 8]) (by kernel_rfl) (by simp) ?_
      refine AllReady.cons rfl (fun K9 hK9 => ?_) ?_
      · go_simp
        refine hK9 _ _ ?_
        (try clear hK9)
        (refine wpAny_take (i := 3) (v := ?v9_6) rfl (by kernel_rfl) (by kernel_rfl) (by kernel_rfl) (fun _ _ _ h => h) (Or.inl ⟨by rfl, ?h9_6⟩) ?r9_6; (case h9_6 => (intro w9; go_simp; try with_reducible rfl)))
        rw [← hR]
        exact n_026 W.heap.size k a _ (hmono hOn (Only.al _ _)).1 (HRd.out.below ((Below.refl _ _).alloc (Nat.le_refl _) _)) (RowZ.new hOn.size) hk ha
      refine AllReady.cons rfl (fun K9 hK9 => ?_) ?_
      · go_simp
        refine hK9 _ _ ?_
        (try clear hK9)
        rw [← hR]
        exact n_268 W.heap.size k a _ (hmono hOn (Only.al _ _)).1 (HRd.out.below ((Below.refl _ _).alloc (Nat.le_refl _) _)) (BoxZ.new hOn.size _) hk ha
      exact AllReady.nil
    have n_08 : ∀ (bA bB : Nat) (W : World), Only [g] W1 W → Hid (Rd lo W g (K + 16)) → BoxZ W1.heap.size W bA → Hid (RowZ W1.heap.size W bB) → R 6 #[true, true, false, false, false, true, false, false, true, false] ⟨#[.pointer (some ⟨g, 0, none⟩), .int .i64 n, undef, undef, .pointer (some ⟨w.heap.size, 0, none⟩), .pointer (some ⟨bA, 0, none⟩), .slice (some ⟨bB, 0, none⟩) 10 10, .pointer (some ⟨g, 0, none⟩), undef, undef, undef, .pointer (some ⟨g, 0, none⟩), undef, undef, undef, undef, undef, undef, undef, undef, undef, undef, undef, undef, undef, undef, undef, undef, undef, undef, undef, undef, undef, undef, undef, undef, undef, undef, undef, undef, undef, undef, undef, undef, undef, undef, undef, undef, undef, undef, undef, undef, undef, undef, undef, undef, undef, undef, undef, undef, undef, undef, undef, undef, undef, undef, undef, undef, undef, undef, undef, undef, undef, undef, undef, undef, undef, undef, undef, undef, undef, undef, undef, undef, undef, undef, undef, undef, undef, undef], []⟩ W := by
      intro bA bB W hOn HRd hA hB
      rw [hR]
      refine wpAny_ready (rs := [2]) (by kernel_rfl) (by simp) ?_
      refine AllReady.cons rfl (fun K9 hK9 => ?_) ?_
      · go_wp2_with (go_at_call 73; (with_reducible refine (pick_any lo g (K + 15) 10 _ HRd.out (by omega) (by omega)).mono ?_); rintro e w2 ⟨k, rfl, hk1, -, hOn1, hR1⟩)
        have hk : (k : Int) < 10 := hk1 (by omega)
        (try (refine hK9 _ _ ?_))
        (try clear hK9)
        (refine wpAny_take (i := 3) (v := ?v9_7) rfl (by kernel_rfl) (by kernel_rfl) (by kernel_rfl) (fun _ _ _ h => h) (Or.inl ⟨by rfl, ?h9_7⟩) ?r9_7; (case h9_7 => (intro w9; go_simp; try with_reducible rfl)))
        rw [← hR]
        exact n_028 bA bB k _ (hmono hOn hOn1).1 hR1 (hA.only hOn1 hgl) (hB.out.only hOn1 hgl) hk
      exact AllReady.nil
    have n_28 : ∀ (bA k : Nat) (W : World), Only [g] W1 W → Hid (Rd lo W g (K + 15)) → BoxZ W1.heap.size W bA → (k : Int) < 10 → R 6 #[false, true, true, false, false, true, false, false, true, false] ⟨#[.pointer (some ⟨g, 0, none⟩), .int .i64 n, undef, undef, .pointer (some ⟨w.heap.size, 0, none⟩), .pointer (some ⟨bA, 0, none⟩), undef, .pointer (some ⟨g, 0, none⟩), .int .i64 (k : Int), undef, undef, .pointer (some ⟨g, 0, none⟩), undef, undef, undef, undef, undef, undef, undef, undef, undef, undef, undef, undef, undef, undef, undef, undef, undef, undef, undef, undef, undef, undef, undef, undef, undef, undef, undef, undef, undef, undef, undef, undef, undef, undef, undef, undef, undef, undef, undef, undef, undef, undef, undef, undef, undef, undef, undef, undef, undef, undef, undef, undef, undef, undef, undef, undef, undef, undef, undef, undef, undef, undef, undef, undef, undef, undef, undef, undef, undef, undef, undef, undef, undef, undef, undef, undef, undef, undef], []⟩ W := by
      intro bA k W hOn HRd hA hk
      rw [hR]
      refine wpAny_ready (rs := [0, 6]) (by kernel_rfl) (by simp) ?_
      refine AllReady.cons rfl (fun K9 hK9 => ?_) ?_
      · go_simp
        refine hK9 _ _ ?_
        (try clear hK9)
        (refine wpAny_take (i := 3) (v := ?v9_8) rfl (by kernel_rfl) (by kernel_rfl) (by kernel_rfl) (fun _ _ _ h => h) (Or.inl ⟨by rfl, ?h9_8⟩) ?r9_8; (case h9_8 => (intro w9; go_simp; try with_reducible rfl)))
        rw [← hR]
        exact n_028 bA W.heap.size k _ (hmono hOn (Only.al _ _)).1 (HRd.out.below ((Below.refl _ _).alloc (Nat.le_refl _) _)) (hA.only (Only.al (S := [g]) _ _) hgl) (RowZ.new hOn.size) hk
      refine AllReady.cons rfl (fun K9 hK9 => ?_) ?_
      · go_wp2_with (go_at_call 73; (with_reducible refine (pick_any lo g (K + 14) 4 _ HRd.out (by omega) (by omega)).mono ?_); rintro e w2 ⟨a, rfl, ha1, -, hOn1, hR1⟩)
        have ha : Hid ((a : Int) < 4) := ha1 (by omega)
        (try (refine hK9 _ _ ?_))
        (try clear hK9)
        rw [← hR]
        exact n_268 bA k a _ (hmono hOn hOn1).1 hR1 (hA.only hOn1 hgl) hk ha
      exact AllReady.nil
    have n_0 : ∀ (bB : Nat) (W : World), Only [g] W1 W → Hid (Rd lo W g (K + 16)) → Hid (RowZ W1.heap.size W bB) → R 7 #[true, true, false, false, false, true, false, false, false, false] ⟨#[.pointer (some ⟨g, 0, none⟩), .int .i64 n, undef, undef, .pointer (some ⟨w.heap.size, 0, none⟩), undef, .slice (some ⟨bB, 0, none⟩) 10 10, .pointer (some ⟨g, 0, none⟩), undef, undef, undef, .pointer (some ⟨g, 0, none⟩), undef, undef, undef, undef, undef, undef, undef, undef, undef, undef, undef, undef, undef, undef, undef, undef, undef, undef, undef, undef, undef, undef, undef, undef, undef, undef, undef, undef, undef, undef, undef, undef, undef, undef, undef, undef, undef, undef, undef, undef, undef, undef, undef, undef, undef, undef, undef, undef, undef, undef, undef, undef, undef, undef, undef, undef, undef, undef, undef, undef, undef, undef, undef, undef, undef, undef, undef, undef, undef, undef, undef, undef, undef, undef, undef, undef, undef, undef], []⟩ W := by
      intro bB W hOn HRd hB
      rw [hR]
      refine wpAny_ready (rs := [2, 8]) (by kernel_rfl) (by simp) ?_
      refine AllReady.cons rfl (fun K9 hK9 => ?_) ?_
      · go_wp2_with (go_at_call 73; (with_reducible refine (pick_any lo g (K + 15) 10 _ HRd.out (by omega) (by omega)).mono ?_); rintro e w2 ⟨k, rfl, hk1, -, hOn1, hR1⟩)
        have hk : (k : Int) < 10 := hk1 (by omega)
        (try (refine hK9 _ _ ?_))
        (try clear hK9)
        (refine wpAny_take (i := 3) (v := ?v9_9) rfl (by kernel_rfl) (by kernel_rfl) (by kernel_rfl) (fun _ _ _ h => h) (Or.inl ⟨by rfl, ?h9_9⟩) ?r9_9; (case h9_9 => (intro w9; go_simp; try with_reducible rfl)))
        rw [← hR]
        exact n_02 bB k _ (hmono hOn hOn1).1 hR1 (hB.out.only hOn1 hgl) hk
      refine AllReady.cons rfl (fun K9 hK9 => ?_) ?_
      · go_simp
        refine hK9 _ _ ?_
        (try clear hK9)
        rw [← hR]
        exact n_08 W.heap.size bB _ (hmono hOn (Only.al _ _)).1 (HRd.out.below ((Below.refl _ _).alloc (Nat.le_refl _) _)) (BoxZ.new hOn.size _) (hB.out.only (Only.al (S := [g]) _ _) hgl)
      exact AllReady.nil
    have n_2 : ∀ (k : Nat) (W : World), Only [g] W1 W → Hid (Rd lo W g (K + 15)) → (k : Int) < 10 → R 7 #[false, true, true, false, false, true, false, false, false, false] ⟨#[.pointer (some ⟨g, 0, none⟩), .int .i64 n, undef, undef, .pointer (some ⟨w.heap.size, 0, none⟩), undef, undef, .pointer (some ⟨g, 0, none⟩), .int .i64 (k : Int), undef, undef, .pointer (some ⟨g, 0, none⟩), undef, undef, undef, undef, undef, undef, undef, undef, undef, undef, undef, undef, undef, undef, undef, undef, undef, undef, undef, undef, undef, undef, undef, undef, undef, undef, undef, undef, undef, undef, undef, undef, undef, undef, undef, undef, undef, undef, undef, undef, undef, undef, undef, undef, undef, undef, undef, undef, undef, undef, undef, undef, undef, undef, undef, undef, undef, undef, undef, undef, undef, undef, undef, undef, undef, undef, undef, undef, undef, undef, undef, undef, undef, undef, undef, undef, undef, undef], []⟩ W := by
      intro k W hOn HRd hk
      rw [hR]
      refine wpAny_ready (rs := [0, 6, 8]) (by kernel_rfl) (by simp) ?_
      refine AllReady.cons rfl (fun K9 hK9 => ?_) ?_
      · go_simp
        refine hK9 _ _ ?_
        (try clear hK9)
        (refine wpAny_take (i := 3) (v := ?v9_10) rfl (by kernel_rfl) (by kernel_rfl) (by kernel_rfl) (fun _ _ _ h => h) (Or.inl ⟨by rfl, ?h9_10⟩) ?r9_10; (case h9_10 => (intro w9; go_simp; try with_reducible rfl)))
        rw [← hR]
        exact n_02 W.heap.size k _ (hmono hOn (Only.al _ _)).1 (HRd.out.below ((Below.refl _ _).alloc (Nat.le_refl _) _)) (RowZ.new hOn.size) hk
      refine AllReady.cons rfl (fun K9 hK9 => ?_) ?_
      · go_wp2_with (go_at_call 73; (with_reducible refine (pick_any lo g (K + 14) 4 _ HRd.out (by omega) (by omega)).mono ?_); rintro e w2 ⟨a, rfl, ha1, -, hOn1, hR1⟩)
        have ha : Hid ((a : Int) < 4) := ha1 (by omega)
        (try (refine hK9 _ _ ?_))
        (try clear hK9)
        rw [← hR]
        exact n_26 k a _ (hmono hOn hOn1).1 hR1 hk ha
      refine AllReady.cons rfl (fun K9 hK9 => ?_) ?_
      · go_simp
        refine hK9 _ _ ?_
        (try clear hK9)
        rw [← hR]
        exact n_28 W.heap.size k _ (hmono hOn (Only.al _ _)).1 (HRd.out.below ((Below.refl _ _).alloc (Nat.le_refl _) _)) (BoxZ.new hOn.size _) hk
      exact AllReady.nil
    have n_8 : ∀ (bA : Nat) (W : World), Only [g] W1 W → Hid (Rd lo W g (K + 16)) → BoxZ W1.heap.size W bA → R 7 #[false, true, false, false, false, true, false, false, true, false] ⟨#[.pointer (some ⟨g, 0, none⟩), .int .i64 n, undef, undef, .pointer (some ⟨w.heap.size, 0, none⟩), .pointer (some ⟨bA, 0, none⟩), undef, .pointer (some ⟨g, 0, none⟩), undef, undef, undef, .pointer (some ⟨g, 0, none⟩), undef, undef, undef, undef, undef, undef, undef, undef, undef, undef, undef, undef, undef, undef, undef, undef, undef, undef, undef, undef, undef, undef, undef, undef, undef, undef, undef, undef, undef, undef, undef, undef, undef, undef, undef, undef, undef, undef, undef, undef, undef, undef, undef, undef, undef, undef, undef, undef, undef, undef, undef, undef, undef, undef, undef, undef, undef, undef, undef, undef, undef, undef, undef, undef, undef, undef, undef, undef, undef, undef, undef, undef, undef, undef, undef, undef, undef, undef], []⟩ W := by
      intro bA W hOn HRd hA
      rw [hR]
      refine wpAny_ready (rs := [0, 2]) (by kernel_rfl) (by simp) ?_
      refine AllReady.cons rfl (fun K9 hK9 => ?_) ?_
      · go_simp
        refine hK9 _ _ ?_
        (try clear hK9)
        rw [← hR]
        exact n_08 bA W.heap.size _ (hmono hOn (Only.al _ _)).1 (HRd.out.below ((Below.refl _ _).alloc (Nat.le_refl _) _)) (hA.only (Only.al (S := [g]) _ _) hgl) (RowZ.new hOn.size)
      refine AllReady.cons rfl (fun K9 hK9 => ?_) ?_
      · go_wp2_with (go_at_call 73; (with_reducible refine (pick_any lo g (K + 15) 10 _ HRd.out (by omega) (by omega)).mono ?_); rintro e w2 ⟨k, rfl, hk1, -, hOn1, hR1⟩)
        have hk : (k : Int) < 10 := hk1 (by omega)
        (try (refine hK9 _ _ ?_))
        (try clear hK9)
        rw [← hR]
        exact n_28 bA k _ (hmono hOn hOn1).1 hR1 (hA.only hOn1 hgl) hk
      exact AllReady.nil
    have n_ : ∀ (W : World), Only [g] W1 W → Hid (Rd lo W g (K + 16)) → R 8 #[false, true, false, false, false, true, false, false, false, false] ⟨#[.pointer (some ⟨g, 0, none⟩), .int .i64 n, undef, undef, .pointer (some ⟨w.heap.size, 0, none⟩), undef, undef, .pointer (some ⟨g, 0, none⟩), undef, undef, undef, .pointer (some ⟨g, 0, none⟩), undef, undef, undef, undef, undef, undef, undef, undef, undef, undef, undef, undef, undef, undef, undef, undef, undef, undef, undef, undef, undef, undef, undef, undef, undef, undef, undef, undef, undef, undef, undef, undef, undef, undef, undef, undef, undef, undef, undef, undef, undef, undef, undef, undef, undef, undef, undef, undef, undef, undef, undef, undef, undef, undef, undef, undef, undef, undef, undef, undef, undef, undef, undef, undef, undef, undef, undef, undef, undef, undef, undef, undef, undef, undef, undef, undef, undef, undef], []⟩ W := by
      intro W hOn HRd
      rw [hR]
      refine wpAny_ready (rs := [0, 2, 8]) (by kernel_rfl) (by simp) ?_
      refine AllReady.cons rfl (fun K9 hK9 => ?_) ?_
      · go_simp
        refine hK9 _ _ ?_
        (try clear hK9)
        rw [← hR]
        exact n_0 W.heap.size _ (hmono hOn (Only.al _ _)).1 (HRd.out.below ((Below.refl _ _).alloc (Nat.le_refl _) _)) (RowZ.new hOn.size)
      refine AllReady.cons rfl (fun K9 hK9 => ?_) ?_
      · go_wp2_with (go_at_call 73; (with_reducible refine (pick_any lo g (K + 15) 10 _ HRd.out (by omega) (by omega)).mono ?_); rintro e w2 ⟨k, rfl, hk1, -, hOn1, hR1⟩)
        have hk : (k : Int) < 10 := hk1 (by omega)
        (try (refine hK9 _ _ ?_))
        (try clear hK9)
        rw [← hR]
        exact n_2 k _ (hmono hOn hOn1).1 hR1 hk
      refine AllReady.cons rfl (fun K9 hK9 => ?_) ?_
      · go_simp
        refine hK9 _ _ ?_
        (try clear hK9)
        rw [← hR]
        exact n_8 W.heap.size _ (hmono hOn (Only.al _ _)).1 (HRd.out.below ((Below.refl _ _).alloc (Nat.le_refl _) _)) (BoxZ.new hOn.size _)
      exact AllReady.nil
    rw [hR]
    (refine wpAny_take (i := 1) (v := ?v9_11) rfl (by kernel_rfl) (by kernel_rfl) (by kernel_rfl) (fun _ _ _ h => h) (Or.inl ⟨by rfl, ?h9_11⟩) ?r9_11; (case h9_11 => (intro w9; go_simp; try with_reducible rfl)))
    (refine wpAny_take (i := 5) (v := ?v9_12) rfl (by kernel_rfl) (by kernel_rfl) (by kernel_rfl) (fun _ _ _ h => h) (Or.inl ⟨by rfl, ?h9_12⟩) ?r9_12; (case h9_12 => (intro w9; go_simp; try with_reducible rfl)))
    rw [← hR]
    exact n_ _ (Only.of_below ((Below.refl _ _).drew)) (H1.out.keep ((Below.refl _ _).drew))
  case rest =>
    obtain ⟨b, op, a, rfl, HOA, HV, HR, HOn⟩ := hcut
    obtain ⟨W2, hW2⟩ : ∃ x, x = wc := ⟨_, rfl⟩
    subst hW2
    have c0 := HV.out.c0
    go_upto_block 0 with fail
    go_cut [5] (fun s5 W => ∃ (o : CmdM), s5 = .pointer (some ⟨b, 0, none⟩) ∧ Hid (cmdOk o = true) ∧ Hid (BoxV W1.heap.size W b (.int .i64 o.op) (.int .i64 o.a) (.int .i64 o.b) (.int .i64 o.c)) ∧ Hid (Rd lo W g (K + 8)) ∧ Hid (Only [g] W1 W))
    case first =>
      have ho6 : op = 1 ∨ op = 2 ∨ op = 3 ∨ op = 4 ∨ op = 5 ∨ op = 6 := by have := HOA.out; omega
      have ha3 := HOA.out.2.2
      have hbW := HV.out.ge
      have hgb : g + 1 ≤ b := by omega
      have hzb := HV.out.lt
      clear c0 HOA
      rcases ho6 with rfl | rfl | rfl | rfl | rfl | rfl
      · go_wp2_with fail
        (with_reducible refine (pick_any lo g (K + 13) 4 _ HR.out (by omega) (by omega)).mono ?_); rintro e w3 ⟨x1, rfl, hx1, -, hO3, hR3⟩
        have hx1I := hx1 (by omega)
        have HR3 := Lib.hid hR3
        have HV3 := Lib.hid (HV.out.only hO3 hgl)
        have HOn3 : Hid (Only [g] W1 w3) := HOn.out.trans hO3
        have hzb3 := HV3.out.lt
        clear hO3 hR3
        go_wp2_with fail
        (with_reducible refine (pick_any lo g (K + 12) 3 _ HR3.out (by omega) (by omega)).mono ?_); rintro e w4 ⟨x2, rfl, hx2, -, hO4, hR4⟩
        have hx2I := hx2 (by omega)
        have HR4 := Lib.hid hR4
        have HV4 := Lib.hid (HV3.out.only hO4 hgl)
        have HOn4 : Hid (Only [g] W1 w4) := HOn3.out.trans hO4
        have hzb4 := HV4.out.lt
        clear hO4 hR4
        go_wp2_with fail
        (with_reducible refine (pick_any lo g (K + 11) 2 _ (HR4.out.keep (by repeat (first | ((with_reducible refine Below.setc ?_ ?_ _); focus (first | omega | (simp; done) | (simp; omega))) | ((with_reducible refine Below.allocc ?_ ?_ _); focus (first | omega | (simp; done) | (simp; omega))) | (with_reducible refine Below.drew ?_) | (with_reducible refine Below.drewn ?_) | (with_reducible assumption) | (with_reducible exact Below.refl _ _) | ((with_reducible refine Below.stepp (by with_reducible assumption) ?_ ?_); focus (first | omega | (simp; done) | (simp; omega)))))) (by omega) (by omega)).mono ?_); rintro e w5 ⟨x3, rfl, hx3, -, hO5, hR5⟩
        have hx3I := hx3 (by omega)
        have HR5 := Lib.hid hR5
        have HV5 := Lib.hid ((HV4.out.below (by repeat (first | ((with_reducible refine Below.setc ?_ ?_ _); focus (first | omega | (simp; done) | (simp; omega))) | ((with_reducible refine Below.allocc ?_ ?_ _); focus (first | omega | (simp; done) | (simp; omega))) | (with_reducible refine Below.drew ?_) | (with_reducible refine Below.drewn ?_) | (with_reducible assumption) | (with_reducible exact Below.refl _ _) | ((with_reducible refine Below.stepp (by with_reducible assumption) ?_ ?_); focus (first | omega | (simp; done) | (simp; omega)))))).only hO5 hgl)
        have HOn5 : Hid (Only [g] W1 w5) := (Only.alloc HOn4.out _).trans hO5
        have hzb5 := HV5.out.lt
        have hn9 : w4.heap.size ∉ [g] := by simp; omega
        have l0 : w5.cell? ⟨w4.heap.size, 0, none⟩ = some (.int .i64 (x1 : Int)) := hO5.cell (by simp [go_sem]) hn9
        have l1 : w5.cell? ⟨w4.heap.size, 1, none⟩ = some (.int .i64 (1 + (x2 : Int))) := hO5.cell (by simp [go_sem]) hn9
        clear hO5 hR5
        have c2 := HV5.out.c2
        have f2 := HV5.out.fz 2
        have hx3 : x3 = 0 ∨ x3 = 1 := by omega
        rcases hx3 with rfl | rfl
        · go_wp2_with fail
          (with_reducible refine (pick_any lo g (K + 10) 100 _ (HR5.out.keep (by repeat (first | ((with_reducible refine Below.setc ?_ ?_ _); focus (first | omega | (simp; done) | (simp; omega))) | ((with_reducible refine Below.allocc ?_ ?_ _); focus (first | omega | (simp; done) | (simp; omega))) | (with_reducible refine Below.drew ?_) | (with_reducible refine Below.drewn ?_) | (with_reducible assumption) | (with_reducible exact Below.refl _ _) | ((with_reducible refine Below.stepp (by with_reducible assumption) ?_ ?_); focus (first | omega | (simp; done) | (simp; omega)))))) (by omega) (by omega)).mono ?_); rintro e w6 ⟨x4, rfl, hx4, -, hO6, hR6⟩
          have hx4I := hx4 (by omega)
          have HR6 := Lib.hid hR6
          have HV6 := Lib.hid ((HV5.out.s2 (.int .i64 (x1 : Int))).only hO6 hgl)
          have HOn6 : Hid (Only [g] W1 w6) := (Only.setCell HOn5.out (.inr hbW) _).trans hO6
          have hzb6 := HV6.out.lt
          clear hO6 hR6
          clear c2 f2 l0 l1
          have c3 := HV6.out.c3
          have f3 := HV6.out.fz 3
          go_wp2_with fail
          go_meet
          exact ⟨⟨1, a, (x1 : Int), (x4 : Int)⟩, rfl, (by unfold Hid cmdOk; simp [inB, maxB, maxC]; omega), HV6.out.s3 _, (HR6.out.le (by omega)).keep (by repeat (first | ((with_reducible refine Below.setc ?_ ?_ _); focus (first | omega | (simp; done) | (simp; omega))) | ((with_reducible refine Below.allocc ?_ ?_ _); focus (first | omega | (simp; done) | (simp; omega))) | (with_reducible refine Below.drew ?_) | (with_reducible refine Below.drewn ?_) | (with_reducible assumption) | (with_reducible exact Below.refl _ _) | ((with_reducible refine Below.stepp (by with_reducible assumption) ?_ ?_); focus (first | omega | (simp; done) | (simp; omega))))), (Only.setCell HOn6.out (.inr hbW) _)⟩
        · go_wp2_with fail
          (with_reducible refine (pick_any lo g (K + 10) 100 _ (HR5.out.keep (by repeat (first | ((with_reducible refine Below.setc ?_ ?_ _); focus (first | omega | (simp; done) | (simp; omega))) | ((with_reducible refine Below.allocc ?_ ?_ _); focus (first | omega | (simp; done) | (simp; omega))) | (with_reducible refine Below.drew ?_) | (with_reducible refine Below.drewn ?_) | (with_reducible assumption) | (with_reducible exact Below.refl _ _) | ((with_reducible refine Below.stepp (by with_reducible assumption) ?_ ?_); focus (first | omega | (simp; done) | (simp; omega)))))) (by omega) (by omega)).mono ?_); rintro e w6 ⟨x4, rfl, hx4, -, hO6, hR6⟩
          have hx4I := hx4 (by omega)
          have HR6 := Lib.hid hR6
          have HV6 := Lib.hid ((HV5.out.s2 (.int .i64 (1 + (x2 : Int)))).only hO6 hgl)
          have HOn6 : Hid (Only [g] W1 w6) := (Only.setCell HOn5.out (.inr hbW) _).trans hO6
          have hzb6 := HV6.out.lt
          clear hO6 hR6
          clear c2 f2 l0 l1
          have c3 := HV6.out.c3
          have f3 := HV6.out.fz 3
          go_wp2_with fail
          go_meet
          exact ⟨⟨1, a, (1 + (x2 : Int)), (x4 : Int)⟩, rfl, (by unfold Hid cmdOk; simp [inB, maxB, maxC]; omega), HV6.out.s3 _, (HR6.out.le (by omega)).keep (by repeat (first | ((with_reducible refine Below.setc ?_ ?_ _); focus (first | omega | (simp; done) | (simp; omega))) | ((with_reducible refine Below.allocc ?_ ?_ _); focus (first | omega | (simp; done) | (simp; omega))) | (with_reducible refine Below.drew ?_) | (with_reducible refine Below.drewn ?_) | (with_reducible assumption) | (with_reducible exact Below.refl _ _) | ((with_reducible refine Below.stepp (by with_reducible assumption) ?_ ?_); focus (first | omega | (simp; done) | (simp; omega))))), (Only.setCell HOn6.out (.inr hbW) _)⟩
      · go_wp2_with fail
        (with_reducible refine (pick_any lo g (K + 13) 4 _ HR.out (by omega) (by omega)).mono ?_); rintro e w3 ⟨x1, rfl, hx1, -, hO3, hR3⟩
        have hx1I := hx1 (by omega)
        have HR3 := Lib.hid hR3
        have HV3 := Lib.hid (HV.out.only hO3 hgl)
        have HOn3 : Hid (Only [g] W1 w3) := HOn.out.trans hO3
        have hzb3 := HV3.out.lt
        clear hO3 hR3
        have c2 := HV3.out.c2
        have f2 := HV3.out.fz 2
        go_wp2_with fail
        (with_reducible refine (pick_any lo g (K + 12) 3 _ (HR3.out.keep (by repeat (first | ((with_reducible refine Below.setc ?_ ?_ _); focus (first | omega | (simp; done) | (simp; omega))) | ((with_reducible refine Below.allocc ?_ ?_ _); focus (first | omega | (simp; done) | (simp; omega))) | (with_reducible refine Below.drew ?_) | (with_reducible refine Below.drewn ?_) | (with_reducible assumption) | (with_reducible exact Below.refl _ _) | ((with_reducible refine Below.stepp (by with_reducible assumption) ?_ ?_); focus (first | omega | (simp; done) | (simp; omega)))))) (by omega) (by omega)).mono ?_); rintro e w4 ⟨x2, rfl, hx2, -, hO4, hR4⟩
        have hx2I := hx2 (by omega)
        have HR4 := Lib.hid hR4
        have HV4 := Lib.hid ((HV3.out.s2 (.int .i64 (x1 : Int))).only hO4 hgl)
        have HOn4 : Hid (Only [g] W1 w4) := (Only.setCell HOn3.out (.inr hbW) _).trans hO4
        have hzb4 := HV4.out.lt
        clear hO4 hR4
        clear c2 f2
        go_wp2_with fail
        (with_reducible refine (pick_any lo g (K + 11) (1 + (x2 : Int)) _ HR4.out (by omega) (by omega)).mono ?_); rintro e w5 ⟨x3, rfl, hx3, -, hO5, hR5⟩
        have hx3I := hx3 (by omega)
        have HR5 := Lib.hid hR5
        have HV5 := Lib.hid (HV4.out.only hO5 hgl)
        have HOn5 : Hid (Only [g] W1 w5) := HOn4.out.trans hO5
        have hzb5 := HV5.out.lt
        clear hO5 hR5
        have c3 := HV5.out.c3
        have f3 := HV5.out.fz 3
        go_wp2_with fail
        go_meet
        exact ⟨⟨2, a, (x1 : Int), (x3 : Int)⟩, rfl, (by unfold Hid cmdOk; simp [inB, maxB, maxC]; omega), HV5.out.s3 _, (HR5.out.le (by omega)).keep (by repeat (first | ((with_reducible refine Below.setc ?_ ?_ _); focus (first | omega | (simp; done) | (simp; omega))) | ((with_reducible refine Below.allocc ?_ ?_ _); focus (first | omega | (simp; done) | (simp; omega))) | (with_reducible refine Below.drew ?_) | (with_reducible refine Below.drewn ?_) | (with_reducible assumption) | (with_reducible exact Below.refl _ _) | ((with_reducible refine Below.stepp (by with_reducible assumption) ?_ ?_); focus (first | omega | (simp; done) | (simp; omega))))), (Only.setCell HOn5.out (.inr hbW) _)⟩
      · go_wp2_with fail
        (with_reducible refine (pick_any lo g (K + 13) 4 _ HR.out (by omega) (by omega)).mono ?_); rintro e w3 ⟨x1, rfl, hx1, -, hO3, hR3⟩
        have hx1I := hx1 (by omega)
        have HR3 := Lib.hid hR3
        have HV3 := Lib.hid (HV.out.only hO3 hgl)
        have HOn3 : Hid (Only [g] W1 w3) := HOn.out.trans hO3
        have hzb3 := HV3.out.lt
        clear hO3 hR3
        have c2 := HV3.out.c2
        have f2 := HV3.out.fz 2
        go_wp2_with fail
        (with_reducible refine (pick_any lo g (K + 12) 3 _ (HR3.out.keep (by repeat (first | ((with_reducible refine Below.setc ?_ ?_ _); focus (first | omega | (simp; done) | (simp; omega))) | ((with_reducible refine Below.allocc ?_ ?_ _); focus (first | omega | (simp; done) | (simp; omega))) | (with_reducible refine Below.drew ?_) | (with_reducible refine Below.drewn ?_) | (with_reducible assumption) | (with_reducible exact Below.refl _ _) | ((with_reducible refine Below.stepp (by with_reducible assumption) ?_ ?_); focus (first | omega | (simp; done) | (simp; omega)))))) (by omega) (by omega)).mono ?_); rintro e w4 ⟨x2, rfl, hx2, -, hO4, hR4⟩
        have hx2I := hx2 (by omega)
        have HR4 := Lib.hid hR4
        have HV4 := Lib.hid ((HV3.out.s2 (.int .i64 (x1 : Int))).only hO4 hgl)
        have HOn4 : Hid (Only [g] W1 w4) := (Only.setCell HOn3.out (.inr hbW) _).trans hO4
        have hzb4 := HV4.out.lt
        clear hO4 hR4
        clear c2 f2
        go_wp2_with fail
        (with_reducible refine (pick_any lo g (K + 11) (1 + (x2 : Int)) _ HR4.out (by omega) (by omega)).mono ?_); rintro e w5 ⟨x3, rfl, hx3, -, hO5, hR5⟩
        have hx3I := hx3 (by omega)
        have HR5 := Lib.hid hR5
        have HV5 := Lib.hid (HV4.out.only hO5 hgl)
        have HOn5 : Hid (Only [g] W1 w5) := HOn4.out.trans hO5
        have hzb5 := HV5.out.lt
        clear hO5 hR5
        have c3 := HV5.out.c3
        have f3 := HV5.out.fz 3
        go_wp2_with fail
        go_meet
        exact ⟨⟨3, a, (x1 : Int), (x3 : Int)⟩, rfl, (by unfold Hid cmdOk; simp [inB, maxB, maxC]; omega), HV5.out.s3 _, (HR5.out.le (by omega)).keep (by repeat (first | ((with_reducible refine Below.setc ?_ ?_ _); focus (first | omega | (simp; done) | (simp; omega))) | ((with_reducible refine Below.allocc ?_ ?_ _); focus (first | omega | (simp; done) | (simp; omega))) | (with_reducible refine Below.drew ?_) | (with_reducible refine Below.drewn ?_) | (with_reducible assumption) | (with_reducible exact Below.refl _ _) | ((with_reducible refine Below.stepp (by with_reducible assumption) ?_ ?_); focus (first | omega | (simp; done) | (simp; omega))))), (Only.setCell HOn5.out (.inr hbW) _)⟩
      · go_wp2_with fail
        (with_reducible refine (pick_any lo g (K + 13) 4 _ HR.out (by omega) (by omega)).mono ?_); rintro e w3 ⟨x1, rfl, hx1, -, hO3, hR3⟩
        have hx1I := hx1 (by omega)
        have HR3 := Lib.hid hR3
        have HV3 := Lib.hid (HV.out.only hO3 hgl)
        have HOn3 : Hid (Only [g] W1 w3) := HOn.out.trans hO3
        have hzb3 := HV3.out.lt
        clear hO3 hR3
        have c2 := HV3.out.c2
        have f2 := HV3.out.fz 2
        go_wp2_with fail
        go_meet
        exact ⟨⟨4, a, (x1 : Int), 0⟩, rfl, (by unfold Hid cmdOk; simp [inB, maxB, maxC]; omega), HV3.out.s2 _, (HR3.out.le (by omega)).keep (by repeat (first | ((with_reducible refine Below.setc ?_ ?_ _); focus (first | omega | (simp; done) | (simp; omega))) | ((with_reducible refine Below.allocc ?_ ?_ _); focus (first | omega | (simp; done) | (simp; omega))) | (with_reducible refine Below.drew ?_) | (with_reducible refine Below.drewn ?_) | (with_reducible assumption) | (with_reducible exact Below.refl _ _) | ((with_reducible refine Below.stepp (by with_reducible assumption) ?_ ?_); focus (first | omega | (simp; done) | (simp; omega))))), (Only.setCell HOn3.out (.inr hbW) _)⟩
      · go_wp2_with fail
        go_meet
        exact ⟨⟨5, a, 0, 0⟩, rfl, (by unfold Hid cmdOk; simp [inB, maxB, maxC]; omega), HV.out, HR.out.le (by omega), HOn.out⟩
      · go_wp2_with fail
        (with_reducible refine (pick_any lo g (K + 13) 100 _ HR.out (by omega) (by omega)).mono ?_); rintro e w3 ⟨x1, rfl, hx1, -, hO3, hR3⟩
        have hx1I := hx1 (by omega)
        have HR3 := Lib.hid hR3
        have HV3 := Lib.hid (HV.out.only hO3 hgl)
        have HOn3 : Hid (Only [g] W1 w3) := HOn.out.trans hO3
        have hzb3 := HV3.out.lt
        clear hO3 hR3
        have c2 := HV3.out.c2
        have f2 := HV3.out.fz 2
        go_wp2_with fail
        go_meet
        exact ⟨⟨6, a, (x1 : Int), 0⟩, rfl, (by unfold Hid cmdOk; simp [inB, maxB, maxC]; omega), HV3.out.s2 _, (HR3.out.le (by omega)).keep (by repeat (first | ((with_reducible refine Below.setc ?_ ?_ _); focus (first | omega | (simp; done) | (simp; omega))) | ((with_reducible refine Below.allocc ?_ ?_ _); focus (first | omega | (simp; done) | (simp; omega))) | (with_reducible refine Below.drew ?_) | (with_reducible refine Below.drewn ?_) | (with_reducible assumption) | (with_reducible exact Below.refl _ _) | ((with_reducible refine Below.stepp (by with_reducible assumption) ?_ ?_); focus (first | omega | (simp; done) | (simp; omega))))), (Only.setCell HOn3.out (.inr hbW) _)⟩
    case rest =>
      clear HV HR HOn c0 HOA
      obtain ⟨o, rfl, HCK, HV, HR, HOn⟩ := hcut
      obtain ⟨W3, hW3⟩ : ∃ x, x = wc := ⟨_, rfl⟩
      subst hW3
      have hbW := HV.out.ge
      have hgb : g + 1 ≤ b := by omega
      have hzb := HV.out.lt
      have hwb : w.heap.size < b := by have := HZ1.out; omega
      go_wp2_with fail
      (with_reducible refine (odd_any lo g (K + 7) n _ HR.out hn1 hn2).mono ?_); rintro e w3 ⟨d, rfl, hd, hO3, hR3⟩
      have HD := Lib.hid hd
      have HR3 := Lib.hid hR3
      have HV3 := Lib.hid (HV.out.only hO3 hgl)
      have HOn3 : Hid (Only [g] W1 w3) := HOn.out.trans hO3
      have hzb3 := HV3.out.lt
      clear hd hR3 hO3 HV HR HOn hzb
      rcases bool_ft d with rfl | rfl
      · have hk0 := HCK.out
        have hlw := hlt.1
        have hne : b ≠ w.heap.size := by omega
        have hne2 : w.heap.size ≠ b := by omega
        have c0 := HV3.out.c0
        have c1 := HV3.out.c1
        have c2 := HV3.out.c2
        have c3 := HV3.out.c3
        obtain ⟨r0, r1, r2, r3, rf⟩ := HG0.out _ HOn3.out
        have rf0 := rf 0
        have rf1 := rf 1
        have rf2 := rf 2
        have rf3 := rf 3
        clear rf
        go_wp2_with fail
        refine bodyPost_ret (v := cmdV o) (by simp [results, Try.results75, go_sem, r0, r1, r2, r3, cmdV, hne, hne2]) rfl ⟨o, rfl, (fun _ => hk0), (Only.setCell (Only.setCell (Only.setCell (Only.setCell (HO1.out.trans HOn3.out) (.inr (Nat.le_refl _)) _) (.inr (Nat.le_refl _)) _) (.inr (Nat.le_refl _)) _) (.inr (Nat.le_refl _)) _), (HR3.out.le (by omega)).keep (by repeat (first | ((with_reducible refine Below.setc ?_ ?_ _); focus (first | omega | (simp; done) | (simp; omega))) | ((with_reducible refine Below.allocc ?_ ?_ _); focus (first | omega | (simp; done) | (simp; omega))) | (with_reducible refine Below.drew ?_) | (with_reducible refine Below.drewn ?_) | (with_reducible assumption) | (with_reducible exact Below.refl _ _) | ((with_reducible refine Below.stepp (by with_reducible assumption) ?_ ?_); focus (first | omega | (simp; done) | (simp; omega)))))⟩
      · have hn0 : n ≠ 0 := fun h9 => by have := HD.out h9; cases this
        have hlw := hlt.1
        clear HD
        go_wp2_with fail
        (with_reducible refine (pick_any lo g (K + 6) 4 _ HR3.out (by omega) (by omega)).mono ?_); rintro e w4 ⟨x1, rfl, hx1, -, hO4, hR4⟩
        have hx1I := hx1 (by omega)
        have HR4 := Lib.hid hR4
        have HV4 := Lib.hid (HV3.out.only hO4 hgl)
        have HOn4 : Hid (Only [g] W1 w4) := HOn3.out.trans hO4
        have hzb4 := HV4.out.lt
        clear hO4 hR4
        have hx1 : x1 = 0 ∨ x1 = 1 ∨ x1 = 2 ∨ x1 = 3 := by omega
        rcases hx1 with rfl | rfl | rfl | rfl
        · go_wp2_with fail
          (with_reducible refine (pick_any lo g (K + 5) 2 _ (HR4.out.keep (by repeat (first | ((with_reducible refine Below.setc ?_ ?_ _); focus (first | omega | (simp; done) | (simp; omega))) | ((with_reducible refine Below.allocc ?_ ?_ _); focus (first | omega | (simp; done) | (simp; omega))) | (with_reducible refine Below.drew ?_) | (with_reducible refine Below.drewn ?_) | (with_reducible assumption) | (with_reducible exact Below.refl _ _) | ((with_reducible refine Below.stepp (by with_reducible assumption) ?_ ?_); focus (first | omega | (simp; done) | (simp; omega)))))) (by omega) (by omega)).mono ?_); rintro e w5 ⟨x2, rfl, hx2, -, hO5, hR5⟩
          have hx2I := hx2 (by omega)
          have HR5 := Lib.hid hR5
          have HV5 := Lib.hid ((HV4.out.below (by repeat (first | ((with_reducible refine Below.setc ?_ ?_ _); focus (first | omega | (simp; done) | (simp; omega))) | ((with_reducible refine Below.allocc ?_ ?_ _); focus (first | omega | (simp; done) | (simp; omega))) | (with_reducible refine Below.drew ?_) | (with_reducible refine Below.drewn ?_) | (with_reducible assumption) | (with_reducible exact Below.refl _ _) | ((with_reducible refine Below.stepp (by with_reducible assumption) ?_ ?_); focus (first | omega | (simp; done) | (simp; omega)))))).only hO5 hgl)
          have HOn5 : Hid (Only [g] W1 w5) := (Only.alloc HOn4.out _).trans hO5
          have hzb5 := HV5.out.lt
          have hn9 : w4.heap.size ∉ [g] := by simp; omega
          have l0 : w5.cell? ⟨w4.heap.size, 0, none⟩ = some (.int .i64 0) := hO5.cell (by simp [go_sem]) hn9
          have l1 : w5.cell? ⟨w4.heap.size, 1, none⟩ = some (.int .i64 7) := hO5.cell (by simp [go_sem]) hn9
          clear hO5 hR5
          have hne : b ≠ w.heap.size := by omega
          have hne2 : w.heap.size ≠ b := by omega
          have c0 := HV5.out.c0
          have c1 := HV5.out.c1
          have c2 := HV5.out.c2
          have c3 := HV5.out.c3
          obtain ⟨r0, r1, r2, r3, rf⟩ := HG0.out _ HOn5.out
          have rf0 := rf 0
          have rf1 := rf 1
          have rf2 := rf 2
          have rf3 := rf 3
          clear rf
          have f0 := HV5.out.fz 0
          have hx2 : x2 = 0 ∨ x2 = 1 := by omega
          rcases hx2 with rfl | rfl
          · have HRX := HR5
            go_wp2_with fail
            refine bodyPost_ret (v := cmdV ⟨0, o.a, o.b, o.c⟩) (by simp [results, Try.results75, go_sem, r0, r1, r2, r3, cmdV, hne, hne2]) rfl ⟨⟨0, o.a, o.b, o.c⟩, rfl, (fun h9 => absurd h9 hn0), (Only.setCell (Only.setCell (Only.setCell (Only.setCell (Only.setCell (HO1.out.trans HOn5.out) (.inr (by simp only; omega)) _) (.inr (Nat.le_refl _)) _) (.inr (Nat.le_refl _)) _) (.inr (Nat.le_refl _)) _) (.inr (Nat.le_refl _)) _), (HR5.out.le (by omega)).keep (by repeat (first | ((with_reducible refine Below.setc ?_ ?_ _); focus (first | omega | (simp; done) | (simp; omega))) | ((with_reducible refine Below.allocc ?_ ?_ _); focus (first | omega | (simp; done) | (simp; omega))) | (with_reducible refine Below.drew ?_) | (with_reducible refine Below.drewn ?_) | (with_reducible assumption) | (with_reducible exact Below.refl _ _) | ((with_reducible refine Below.stepp (by with_reducible assumption) ?_ ?_); focus (first | omega | (simp; done) | (simp; omega)))))⟩
          · have HRX := HR5
            go_wp2_with fail
            refine bodyPost_ret (v := cmdV ⟨7, o.a, o.b, o.c⟩) (by simp [results, Try.results75, go_sem, r0, r1, r2, r3, cmdV, hne, hne2]) rfl ⟨⟨7, o.a, o.b, o.c⟩, rfl, (fun h9 => absurd h9 hn0), (Only.setCell (Only.setCell (Only.setCell (Only.setCell (Only.setCell (HO1.out.trans HOn5.out) (.inr (by simp only; omega)) _) (.inr (Nat.le_refl _)) _) (.inr (Nat.le_refl _)) _) (.inr (Nat.le_refl _)) _) (.inr (Nat.le_refl _)) _), (HR5.out.le (by omega)).keep (by repeat (first | ((with_reducible refine Below.setc ?_ ?_ _); focus (first | omega | (simp; done) | (simp; omega))) | ((with_reducible refine Below.allocc ?_ ?_ _); focus (first | omega | (simp; done) | (simp; omega))) | (with_reducible refine Below.drew ?_) | (with_reducible refine Below.drewn ?_) | (with_reducible assumption) | (with_reducible exact Below.refl _ _) | ((with_reducible refine Below.stepp (by with_reducible assumption) ?_ ?_); focus (first | omega | (simp; done) | (simp; omega)))))⟩
        · go_wp2_with fail
          (with_reducible refine (pick_any lo g (K + 5) 2 _ (HR4.out.keep (by repeat (first | ((with_reducible refine Below.setc ?_ ?_ _); focus (first | omega | (simp; done) | (simp; omega))) | ((with_reducible refine Below.allocc ?_ ?_ _); focus (first | omega | (simp; done) | (simp; omega))) | (with_reducible refine Below.drew ?_) | (with_reducible refine Below.drewn ?_) | (with_reducible assumption) | (with_reducible exact Below.refl _ _) | ((with_reducible refine Below.stepp (by with_reducible assumption) ?_ ?_); focus (first | omega | (simp; done) | (simp; omega)))))) (by omega) (by omega)).mono ?_); rintro e w5 ⟨x2, rfl, hx2, -, hO5, hR5⟩
          have hx2I := hx2 (by omega)
          have HR5 := Lib.hid hR5
          have HV5 := Lib.hid ((HV4.out.below (by repeat (first | ((with_reducible refine Below.setc ?_ ?_ _); focus (first | omega | (simp; done) | (simp; omega))) | ((with_reducible refine Below.allocc ?_ ?_ _); focus (first | omega | (simp; done) | (simp; omega))) | (with_reducible refine Below.drew ?_) | (with_reducible refine Below.drewn ?_) | (with_reducible assumption) | (with_reducible exact Below.refl _ _) | ((with_reducible refine Below.stepp (by with_reducible assumption) ?_ ?_); focus (first | omega | (simp; done) | (simp; omega)))))).only hO5 hgl)
          have HOn5 : Hid (Only [g] W1 w5) := (Only.alloc HOn4.out _).trans hO5
          have hzb5 := HV5.out.lt
          have hn9 : w4.heap.size ∉ [g] := by simp; omega
          have l0 : w5.cell? ⟨w4.heap.size, 0, none⟩ = some (.int .i64 (-1)) := hO5.cell (by simp [go_sem]) hn9
          have l1 : w5.cell? ⟨w4.heap.size, 1, none⟩ = some (.int .i64 4) := hO5.cell (by simp [go_sem]) hn9
          clear hO5 hR5
          have hne : b ≠ w.heap.size := by omega
          have hne2 : w.heap.size ≠ b := by omega
          have c0 := HV5.out.c0
          have c1 := HV5.out.c1
          have c2 := HV5.out.c2
          have c3 := HV5.out.c3
          obtain ⟨r0, r1, r2, r3, rf⟩ := HG0.out _ HOn5.out
          have rf0 := rf 0
          have rf1 := rf 1
          have rf2 := rf 2
          have rf3 := rf 3
          clear rf
          have f1 := HV5.out.fz 1
          have hx2 : x2 = 0 ∨ x2 = 1 := by omega
          rcases hx2 with rfl | rfl
          · have HRX := HR5
            go_wp2_with fail
            refine bodyPost_ret (v := cmdV ⟨o.op, (-1), o.b, o.c⟩) (by simp [results, Try.results75, go_sem, r0, r1, r2, r3, cmdV, hne, hne2]) rfl ⟨⟨o.op, (-1), o.b, o.c⟩, rfl, (fun h9 => absurd h9 hn0), (Only.setCell (Only.setCell (Only.setCell (Only.setCell (Only.setCell (HO1.out.trans HOn5.out) (.inr (by simp only; omega)) _) (.inr (Nat.le_refl _)) _) (.inr (Nat.le_refl _)) _) (.inr (Nat.le_refl _)) _) (.inr (Nat.le_refl _)) _), (HR5.out.le (by omega)).keep (by repeat (first | ((with_reducible refine Below.setc ?_ ?_ _); focus (first | omega | (simp; done) | (simp; omega))) | ((with_reducible refine Below.allocc ?_ ?_ _); focus (first | omega | (simp; done) | (simp; omega))) | (with_reducible refine Below.drew ?_) | (with_reducible refine Below.drewn ?_) | (with_reducible assumption) | (with_reducible exact Below.refl _ _) | ((with_reducible refine Below.stepp (by with_reducible assumption) ?_ ?_); focus (first | omega | (simp; done) | (simp; omega)))))⟩
          · have HRX := HR5
            go_wp2_with fail
            refine bodyPost_ret (v := cmdV ⟨o.op, 4, o.b, o.c⟩) (by simp [results, Try.results75, go_sem, r0, r1, r2, r3, cmdV, hne, hne2]) rfl ⟨⟨o.op, 4, o.b, o.c⟩, rfl, (fun h9 => absurd h9 hn0), (Only.setCell (Only.setCell (Only.setCell (Only.setCell (Only.setCell (HO1.out.trans HOn5.out) (.inr (by simp only; omega)) _) (.inr (Nat.le_refl _)) _) (.inr (Nat.le_refl _)) _) (.inr (Nat.le_refl _)) _) (.inr (Nat.le_refl _)) _), (HR5.out.le (by omega)).keep (by repeat (first | ((with_reducible refine Below.setc ?_ ?_ _); focus (first | omega | (simp; done) | (simp; omega))) | ((with_reducible refine Below.allocc ?_ ?_ _); focus (first | omega | (simp; done) | (simp; omega))) | (with_reducible refine Below.drew ?_) | (with_reducible refine Below.drewn ?_) | (with_reducible assumption) | (with_reducible exact Below.refl _ _) | ((with_reducible refine Below.stepp (by with_reducible assumption) ?_ ?_); focus (first | omega | (simp; done) | (simp; omega)))))⟩
        · go_wp2_with fail
          (with_reducible refine (pick_any lo g (K + 5) 2 _ (HR4.out.keep (by repeat (first | ((with_reducible refine Below.setc ?_ ?_ _); focus (first | omega | (simp; done) | (simp; omega))) | ((with_reducible refine Below.allocc ?_ ?_ _); focus (first | omega | (simp; done) | (simp; omega))) | (with_reducible refine Below.drew ?_) | (with_reducible refine Below.drewn ?_) | (with_reducible assumption) | (with_reducible exact Below.refl _ _) | ((with_reducible refine Below.stepp (by with_reducible assumption) ?_ ?_); focus (first | omega | (simp; done) | (simp; omega)))))) (by omega) (by omega)).mono ?_); rintro e w5 ⟨x2, rfl, hx2, -, hO5, hR5⟩
          have hx2I := hx2 (by omega)
          have HR5 := Lib.hid hR5
          have HV5 := Lib.hid ((HV4.out.below (by repeat (first | ((with_reducible refine Below.setc ?_ ?_ _); focus (first | omega | (simp; done) | (simp; omega))) | ((with_reducible refine Below.allocc ?_ ?_ _); focus (first | omega | (simp; done) | (simp; omega))) | (with_reducible refine Below.drew ?_) | (with_reducible refine Below.drewn ?_) | (with_reducible assumption) | (with_reducible exact Below.refl _ _) | ((with_reducible refine Below.stepp (by with_reducible assumption) ?_ ?_); focus (first | omega | (simp; done) | (simp; omega)))))).only hO5 hgl)
          have HOn5 : Hid (Only [g] W1 w5) := (Only.alloc HOn4.out _).trans hO5
          have hzb5 := HV5.out.lt
          have hn9 : w4.heap.size ∉ [g] := by simp; omega
          have l0 : w5.cell? ⟨w4.heap.size, 0, none⟩ = some (.int .i64 (-1)) := hO5.cell (by simp [go_sem]) hn9
          have l1 : w5.cell? ⟨w4.heap.size, 1, none⟩ = some (.int .i64 100) := hO5.cell (by simp [go_sem]) hn9
          clear hO5 hR5
          have hne : b ≠ w.heap.size := by omega
          have hne2 : w.heap.size ≠ b := by omega
          have c0 := HV5.out.c0
          have c1 := HV5.out.c1
          have c2 := HV5.out.c2
          have c3 := HV5.out.c3
          obtain ⟨r0, r1, r2, r3, rf⟩ := HG0.out _ HOn5.out
          have rf0 := rf 0
          have rf1 := rf 1
          have rf2 := rf 2
          have rf3 := rf 3
          clear rf
          have f2 := HV5.out.fz 2
          have hx2 : x2 = 0 ∨ x2 = 1 := by omega
          rcases hx2 with rfl | rfl
          · have HRX := HR5
            go_wp2_with fail
            refine bodyPost_ret (v := cmdV ⟨o.op, o.a, (-1), o.c⟩) (by simp [results, Try.results75, go_sem, r0, r1, r2, r3, cmdV, hne, hne2]) rfl ⟨⟨o.op, o.a, (-1), o.c⟩, rfl, (fun h9 => absurd h9 hn0), (Only.setCell (Only.setCell (Only.setCell (Only.setCell (Only.setCell (HO1.out.trans HOn5.out) (.inr (by simp only; omega)) _) (.inr (Nat.le_refl _)) _) (.inr (Nat.le_refl _)) _) (.inr (Nat.le_refl _)) _) (.inr (Nat.le_refl _)) _), (HR5.out.le (by omega)).keep (by repeat (first | ((with_reducible refine Below.setc ?_ ?_ _); focus (first | omega | (simp; done) | (simp; omega))) | ((with_reducible refine Below.allocc ?_ ?_ _); focus (first | omega | (simp; done) | (simp; omega))) | (with_reducible refine Below.drew ?_) | (with_reducible refine Below.drewn ?_) | (with_reducible assumption) | (with_reducible exact Below.refl _ _) | ((with_reducible refine Below.stepp (by with_reducible assumption) ?_ ?_); focus (first | omega | (simp; done) | (simp; omega)))))⟩
          · have HRX := HR5
            go_wp2_with fail
            refine bodyPost_ret (v := cmdV ⟨o.op, o.a, 100, o.c⟩) (by simp [results, Try.results75, go_sem, r0, r1, r2, r3, cmdV, hne, hne2]) rfl ⟨⟨o.op, o.a, 100, o.c⟩, rfl, (fun h9 => absurd h9 hn0), (Only.setCell (Only.setCell (Only.setCell (Only.setCell (Only.setCell (HO1.out.trans HOn5.out) (.inr (by simp only; omega)) _) (.inr (Nat.le_refl _)) _) (.inr (Nat.le_refl _)) _) (.inr (Nat.le_refl _)) _) (.inr (Nat.le_refl _)) _), (HR5.out.le (by omega)).keep (by repeat (first | ((with_reducible refine Below.setc ?_ ?_ _); focus (first | omega | (simp; done) | (simp; omega))) | ((with_reducible refine Below.allocc ?_ ?_ _); focus (first | omega | (simp; done) | (simp; omega))) | (with_reducible refine Below.drew ?_) | (with_reducible refine Below.drewn ?_) | (with_reducible assumption) | (with_reducible exact Below.refl _ _) | ((with_reducible refine Below.stepp (by with_reducible assumption) ?_ ?_); focus (first | omega | (simp; done) | (simp; omega)))))⟩
        · go_wp2_with fail
          (with_reducible refine (pick_any lo g (K + 5) 2 _ (HR4.out.keep (by repeat (first | ((with_reducible refine Below.setc ?_ ?_ _); focus (first | omega | (simp; done) | (simp; omega))) | ((with_reducible refine Below.allocc ?_ ?_ _); focus (first | omega | (simp; done) | (simp; omega))) | (with_reducible refine Below.drew ?_) | (with_reducible refine Below.drewn ?_) | (with_reducible assumption) | (with_reducible exact Below.refl _ _) | ((with_reducible refine Below.stepp (by with_reducible assumption) ?_ ?_); focus (first | omega | (simp; done) | (simp; omega)))))) (by omega) (by omega)).mono ?_); rintro e w5 ⟨x2, rfl, hx2, -, hO5, hR5⟩
          have hx2I := hx2 (by omega)
          have HR5 := Lib.hid hR5
          have HV5 := Lib.hid ((HV4.out.below (by repeat (first | ((with_reducible refine Below.setc ?_ ?_ _); focus (first | omega | (simp; done) | (simp; omega))) | ((with_reducible refine Below.allocc ?_ ?_ _); focus (first | omega | (simp; done) | (simp; omega))) | (with_reducible refine Below.drew ?_) | (with_reducible refine Below.drewn ?_) | (with_reducible assumption) | (with_reducible exact Below.refl _ _) | ((with_reducible refine Below.stepp (by with_reducible assumption) ?_ ?_); focus (first | omega | (simp; done) | (simp; omega)))))).only hO5 hgl)
          have HOn5 : Hid (Only [g] W1 w5) := (Only.alloc HOn4.out _).trans hO5
          have hzb5 := HV5.out.lt
          have hn9 : w4.heap.size ∉ [g] := by simp; omega
          have l0 : w5.cell? ⟨w4.heap.size, 0, none⟩ = some (.int .i64 (-1)) := hO5.cell (by simp [go_sem]) hn9
          have l1 : w5.cell? ⟨w4.heap.size, 1, none⟩ = some (.int .i64 100) := hO5.cell (by simp [go_sem]) hn9
          clear hO5 hR5
          have hne : b ≠ w.heap.size := by omega
          have hne2 : w.heap.size ≠ b := by omega
          have c0 := HV5.out.c0
          have c1 := HV5.out.c1
          have c2 := HV5.out.c2
          have c3 := HV5.out.c3
          obtain ⟨r0, r1, r2, r3, rf⟩ := HG0.out _ HOn5.out
          have rf0 := rf 0
          have rf1 := rf 1
          have rf2 := rf 2
          have rf3 := rf 3
          clear rf
          have f3 := HV5.out.fz 3
          have hx2 : x2 = 0 ∨ x2 = 1 := by omega
          rcases hx2 with rfl | rfl
          · have HRX := HR5
            go_wp2_with fail
            refine bodyPost_ret (v := cmdV ⟨o.op, o.a, o.b, (-1)⟩) (by simp [results, Try.results75, go_sem, r0, r1, r2, r3, cmdV, hne, hne2]) rfl ⟨⟨o.op, o.a, o.b, (-1)⟩, rfl, (fun h9 => absurd h9 hn0), (Only.setCell (Only.setCell (Only.setCell (Only.setCell (Only.setCell (HO1.out.trans HOn5.out) (.inr (by simp only; omega)) _) (.inr (Nat.le_refl _)) _) (.inr (Nat.le_refl _)) _) (.inr (Nat.le_refl _)) _) (.inr (Nat.le_refl _)) _), (HR5.out.le (by omega)).keep (by repeat (first | ((with_reducible refine Below.setc ?_ ?_ _); focus (first | omega | (simp; done) | (simp; omega))) | ((with_reducible refine Below.allocc ?_ ?_ _); focus (first | omega | (simp; done) | (simp; omega))) | (with_reducible refine Below.drew ?_) | (with_reducible refine Below.drewn ?_) | (with_reducible assumption) | (with_reducible exact Below.refl _ _) | ((with_reducible refine Below.stepp (by with_reducible assumption) ?_ ?_); focus (first | omega | (simp; done) | (simp; omega)))))⟩
          · have HRX := HR5
            go_wp2_with fail
            refine bodyPost_ret (v := cmdV ⟨o.op, o.a, o.b, 100⟩) (by simp [results, Try.results75, go_sem, r0, r1, r2, r3, cmdV, hne, hne2]) rfl ⟨⟨o.op, o.a, o.b, 100⟩, rfl, (fun h9 => absurd h9 hn0), (Only.setCell (Only.setCell (Only.setCell (Only.setCell (Only.setCell (HO1.out.trans HOn5.out) (.inr (by simp only; omega)) _) (.inr (Nat.le_refl _)) _) (.inr (Nat.le_refl _)) _) (.inr (Nat.le_refl _)) _) (.inr (Nat.le_refl _)) _), (HR5.out.le (by omega)).keep (by repeat (first | ((with_reducible refine Below.setc ?_ ?_ _); focus (first | omega | (simp; done) | (simp; omega))) | ((with_reducible refine Below.allocc ?_ ?_ _); focus (first | omega | (simp; done) | (simp; omega))) | (with_reducible refine Below.drew ?_) | (with_reducible refine Below.drewn ?_) | (with_reducible assumption) | (with_reducible exact Below.refl _ _) | ((with_reducible refine Below.stepp (by with_reducible assumption) ?_ ?_); focus (first | omega | (simp; done) | (simp; omega)))))⟩
end Go.Proofs.Ytngmkflmjjkjaaa
