/- What the walks of the exact laws want besides: lists of the call's own that survive marks elsewhere; boxes; bounds of sizes. -/
import Derived.Test.YtdkhpmlimnfgpaaChecked
import Derived.Test.YtdkhpmlimnfgpaaMark2
import Derived.Test.YtdkhpmlimnfgpaaCmds
namespace Go.Proofs.Ytdkhpmlimnfgpaa
open Go.RowKit
theorem fact_then {P Q : Prop} (h : P) (k : P → Q) : Q := k h
theorem Box.of2 {w : World} {b : Nat} {x0 x1 : Value} (h0 : w.cell? ⟨b, 0, none⟩ = some x0) (h1 : w.cell? ⟨b, 1, none⟩ = some x1) : Box w b [x0, x1] := fun i x hx => by
  match i, hx with
  | 0, hx => simp at hx; subst hx; exact h0
  | 1, hx => simp at hx; subst hx; exact h1
  | i + 2, hx => simp at hx
theorem Box.of3 {w : World} {b : Nat} {x0 x1 x2 : Value} (h0 : w.cell? ⟨b, 0, none⟩ = some x0) (h1 : w.cell? ⟨b, 1, none⟩ = some x1) (h2 : w.cell? ⟨b, 2, none⟩ = some x2) : Box w b [x0, x1, x2] := fun i x hx => by
  match i, hx with
  | 0, hx => simp at hx; subst hx; exact h0
  | 1, hx => simp at hx; subst hx; exact h1
  | 2, hx => simp at hx; subst hx; exact h2
  | i + 3, hx => simp at hx
theorem Box.of4 {w : World} {b : Nat} {x0 x1 x2 x3 : Value} (h0 : w.cell? ⟨b, 0, none⟩ = some x0) (h1 : w.cell? ⟨b, 1, none⟩ = some x1) (h2 : w.cell? ⟨b, 2, none⟩ = some x2) (h3 : w.cell? ⟨b, 3, none⟩ = some x3) : Box w b [x0, x1, x2, x3] := fun i x hx => by
  match i, hx with
  | 0, hx => simp at hx; subst hx; exact h0
  | 1, hx => simp at hx; subst hx; exact h1
  | 2, hx => simp at hx; subst hx; exact h2
  | 3, hx => simp at hx; subst hx; exact h3
  | i + 4, hx => simp at hx
/-- A list of instructions, of numbers, in block g of the call's own. -/
def OOB (g : Nat) (w : World) (l : List CmdM) : Prop := OO w (some ⟨g, 0, none⟩) l.length l
def OIB (g : Nat) (w : World) (l : List Int) : Prop := OF 3 fi w (some ⟨g, 0, none⟩) l.length l
section
variable {g : Nat} {w w' : World}
theorem OOB.below {l : List CmdM} (h : OOB g w l) (hb : Below w.heap.size w w') : OOB g w' l := OO.below h hb
theorem OIB.below {l : List Int} (h : OIB g w l) (hb : Below w.heap.size w w') : OIB g w' l := OF.below h hb
theorem OOB.span {l : List CmdM} {lo hi : Nat} (h : OOB g w l) (hb : Span lo hi w w') (hk : g < lo ∨ hi ≤ g) : OOB g w' l := OO.keep h fun g' hg' => by rw [mem_blk_some hg']; exact hb.block g (by have := OO.lt h g (by simp [blk]); exact this) hk
theorem OIB.span {l : List Int} {lo hi : Nat} (h : OIB g w l) (hb : Span lo hi w w') (hk : g < lo ∨ hi ≤ g) : OIB g w' l := OF.keep h fun g' hg' => by rw [mem_blk_some hg']; exact hb.block g (by have := OF.lt h g (by simp [blk]); exact this) hk
theorem OOB.ro {l : List CmdM} (h : OOB g w l) : RO w (some ⟨g, 0, none⟩) l := OO.ro h
theorem OIB.rf {l : List Int} (h : OIB g w l) : RF fi w (some ⟨g, 0, none⟩) l := OF.rf h
end
theorem markCommandS_law (g : Nat) (l : List CmdM) (k : Int) (w : World) (ho : OOB g w l) (hl : l.length ≤ 1048576) (hk0 : 0 ≤ k) (hk1 : k ≤ 1125899906842624) :
    Calls Try.prog 46 #[.slice (some ⟨g, 0, none⟩) l.length l.length, .int .i64 k] w fun e w' => e = .returned (.int .i64 (k + 4 * (l.length : Int))) ∧ Span g (g + 1) w w' :=
  (markCommandS_any _ l _ k w ho hl hk0 hk1).mono fun e w' ⟨h1, h2⟩ => ⟨h1, h2.span fun g' hg' => by rw [mem_blk_some hg']; omega⟩
theorem markIntS_law (g : Nat) (l : List Int) (k : Int) (w : World) (ho : OIB g w l) (hl : l.length ≤ 1048576) (hk0 : 0 ≤ k) (hk1 : k ≤ 1125899906842624) :
    Calls Try.prog 78 #[.slice (some ⟨g, 0, none⟩) l.length l.length, .int .i64 k] w fun e w' => e = .returned (.int .i64 (k + (l.length : Int))) ∧ Span g (g + 1) w w' :=
  (markIntS_any _ l _ k w ho (by omega) hk0 hk1).mono fun e w' ⟨h1, _, h2⟩ => ⟨h1, h2.span fun g' hg' => by rw [mem_blk_some hg']; omega⟩
theorem sizeH_bound {h : HeapM} (hs : SmallH h) : sizeH h ≤ 1099514773504 := by
  have h1 := sizeCs_bound h.cells 1048576 hs.refs
  have h2 := hs.cells
  have h3 := hs.roots
  have h4 : h.cells.length * (1048576 + 2) ≤ 1048576 * (1048576 + 2) := Nat.mul_le_mul_right _ h2
  unfold sizeH
  omega
theorem sizeP_bound {p : PaintM} (hs : SmallH p.store) (h2 : p.colours.length ≤ 1048576) : sizeP p ≤ 1099515822080 := by
  have := sizeH_bound hs
  unfold sizeP
  omega
theorem sizeN_bound {p : CountM} (hs : SmallH p.store) (h2 : p.counts.length ≤ 1048576) : sizeN p ≤ 1099515822080 := by
  have := sizeH_bound hs
  unfold sizeN
  omega
theorem sizeT_bound {p : TwoM} (hs : SmallH p.store) (h2 : p.x.length ≤ 1048576) (h3 : p.y.length ≤ 1048576) : sizeT p ≤ 1099516870656 := by
  have := sizeH_bound hs
  unfold sizeT
  omega
end Go.Proofs.Ytdkhpmlimnfgpaa
