/- The program's order in which cells are met. -/
import Derived.Test.YtkmfhadanbfadaaChecked
import Derived.Deep.DeepCutAuto
import Derived.IntWalk
import Derived.Test.YtkmfhadanbfadaaOrd
import Derived.Test.YtkmfhadanbfadaaGrClo
namespace Go.Proofs.Ytkmfhadanbfadaa
open Go.RowKit
set_option maxRecDepth 100000
set_option linter.unusedSimpArgs false
set_option linter.unusedVariables false
/-! ### The captured variables of metOrder -/
structure MoSt (lo : Nat) (w : World) (bm bk m : Nat) (S : Option Addr) (cS : Nat) (wk : List Int) : Prop where
  km : w.cell? ⟨bm, 0, none⟩ = some (.int .u64 (m : Int))
  fm : w.frozen? ⟨bm, 0, none⟩ = false
  kk : w.cell? ⟨bk, 0, none⟩ = some (.slice S wk.length cS)
  fk : w.frozen? ⟨bk, 0, none⟩ = false
  own : OF 3 fi w S cS wk
  nmk : bm ≠ bk
  am : bm ∉ blk S
  ak : bk ∉ blk S
  lm : lo ≤ bm
  lk : lo ≤ bk
  ls : ∀ b ∈ blk S, lo ≤ b
section
variable {lo : Nat} {w w' : World} {bm bk m : Nat} {S : Option Addr} {cS : Nat} {wk : List Int}
theorem MoSt.ltm (h : MoSt lo w bm bk m S cS wk) : bm < w.heap.size := World.block_lt_of_cell? w _ h.km
theorem MoSt.ltk (h : MoSt lo w bm bk m S cS wk) : bk < w.heap.size := World.block_lt_of_cell? w _ h.kk
theorem MoSt.setM (h : MoSt lo w bm bk m S cS wk) (m' : Nat) : MoSt lo (w.setCell ⟨bm, 0, none⟩ (.int .u64 (m' : Int))) bm bk m' S cS wk := by
  have h2 := h.nmk
  have h3 := h.nmk.symm
  have k1 := h.km
  have k2 := h.kk
  exact ⟨by simp [go_sem, k1], by simp [go_sem, h.fm], by simp [go_sem, k2, h2, h3], by simp [go_sem, h.fk], h.own.ne_ h.am, h.nmk, h.am, h.ak, h.lm, h.lk, h.ls⟩
theorem MoSt.setK (h : MoSt lo w bm bk m S cS wk) (hOn : Only (blk S) w w') {S' : Option Addr} {cS' n : Nat} {wk' : List Int} (hO : OF 3 fi w' S' cS' wk') (hn : n = wk'.length) (hg : ∀ g ∈ blk S', g ∈ blk S ∨ w.heap.size ≤ g) : MoSt lo (w'.setCell ⟨bk, 0, none⟩ (.slice S' n cS')) bm bk m S' cS' wk' := by
  have k1 := hOn.cell h.km h.am
  have k2 := hOn.cell h.kk h.ak
  have f1 := (hOn.frozenAt bm 0 h.ltm h.am).trans h.fm
  have f2 := (hOn.frozenAt bk 0 h.ltk h.ak).trans h.fk
  have lm := h.ltm
  have lk := h.ltk
  have key : ∀ b, b < w.heap.size → b ∉ blk S → b ∉ blk S' := fun b hb hn hc => by rcases hg b hc with h9 | h9; exact hn h9; omega
  have ak := key bk lk h.ak
  have h2 := h.nmk
  subst hn
  exact ⟨by simp [go_sem, k1, h2, h2.symm], by simp [go_sem, f1], by simp [go_sem, k2], by simp [go_sem, f2], hO.ne_ ak, h.nmk, key bm lm h.am, ak, h.lm, h.lk, fun b hb => by rcases hg b hb with h9 | h9; exact h.ls b h9; have := h.lm; omega⟩
theorem MoSt.below (h : MoSt lo w bm bk m S cS wk) (hb : Below w.heap.size w w') : MoSt lo w' bm bk m S cS wk :=
  ⟨cell_below h.km hb, ((bcell hb).2.1 _ _ h.ltm).trans h.fm, cell_below h.kk hb, ((bcell hb).2.1 _ _ h.ltk).trans h.fk, h.own.below hb, h.nmk, h.am, h.ak, h.lm, h.lk, h.ls⟩
end
end Go.Proofs.Ytkmfhadanbfadaa
