/- Texts of one family, one behind the other: Clo, CloL, CloC, CloR. -/
import Derived.Test.YtkmfhadanbfadaaChecked
import Derived.Deep.LoopGhost
import Derived.Test.YtkmfhadanbfadaaGrCopy
import Derived.Test.YtkmfhadanbfadaaGrOwn
import Derived.Test.YtkmfhadanbfadaaSnapV
import Derived.Test.YtkmfhadanbfadaaGrData
import Derived.Test.YtkmfhadanbfadaaGrTo
import Derived.Test.YtkmfhadanbfadaaSet
import Derived.Deep.RegionHeld3
import Derived.RegionTactic
import Derived.BigRegion
import Derived.Deep.DeepCutAuto
import Derived.Test.YtkmfhadanbfadaaGrHeap
/- closure of the program: the cells of a set that can be reached by cells of the set. -/
namespace Go.Proofs.Ytkmfhadanbfadaa
open Go.RowKit
set_option maxRecDepth 100000
set_option linter.unusedSimpArgs false
set_option linter.unusedVariables false
/-! ### Sets as numbers -/
/-! ### The captured variables of closure -/
structure ClSt (lo : Nat) (w : World) (bw bm bk s m : Nat) (S : Option Addr) (cS : Nat) (wk : List Int) : Prop where
  kw : w.cell? ⟨bw, 0, none⟩ = some (.int .u64 (s : Int))
  km : w.cell? ⟨bm, 0, none⟩ = some (.int .u64 (m : Int))
  fm : w.frozen? ⟨bm, 0, none⟩ = false
  kk : w.cell? ⟨bk, 0, none⟩ = some (.slice S wk.length cS)
  fk : w.frozen? ⟨bk, 0, none⟩ = false
  own : OF 3 fi w S cS wk
  nwm : bw ≠ bm
  nwk : bw ≠ bk
  nmk : bm ≠ bk
  aw : bw ∉ blk S
  am : bm ∉ blk S
  ak : bk ∉ blk S
  lw : lo ≤ bw
  lm : lo ≤ bm
  lk : lo ≤ bk
  ls : ∀ b ∈ blk S, lo ≤ b
section
variable {lo : Nat} {w w' : World} {bw bm bk s m : Nat} {S : Option Addr} {cS : Nat} {wk : List Int}
theorem ClSt.ltw (h : ClSt lo w bw bm bk s m S cS wk) : bw < w.heap.size := World.block_lt_of_cell? w _ h.kw
theorem ClSt.ltm (h : ClSt lo w bw bm bk s m S cS wk) : bm < w.heap.size := World.block_lt_of_cell? w _ h.km
theorem ClSt.ltk (h : ClSt lo w bw bm bk s m S cS wk) : bk < w.heap.size := World.block_lt_of_cell? w _ h.kk
/-- Another row of work is stored. -/
theorem ClSt.setK (h : ClSt lo w bw bm bk s m S cS wk) (hOn : Only (blk S) w w') {S' : Option Addr} {cS' n : Nat} {wk' : List Int} (hO : OF 3 fi w' S' cS' wk') (hn : n = wk'.length) (hg : ∀ g ∈ blk S', g ∈ blk S ∨ w.heap.size ≤ g) : ClSt lo (w'.setCell ⟨bk, 0, none⟩ (.slice S' n cS')) bw bm bk s m S' cS' wk' := by
  have k0 := hOn.cell h.kw h.aw
  have k1 := hOn.cell h.km h.am
  have k2 := hOn.cell h.kk h.ak
  have f1 := (hOn.frozenAt bm 0 h.ltm h.am).trans h.fm
  have f2 := (hOn.frozenAt bk 0 h.ltk h.ak).trans h.fk
  have lw := h.ltw
  have lm := h.ltm
  have lk := h.ltk
  have key : ∀ b, b < w.heap.size → b ∉ blk S → b ∉ blk S' := fun b hb hn hc => by rcases hg b hc with h9 | h9; exact hn h9; omega
  have ak := key bk lk h.ak
  have h1 := h.nwk
  have h2 := h.nmk
  subst hn
  exact ⟨by simp [go_sem, k0, h1, h1.symm], by simp [go_sem, k1, h2, h2.symm], by simp [go_sem, f1], by simp [go_sem, k2], by simp [go_sem, f2], hO.ne_ ak, h.nwm, h.nwk, h.nmk, key bw lw h.aw, key bm lm h.am, ak, h.lw, h.lm, h.lk, fun b hb => by rcases hg b hb with h9 | h9; exact h.ls b h9; have := h.lw; omega⟩
theorem ClSt.below (h : ClSt lo w bw bm bk s m S cS wk) (hb : Below w.heap.size w w') : ClSt lo w' bw bm bk s m S cS wk :=
  ⟨cell_below h.kw hb, cell_below h.km hb, ((bcell hb).2.1 _ _ h.ltm).trans h.fm, cell_below h.kk hb, ((bcell hb).2.1 _ _ h.ltk).trans h.fk, h.own.below hb, h.nwm, h.nwk, h.nmk, h.aw, h.am, h.ak, h.lw, h.lm, h.lk, h.ls⟩
end
end Go.Proofs.Ytkmfhadanbfadaa

/- A set as a list of flags. -/
namespace Go.Proofs.Ytkmfhadanbfadaa
open Go.RowKit
set_option maxRecDepth 100000
set_option linter.unusedSimpArgs false
set_option linter.unusedVariables false
end Go.Proofs.Ytkmfhadanbfadaa

/- closure, reachable and Reachable of the program. -/
namespace Go.Proofs.Ytkmfhadanbfadaa
open Go.RowKit
set_option maxRecDepth 100000
set_option linter.unusedSimpArgs false
set_option linter.unusedVariables false
theorem OF.cap {α : Type} {T : TypeId} {f : α → Value} {w : World} {A : Option Addr} {c : Nat} {xs : List α} (h : OF T f w A c xs) : xs.length ≤ c := by
  rcases ownsRow_block h with ⟨_, h0, h1⟩ | ⟨g, cur, rfl, hg, hnc, hc, hs, ht⟩
  · omega
  · exact hnc
end Go.Proofs.Ytkmfhadanbfadaa

/- Reachability in the reference: l7Reach and Reachable. -/
namespace Go.Proofs.Ytkmfhadanbfadaa
open Go.RowKit
set_option maxRecDepth 100000
set_option linter.unusedSimpArgs false
set_option linter.unusedVariables false
end Go.Proofs.Ytkmfhadanbfadaa
