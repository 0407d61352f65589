/- Texts of one family, one behind the other: Sam. -/
import Derived.Test.YtbnokkdhanlhpaaChecked
import Derived.Deep.QuietTactic
import Derived.BigQuiet
import Derived.Test.YtbnokkdhanlhpaaGrSame
import Derived.Test.YtbnokkdhanlhpaaGrCtx
/- The laws' comparisons of two equal values. -/
namespace Go.Proofs.Ytbnokkdhanlhpaa
open Go.RowKit
set_option maxRecDepth 100000
set_option linter.unusedSimpArgs false
set_option linter.unusedVariables false
set_option maxHeartbeats 4000000 in
theorem sameCounted_eq (v u : Value) (p : CountM) (w : World) (hv : RCt w v p) (hu : RCt w u p) :
    Calls Try.prog 11 #[v, u] w fun e w' => e = .returned (.bool true) ∧ Below w.heap.size w w' := by
  obtain ⟨A, c, A', c', A2, c2, rfl⟩ := hv.parts
  obtain ⟨B, d, B', d', B2, d2, rfl⟩ := hu.parts
  go_enter Try.func11, Try.ntmps11
  go_wp2_with fail
  refine Calls.gen (Stb (fun W => Bx W w.heap.size [.slice A p.store.cells.length c, .slice A' p.store.roots.length c', .slice A2 p.counts.length c2] ∧ Bx W (w.heap.size + 1) [.slice B p.store.cells.length d, .slice B' p.store.roots.length d', .slice B2 p.counts.length d2] ∧ RCt W (.agg #[.slice A p.store.cells.length c, .slice A' p.store.roots.length c', .slice A2 p.counts.length c2]) p ∧ RCt W (.agg #[.slice B p.store.cells.length d, .slice B' p.store.roots.length d', .slice B2 p.counts.length d2]) p ∧ Below w.heap.size w W)) (Stb.and (Stb.bx ((Bx.new w [.slice A p.store.cells.length c, .slice A' p.store.roots.length c', .slice A2 p.counts.length c2] 28).below blw_)) (Stb.and (Stb.bx (by simpa using Bx.new (w.alloc (.cells #[.slice A p.store.cells.length c, .slice A' p.store.roots.length c', .slice A2 p.counts.length c2] 28)) [.slice B p.store.cells.length d, .slice B' p.store.roots.length d', .slice B2 p.counts.length d2] 28)) (Stb.and (Stb.rct (hv.below blw_)) (Stb.and (Stb.rct (hu.below blw_)) (Stb.here blw_))))) ?_
  clear hv hu
  rintro W HI
  (with_reducible refine (sameHeap_any _ _ p.store p.store _ HI.now.2.2.1.st HI.now.2.2.2.1.st).mono ?_); rw [eqB_of (rfl : p.store = p.store)]; rintro e w2 ⟨rfl, hB⟩
  replace HI := HI.step hB
  clear hB
  have cc2 := HI.now.1.c 2 _ rfl
  have dd2 := HI.now.2.1.c 2 _ rfl
  have z0 := HI.now.1.lt
  have z1 := HI.now.2.1.lt
  go_wp2_with fail
  refine Calls.gen (Stb (fun W => Bx W w.heap.size [.slice A p.store.cells.length c, .slice A' p.store.roots.length c', .slice A2 p.counts.length c2] ∧ Bx W (w.heap.size + 1) [.slice B p.store.cells.length d, .slice B' p.store.roots.length d', .slice B2 p.counts.length d2] ∧ RCt W (.agg #[.slice A p.store.cells.length c, .slice A' p.store.roots.length c', .slice A2 p.counts.length c2]) p ∧ RCt W (.agg #[.slice B p.store.cells.length d, .slice B' p.store.roots.length d', .slice B2 p.counts.length d2]) p ∧ Below w.heap.size w W)) (HI.step blw_) ?_
  clear HI cc2 dd2 z0 z1
  rintro W HI
  (with_reducible refine (sameInts_any A2 B2 p.counts p.counts c2 d2 _ HI.now.2.2.1.co HI.now.2.2.2.1.co HI.now.2.2.1.ln HI.now.2.2.2.1.ln).mono ?_); rw [eqB_of (rfl : p.counts = p.counts)]; rintro e w2 ⟨rfl, n9, hw2⟩
  replace HI := HI.step (show Below W.heap.size W w2 from by rw [hw2]; exact Below.drewn (Below.refl _ _))
  clear hw2
  have HB := HI.now.2.2.2.2
  have zB := HB.size
  clear HI
  go_wp2_with fail
  go_ret
  exact ⟨rfl, blw_⟩
end Go.Proofs.Ytbnokkdhanlhpaa
