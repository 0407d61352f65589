/- Texts of one family, one behind the other: Sam. -/
import Derived.Test.YtopbngfghpgbnaaChecked
import Derived.Deep.QuietTactic
import Derived.BigQuiet
import Derived.Test.YtopbngfghpgbnaaGrSame
import Derived.Test.YtopbngfghpgbnaaGrCtx
/- The laws' comparisons of two equal values. -/
namespace Go.Proofs.Ytopbngfghpgbnaa
open Go.RowKit
set_option maxRecDepth 100000
set_option linter.unusedSimpArgs false
set_option linter.unusedVariables false
set_option maxHeartbeats 4000000 in
theorem samePaint_eq (v u : Value) (p : PaintM) (w : World) (hv : RPt w v p) (hu : RPt w u p) :
    Calls Try.prog 21 #[v, u] w fun e w' => e = .returned (.bool true) ∧ Below w.heap.size w w' := by
  obtain ⟨A, c, A', c', A2, c2, rfl⟩ := hv.parts
  obtain ⟨B, d, B', d', B2, d2, rfl⟩ := hu.parts
  go_enter Try.func21, Try.ntmps21
  go_wp2_with fail
  refine Calls.gen (Stb (fun W => Bx W w.heap.size [.slice A p.store.cells.length c, .slice A' p.store.roots.length c', .slice A2 p.colours.length c2, .bool p.active] ∧ Bx W (w.heap.size + 1) [.slice B p.store.cells.length d, .slice B' p.store.roots.length d', .slice B2 p.colours.length d2, .bool p.active] ∧ RPt W (.agg #[.slice A p.store.cells.length c, .slice A' p.store.roots.length c', .slice A2 p.colours.length c2, .bool p.active]) p ∧ RPt W (.agg #[.slice B p.store.cells.length d, .slice B' p.store.roots.length d', .slice B2 p.colours.length d2, .bool p.active]) p ∧ Below w.heap.size w W)) (Stb.and (Stb.bx ((Bx.new w [.slice A p.store.cells.length c, .slice A' p.store.roots.length c', .slice A2 p.colours.length c2, .bool p.active] 28).below blw_)) (Stb.and (Stb.bx (by simpa using Bx.new (w.alloc (.cells #[.slice A p.store.cells.length c, .slice A' p.store.roots.length c', .slice A2 p.colours.length c2, .bool p.active] 28)) [.slice B p.store.cells.length d, .slice B' p.store.roots.length d', .slice B2 p.colours.length d2, .bool p.active] 28)) (Stb.and (Stb.rpt (hv.below blw_)) (Stb.and (Stb.rpt (hu.below blw_)) (Stb.here blw_))))) ?_
  clear hv hu
  rintro W HI
  (with_reducible refine (sameHeap_any _ _ p.store p.store _ HI.now.2.2.1.st HI.now.2.2.2.1.st).mono ?_); rw [eqB_of (rfl : p.store = p.store)]; rintro e w2 ⟨rfl, hB⟩
  replace HI := HI.step hB
  clear hB
  have cc2 := HI.now.1.c 2 _ rfl
  have dd2 := HI.now.2.1.c 2 _ rfl
  have z0 := HI.now.1.lt
  have z1 := HI.now.2.1.lt
  go_wp2_with fail
  refine Calls.gen (Stb (fun W => Bx W w.heap.size [.slice A p.store.cells.length c, .slice A' p.store.roots.length c', .slice A2 p.colours.length c2, .bool p.active] ∧ Bx W (w.heap.size + 1) [.slice B p.store.cells.length d, .slice B' p.store.roots.length d', .slice B2 p.colours.length d2, .bool p.active] ∧ RPt W (.agg #[.slice A p.store.cells.length c, .slice A' p.store.roots.length c', .slice A2 p.colours.length c2, .bool p.active]) p ∧ RPt W (.agg #[.slice B p.store.cells.length d, .slice B' p.store.roots.length d', .slice B2 p.colours.length d2, .bool p.active]) p ∧ Below w.heap.size w W)) (HI.step blw_) ?_
  clear HI cc2 dd2 z0 z1
  rintro W HI
  (with_reducible refine (sameInts_any A2 B2 p.colours p.colours c2 d2 _ HI.now.2.2.1.co HI.now.2.2.2.1.co HI.now.2.2.1.ln HI.now.2.2.2.1.ln).mono ?_); rw [eqB_of (rfl : p.colours = p.colours)]; rintro e w2 ⟨rfl, n9, hw2⟩
  replace HI := HI.step (show Below W.heap.size W w2 from by rw [hw2]; exact Below.drewn (Below.refl _ _))
  clear hw2
  have cc3 := HI.now.1.c 3 _ rfl
  have dd3 := HI.now.2.1.c 3 _ rfl
  have z0 := HI.now.1.lt
  have z1 := HI.now.2.1.lt
  have HB := HI.now.2.2.2.2
  have zB := HB.size
  clear HI
  go_wp2_with fail
  go_ret
  exact ⟨ret_bool (by simp), blw_⟩
set_option maxHeartbeats 4000000 in
theorem sameAged_eq (v u : Value) (p : TwoM) (w : World) (hv : RTw w v p) (hu : RTw w u p) :
    Calls Try.prog 48 #[v, u] w fun e w' => e = .returned (.bool true) ∧ Below w.heap.size w w' := by
  obtain ⟨A, c, A', c', A2, c2, A3, c3, rfl⟩ := hv.parts
  obtain ⟨B, d, B', d', B2, d2, B3, d3, rfl⟩ := hu.parts
  go_enter Try.func48, Try.ntmps48
  go_wp2_with fail
  refine Calls.gen (Stb (fun W => Bx W w.heap.size [.slice A p.store.cells.length c, .slice A' p.store.roots.length c', .slice A2 p.x.length c2, .slice A3 p.y.length c3] ∧ Bx W (w.heap.size + 1) [.slice B p.store.cells.length d, .slice B' p.store.roots.length d', .slice B2 p.x.length d2, .slice B3 p.y.length d3] ∧ RTw W (.agg #[.slice A p.store.cells.length c, .slice A' p.store.roots.length c', .slice A2 p.x.length c2, .slice A3 p.y.length c3]) p ∧ RTw W (.agg #[.slice B p.store.cells.length d, .slice B' p.store.roots.length d', .slice B2 p.x.length d2, .slice B3 p.y.length d3]) p ∧ Below w.heap.size w W)) (Stb.and (Stb.bx ((Bx.new w [.slice A p.store.cells.length c, .slice A' p.store.roots.length c', .slice A2 p.x.length c2, .slice A3 p.y.length c3] 60).below blw_)) (Stb.and (Stb.bx (by simpa using Bx.new (w.alloc (.cells #[.slice A p.store.cells.length c, .slice A' p.store.roots.length c', .slice A2 p.x.length c2, .slice A3 p.y.length c3] 60)) [.slice B p.store.cells.length d, .slice B' p.store.roots.length d', .slice B2 p.x.length d2, .slice B3 p.y.length d3] 60)) (Stb.and (Stb.rtw (hv.below blw_)) (Stb.and (Stb.rtw (hu.below blw_)) (Stb.here blw_))))) ?_
  clear hv hu
  rintro W HI
  (with_reducible refine (sameHeap_any _ _ p.store p.store _ HI.now.2.2.1.st HI.now.2.2.2.1.st).mono ?_); rw [eqB_of (rfl : p.store = p.store)]; rintro e w2 ⟨rfl, hB⟩
  replace HI := HI.step hB
  clear hB
  have cc2 := HI.now.1.c 2 _ rfl
  have dd2 := HI.now.2.1.c 2 _ rfl
  have z0 := HI.now.1.lt
  have z1 := HI.now.2.1.lt
  go_wp2_with fail
  refine Calls.gen (Stb (fun W => Bx W w.heap.size [.slice A p.store.cells.length c, .slice A' p.store.roots.length c', .slice A2 p.x.length c2, .slice A3 p.y.length c3] ∧ Bx W (w.heap.size + 1) [.slice B p.store.cells.length d, .slice B' p.store.roots.length d', .slice B2 p.x.length d2, .slice B3 p.y.length d3] ∧ RTw W (.agg #[.slice A p.store.cells.length c, .slice A' p.store.roots.length c', .slice A2 p.x.length c2, .slice A3 p.y.length c3]) p ∧ RTw W (.agg #[.slice B p.store.cells.length d, .slice B' p.store.roots.length d', .slice B2 p.x.length d2, .slice B3 p.y.length d3]) p ∧ Below w.heap.size w W)) (HI.step blw_) ?_
  clear HI cc2 dd2 z0 z1
  rintro W HI
  (with_reducible refine (sameFlags_any A2 B2 p.x p.x c2 d2 _ HI.now.2.2.1.fx HI.now.2.2.2.1.fx HI.now.2.2.1.lx HI.now.2.2.2.1.lx).mono ?_); rw [eqB_of (rfl : p.x = p.x)]; rintro e w2 ⟨rfl, n9, hw2⟩
  replace HI := HI.step (show Below W.heap.size W w2 from by rw [hw2]; exact Below.drewn (Below.refl _ _))
  clear hw2
  have cc3 := HI.now.1.c 3 _ rfl
  have dd3 := HI.now.2.1.c 3 _ rfl
  have z0 := HI.now.1.lt
  have z1 := HI.now.2.1.lt
  go_wp2_with fail
  refine Calls.gen (Stb (fun W => Bx W w.heap.size [.slice A p.store.cells.length c, .slice A' p.store.roots.length c', .slice A2 p.x.length c2, .slice A3 p.y.length c3] ∧ Bx W (w.heap.size + 1) [.slice B p.store.cells.length d, .slice B' p.store.roots.length d', .slice B2 p.x.length d2, .slice B3 p.y.length d3] ∧ RTw W (.agg #[.slice A p.store.cells.length c, .slice A' p.store.roots.length c', .slice A2 p.x.length c2, .slice A3 p.y.length c3]) p ∧ RTw W (.agg #[.slice B p.store.cells.length d, .slice B' p.store.roots.length d', .slice B2 p.x.length d2, .slice B3 p.y.length d3]) p ∧ Below w.heap.size w W)) (HI.step blw_) ?_
  clear HI cc3 dd3 z0 z1
  rintro W HI
  (with_reducible refine (sameFlags_any A3 B3 p.y p.y c3 d3 _ HI.now.2.2.1.fy HI.now.2.2.2.1.fy HI.now.2.2.1.ly HI.now.2.2.2.1.ly).mono ?_); rw [eqB_of (rfl : p.y = p.y)]; rintro e w2 ⟨rfl, n9, hw2⟩
  replace HI := HI.step (show Below W.heap.size W w2 from by rw [hw2]; exact Below.drewn (Below.refl _ _))
  clear hw2
  have HB := HI.now.2.2.2.2
  have zB := HB.size
  clear HI
  go_wp2_with fail
  go_ret
  exact ⟨rfl, blw_⟩
end Go.Proofs.Ytopbngfghpgbnaa
