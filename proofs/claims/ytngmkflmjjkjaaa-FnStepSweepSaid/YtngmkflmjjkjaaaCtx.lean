/- Facts that stay while calls make memory of their own. -/
import Derived.Test.YtngmkflmjjkjaaaChecked
import Derived.Test.YtngmkflmjjkjaaaGrMark
namespace Go.Proofs.Ytngmkflmjjkjaaa
open Go.RowKit
/-- A fact that holds now and stays. -/
def Stb (p : World → Prop) (w : World) : Prop := ∀ W, Below w.heap.size w W → p W
section
variable {p q : World → Prop} {w w' : World}
theorem Stb.now (h : Stb p w) : p w := h w (Below.refl _ _)
theorem Stb.step (h : Stb p w) (hB : Below w.heap.size w w') : Stb p w' := fun W hW => h W (hB.trans (hW.mono hB.size))
theorem Stb.and (h : Stb p w) (k : Stb q w) : Stb (fun W => p W ∧ q W) w := fun W hW => ⟨h W hW, k W hW⟩
theorem Stb.rh {v : Value} {h : HeapM} (hh : RH w v h) : Stb (fun W => RH W v h) w := fun _ hW => hh.below hW
theorem Stb.ro {A : Option Addr} {l : List CmdM} (hh : RO w A l) : Stb (fun W => RO W A l) w := fun _ hW => hh.below hW
theorem Stb.below {w0 : World} (h : Below w0.heap.size w0 w) : Stb (fun W => Below w0.heap.size w0 W) w := fun _ hW => h.trans (hW.mono h.size)
theorem Stb.cell {a : Addr} {v : Value} (h : w.cell? a = some v) : Stb (fun W => W.cell? a = some v) w := fun _ hW => cell_below h hW
end
/-- Whatever the world at a call is: what is known of it serves. -/
theorem Calls.gen {P : Program} {f : FuncId} {args : Array Value} {w : World} {Q : Ending → World → Prop} (F : World → Prop) (hF : F w) (h : ∀ W, F W → Calls P f args W Q) : Calls P f args w Q := h w hF
theorem Code.gen {P : Program} {cd : Code} {Q : Exit → Act → World → Prop} {a : Act} {w : World} (F : World → Prop) (hF : F w) (h : ∀ W, F W → cd.wp P Q a W) : cd.wp P Q a w := h w hF
theorem RH.parts {w : World} {v : Value} {h : HeapM} (hh : RH w v h) : ∃ A c A' c', v = .agg #[.slice A h.cells.length c, .slice A' h.roots.length c'] := by
  obtain ⟨A, c, A', c', e, -⟩ := hh
  exact ⟨A, c, A', c', e⟩
theorem RH.inv {w : World} {A A' : Option Addr} {m c m' c' : Nat} {h : HeapM} (hh : RH w (.agg #[.slice A m c, .slice A' m' c']) h) : RC w A h.cells ∧ RF fi w A' h.roots ∧ h.cells.length ≤ 9223372036854775807 ∧ h.roots.length ≤ 9223372036854775807 := by
  obtain ⟨B, d, B', d', e, h1, h2, h3, h4⟩ := hh
  simp only [Value.agg.injEq, Array.mk.injEq, List.cons.injEq, Value.slice.injEq] at e
  obtain ⟨⟨rfl, -, -⟩, ⟨rfl, -, -⟩, -⟩ := e
  exact ⟨h1, h2, h3, h4⟩
/-- A box of values of the call's own. -/
structure Bx (W : World) (b : Nat) (vs : List Value) : Prop where
  c : ∀ i v, vs[i]? = some v → W.cell? ⟨b, i, none⟩ = some v
  f : ∀ o, W.frozen? ⟨b, o, none⟩ = false
  lt : b < W.heap.size
section
variable {W W' : World} {b : Nat} {vs : List Value}
theorem Bx.new (W : World) (vs : List Value) (T : TypeId) : Bx (W.alloc (.cells vs.toArray T (0, 0))) W.heap.size vs :=
  ⟨fun i v h => by
    rw [World.cell?_alloc_at _ _ _ i rfl]
    simpa using h, fun o => by simp [go_sem], by simp⟩
theorem Bx.keep (h : Bx W b vs) (hk : W'.heap[b]? = W.heap[b]?) (hz : W.heap.size ≤ W'.heap.size) : Bx W' b vs :=
  ⟨fun i v hi => (World.cell?_of_block (a := ⟨b, i, none⟩) hk).trans (h.c i v hi), fun o => (World.frozen?_of_block (a := ⟨b, o, none⟩) hk).trans (h.f o), Nat.lt_of_lt_of_le h.lt hz⟩
theorem Bx.below (h : Bx W b vs) (hB : Below W.heap.size W W') : Bx W' b vs := h.keep (hB.block b h.lt) hB.size
theorem Bx.only {S : List Nat} (h : Bx W b vs) (hO : Only S W W') (hs : b ∉ S) : Bx W' b vs := h.keep (hO.block b h.lt hs) hO.size
end
end Go.Proofs.Ytngmkflmjjkjaaa
