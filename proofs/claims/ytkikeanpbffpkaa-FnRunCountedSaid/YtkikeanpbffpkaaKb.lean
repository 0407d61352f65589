/- Facts that stay while some blocks stay: what is drawn. -/
import Derived.Test.YtkikeanpbffpkaaChecked
import Derived.Test.YtkikeanpbffpkaaDrawH
import Derived.Test.YtkikeanpbffpkaaGrSnap
import Derived.Test.YtkikeanpbffpkaaPaintSt
import Derived.Test.YtkikeanpbffpkaaGrCtx
namespace Go.Proofs.Ytkikeanpbffpkaa
open Go.RowKit
set_option linter.unusedVariables false
def KB (bs : List Nat) (R : World → Prop) (w : World) : Prop := (∀ x ∈ bs, x < w.heap.size) ∧ ∀ W : World, (∀ x ∈ bs, W.heap[x]? = w.heap[x]?) → R W
/-- A fact that stays while the blocks from lo on stay as they are. -/
def SQ (R : World → Prop) (lo : Nat) (w : World) : Prop := ∀ W : World, (∀ x, lo ≤ x → x < w.heap.size → W.heap[x]? = w.heap[x]?) → R W
section
variable {R : World → Prop} {lo : Nat} {w w' : World} {bs S : List Nat}
theorem KB.now (h : KB bs R w) : R w := h.2 w fun _ _ => rfl
theorem KB.only (h : KB bs R w) (hO : Only S w w') (hs : ∀ x ∈ bs, x ∉ S) : KB bs R w' :=
  ⟨fun x hx => Nat.lt_of_lt_of_le (h.1 x hx) hO.size, fun W hW => h.2 W fun x hx => (hW x hx).trans (hO.block x (h.1 x hx) (hs x hx))⟩
theorem KB.below (h : KB bs R w) (hB : Below w.heap.size w w') : KB bs R w' := h.only (S := []) (Only.of_below hB) (by simp)
theorem KB.alloc_ (h : KB bs R w) (o : Obj) : KB bs R (w.alloc o) := h.only (S := []) ((Only.refl _ _).alloc o) (by simp)
theorem KB.sq (h : KB bs R w) (hl : ∀ x ∈ bs, lo ≤ x) : SQ R lo w := fun W hW => h.2 W fun x hx => hW x (hl x hx) (h.1 x hx)
theorem SQ.now (s : SQ R lo w) : R w := s w fun _ _ _ => rfl
theorem SQ.only (s : SQ R lo w) (hO : Only S w w') (hS : ∀ x ∈ S, x < lo) : SQ R lo w' :=
  fun W hW => s W (fun x h1 h2 => (hW x h1 (Nat.lt_of_lt_of_le h2 hO.size)).trans (hO.block x h2 (fun hx => by have := hS x hx; omega)))
theorem SQ.below (s : SQ R lo w) (hO : Below w.heap.size w w') : SQ R lo w' := fun W hW => s W (fun x h1 h2 => (hW x h1 (Nat.lt_of_lt_of_le h2 hO.size)).trans (hO.block x h2))
theorem SQ.mono {lo' : Nat} (s : SQ R lo w) (hl : lo' ≤ lo) : SQ R lo' w := fun W hW => s W (fun x h1 h2 => hW x (by omega) h2)
end
section
variable {lo : Nat} {w w' : World} {g : Nat} {p : TwoM} {A A' A2 A3 : Option Addr} {c c' c2 c3 : Nat} {os : List OCell}
def tblks (A : Option Addr) (os : List OCell) (A' A2 A3 : Option Addr) : List Nat := hblks A os A' ++ blk A2 ++ blk A3
theorem PTx.kb (h : PTx lo w g p A c A' c' os A2 c2 A3 c3) : KB (tblks A os A' A2 A3) (fun W => RTw W (.agg #[.slice A p.store.cells.length c, .slice A' p.store.roots.length c', .slice A2 p.x.length c2, .slice A3 p.y.length c3]) p) w := by
  constructor
  · intro x hx
    rcases List.mem_append.1 hx with hx | hx
    · rcases List.mem_append.1 hx with hx | hx
      · exact h.own.lt x hx
      · exact h.xs.lt x hx
    · exact h.ys.lt x hx
  · intro W hW
    have k1 := h.own.keep (w' := W) (fun x hx => hW x (List.mem_append.2 (.inl (List.mem_append.2 (.inl hx)))))
    have k2 := h.xs.keep (w' := W) (fun x hx => hW x (List.mem_append.2 (.inl (List.mem_append.2 (.inr hx)))))
    have k3 := h.ys.keep (w' := W) (fun x hx => hW x (List.mem_append.2 (.inr hx)))
    exact ⟨A, c, A', c', A2, c2, A3, c3, rfl, k1.rhs h.map, k2.rf, h.xl, k3.rf, h.yl⟩
theorem PTx.ap (h : PTx lo w g p A c A' c' os A2 c2 A3 c3) : ∀ x ∈ tblks A os A' A2 A3, lo ≤ x ∧ x ≠ g := fun x hx => ⟨h.los x hx, fun e => h.apart (e ▸ hx)⟩
theorem PTx.only (h : PTx lo w g p A c A' c' os A2 c2 A3 c3) {q : Nat} (hO : Only [q] w w') (hq : q < lo) : PTx lo w' g p A c A' c' os A2 c2 A3 c3 := by
  have hg := h.lo_
  have hn : ∀ b ∈ hblks A os A' ++ blk A2 ++ blk A3, b ∉ [q] := fun b hb hc => by have := h.los b hb; simp at hc; omega
  have hgq : g ∉ [q] := by simp; omega
  exact ⟨hO.cell h.q0 hgq, hO.cell h.q1 hgq, hO.cell h.q2 hgq, hO.cell h.q3 hgq, fun o => (hO.frozenAt g o h.lt hgq).trans (h.qf o), h.lo_, Nat.lt_of_lt_of_le h.lt hO.size, h.apart, h.map,
    h.own.only hO (fun b hb => hn b (List.mem_append.2 (.inl (List.mem_append.2 (.inl hb))))), h.xs.only hO (fun b hb => hn b (List.mem_append.2 (.inl (List.mem_append.2 (.inr hb))))), h.ys.only hO (fun b hb => hn b (List.mem_append.2 (.inr hb))), h.nd, h.los, h.xl, h.yl⟩
/-- The first list without its first element. -/
theorem PTx.kbt {gx n k2 : Nat} (h : PTx lo w g p A c A' c' os (some ⟨gx, 0, none⟩) c2 A3 c3) (hn : n = p.x.tail.length) : KB (tblks A os A' (some ⟨gx, 0, none⟩) A3) (fun W => RTw W (.agg #[.slice A p.store.cells.length c, .slice A' p.store.roots.length c', .slice (some ⟨gx, 1, none⟩) n k2, .slice A3 p.y.length c3]) ⟨p.store, p.x.tail, p.y⟩) w := by
  refine ⟨h.kb.1, fun W hW => ?_⟩
  obtain ⟨B, d, B', d', B2, d2, B3, d3, e, h1, h2, h3, h4, h5⟩ := h.kb.2 W hW
  simp only [Value.agg.injEq, Array.mk.injEq, List.cons.injEq, Value.slice.injEq] at e
  obtain ⟨⟨rfl, -, -⟩, ⟨rfl, -, -⟩, ⟨rfl, -, -⟩, ⟨rfl, -, -⟩, -⟩ := e
  exact ⟨A, c, A', c', some ⟨gx, 1, none⟩, k2, A3, c3, by rw [hn], h1, h2.tail_, by have := h.xl; simp; omega, h4, h5⟩
theorem PTx.kb0 {gx n k2 j : Nat} (h : PTx lo w g p A c A' c' os (some ⟨gx, 0, none⟩) c2 A3 c3) (hn : p.x.length = 1) (hz : n = 0) : KB (tblks A os A' (some ⟨gx, 0, none⟩) A3) (fun W => RTw W (.agg #[.slice A p.store.cells.length c, .slice A' p.store.roots.length c', .slice (some ⟨gx, j, none⟩) n k2, .slice A3 p.y.length c3]) ⟨p.store, p.x.tail, p.y⟩) w := by
  refine ⟨h.kb.1, fun W hW => ?_⟩
  obtain ⟨B, d, B', d', B2, d2, B3, d3, e, h1, h2, h3, h4, h5⟩ := h.kb.2 W hW
  simp only [Value.agg.injEq, Array.mk.injEq, List.cons.injEq, Value.slice.injEq] at e
  obtain ⟨⟨rfl, -, -⟩, ⟨rfl, -, -⟩, ⟨rfl, -, -⟩, ⟨rfl, -, -⟩, -⟩ := e
  exact ⟨A, c, A', c', some ⟨gx, j, none⟩, k2, A3, c3, by simp [hn, hz], h1, fun i hi => by simp [hn] at hi, by have := h.xl; simp; omega, h4, h5⟩
/-- Other roots. -/
theorem KB.roots {bs : List Nat} {gn n1 m1 n2 n3 : Nat} {x : Int} (h : KB bs (fun W => RTw W (.agg #[.slice A n1 c, .slice A' m1 c', .slice A2 n2 c2, .slice A3 n3 c3]) p) w) (hn : w.cell? ⟨gn, 0, none⟩ = some (.int .i64 x)) :
    KB (gn :: bs) (fun W => RTw W (.agg #[.slice A n1 c, .slice (some ⟨gn, 0, none⟩) 1 1, .slice A2 n2 c2, .slice A3 n3 c3]) ⟨⟨p.store.cells, [x]⟩, p.x, p.y⟩) w := by
  constructor
  · intro y hy
    rcases List.mem_cons.1 hy with rfl | hy
    · exact World.block_lt_of_cell? w _ hn
    · exact h.1 y hy
  · intro W hW
    obtain ⟨B, d, B', d', B2, d2, B3, d3, e, h1, h2, h3, h4, h5⟩ := h.2 W fun y hy => hW y (List.mem_cons_of_mem _ hy)
    simp only [Value.agg.injEq, Array.mk.injEq, List.cons.injEq, Value.slice.injEq] at e
    obtain ⟨⟨rfl, rfl, -⟩, ⟨rfl, -, -⟩, ⟨rfl, rfl, -⟩, ⟨rfl, rfl, -⟩, -⟩ := e
    have hc : W.cell? ⟨gn, 0, none⟩ = some (.int .i64 x) := (World.cell?_of_block (a := ⟨gn, 0, none⟩) (hW gn (by simp))).trans hn
    refine ⟨A, c, some ⟨gn, 0, none⟩, 1, A2, c2, A3, c3, rfl, ⟨h1.cells, fun i hi => ?_, h1.clen, by simp⟩, h2, h3, h4, h5⟩
    have : i = 0 := by simp at hi; omega
    subst this
    exact ⟨gn, 0, x, rfl, rfl, hc⟩
end
section
variable {lo : Nat} {w w' : World} {g : Nat} {p : PaintM} {A A' A2 : Option Addr} {c c' c2 : Nat} {os : List OCell}
def pblks (A : Option Addr) (os : List OCell) (A' A2 : Option Addr) : List Nat := hblks A os A' ++ blk A2
theorem PPx.kb (h : PPx lo w g p A c A' c' os A2 c2) : KB (pblks A os A' A2) (fun W => RPt W (.agg #[.slice A p.store.cells.length c, .slice A' p.store.roots.length c', .slice A2 p.colours.length c2, .bool p.active]) p) w := by
  constructor
  · intro x hx
    rcases List.mem_append.1 hx with hx | hx
    · exact h.own.lt x hx
    · exact h.cs.lt x hx
  · intro W hW
    have k1 := h.own.keep (w' := W) (fun x hx => hW x (List.mem_append.2 (.inl hx)))
    have k2 := h.cs.keep (w' := W) (fun x hx => hW x (List.mem_append.2 (.inr hx)))
    exact ⟨A, c, A', c', A2, c2, rfl, k1.rhs h.map, k2.rf, h.cl⟩
theorem PPx.ap (h : PPx lo w g p A c A' c' os A2 c2) : ∀ x ∈ pblks A os A' A2, lo ≤ x ∧ x ≠ g := fun x hx => ⟨h.los x hx, fun e => h.apart (e ▸ hx)⟩
theorem PPx.only (h : PPx lo w g p A c A' c' os A2 c2) {q : Nat} (hO : Only [q] w w') (hq : q < lo) : PPx lo w' g p A c A' c' os A2 c2 := by
  have hg := h.lo_
  have hn : ∀ b ∈ hblks A os A' ++ blk A2, b ∉ [q] := fun b hb hc => by have := h.los b hb; simp at hc; omega
  have hgq : g ∉ [q] := by simp; omega
  exact ⟨hO.cell h.q0 hgq, hO.cell h.q1 hgq, hO.cell h.q2 hgq, hO.cell h.q3 hgq, fun o => (hO.frozenAt g o h.lt hgq).trans (h.qf o), h.lo_, Nat.lt_of_lt_of_le h.lt hO.size, h.apart, h.map,
    h.own.only hO (fun b hb => hn b (List.mem_append.2 (.inl hb))), h.cs.only hO (fun b hb => hn b (List.mem_append.2 (.inr hb))), h.nd, h.los, h.cl⟩
theorem PPx.setc {gc : Nat} (h : PPx lo w g p A c A' c' os (some ⟨gc, 0, none⟩) c2) (k : Nat) (x : Int) : PPx lo (w.setCell ⟨gc, k, none⟩ (.int .i64 x)) g ⟨p.store, p.colours.set k x, p.active⟩ A c A' c' os (some ⟨gc, 0, none⟩) c2 :=
  h.paint (h.cs.set_ k x) (by simp) ((Only.refl _ _).setCell (.inl (by simp [blk])) _)
theorem PPx.kbt {gc n k2 : Nat} (h : PPx lo w g p A c A' c' os (some ⟨gc, 0, none⟩) c2) (hn : n = p.colours.tail.length) : KB (pblks A os A' (some ⟨gc, 0, none⟩)) (fun W => RPt W (.agg #[.slice A p.store.cells.length c, .slice A' p.store.roots.length c', .slice (some ⟨gc, 1, none⟩) n k2, .bool p.active]) ⟨p.store, p.colours.tail, p.active⟩) w := by
  refine ⟨h.kb.1, fun W hW => ?_⟩
  obtain ⟨B, d, B', d', B2, d2, e, h1, h2, h3⟩ := h.kb.2 W hW
  simp only [Value.agg.injEq, Array.mk.injEq, List.cons.injEq, Value.slice.injEq] at e
  obtain ⟨⟨rfl, -, -⟩, ⟨rfl, -, -⟩, ⟨rfl, -, -⟩, -⟩ := e
  exact ⟨A, c, A', c', some ⟨gc, 1, none⟩, k2, by rw [hn], h1, h2.tail_, by have := h.cl; simp; omega⟩
theorem PPx.kb0 {gc n k2 j : Nat} (h : PPx lo w g p A c A' c' os (some ⟨gc, 0, none⟩) c2) (hn : p.colours.length = 1) (hz : n = 0) : KB (pblks A os A' (some ⟨gc, 0, none⟩)) (fun W => RPt W (.agg #[.slice A p.store.cells.length c, .slice A' p.store.roots.length c', .slice (some ⟨gc, j, none⟩) n k2, .bool p.active]) ⟨p.store, p.colours.tail, p.active⟩) w := by
  refine ⟨h.kb.1, fun W hW => ?_⟩
  obtain ⟨B, d, B', d', B2, d2, e, h1, h2, h3⟩ := h.kb.2 W hW
  simp only [Value.agg.injEq, Array.mk.injEq, List.cons.injEq, Value.slice.injEq] at e
  obtain ⟨⟨rfl, -, -⟩, ⟨rfl, -, -⟩, ⟨rfl, -, -⟩, -⟩ := e
  exact ⟨A, c, A', c', some ⟨gc, j, none⟩, k2, by simp [hn, hz], h1, fun i hi => by simp [hn] at hi, by have := h.cl; simp; omega⟩
end
end Go.Proofs.Ytkikeanpbffpkaa
