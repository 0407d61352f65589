/- A heap that is being drawn: it lies in a box, of the call's own. -/
import Derived.Test.YtkikeanpbffpkaaChecked
import Derived.Deep.QuietTactic
import Derived.BigQuiet
import Derived.IntWalk
import Derived.Deep.RegionWith
import Derived.Test.YtkikeanpbffpkaaGrDraw
import Derived.Test.YtkikeanpbffpkaaGrCopy
import Derived.Test.YtkikeanpbffpkaaGrOwn
namespace Go.Proofs.Ytkikeanpbffpkaa
open Go.RowKit
set_option linter.unusedVariables false
/-- A value that reads as h while the blocks from lo on stay as they are. -/
def SR (lo : Nat) (w : World) (v : Value) (h : HeapM) : Prop := ∀ W : World, (∀ x, lo ≤ x → x < w.heap.size → W.heap[x]? = w.heap[x]?) → RH W v h
theorem SR.now {lo : Nat} {w : World} {v : Value} {h : HeapM} (s : SR lo w v h) : RH w v h := s w (fun _ _ _ => rfl)
theorem SR.only {lo : Nat} {S : List Nat} {w w' : World} {v : Value} {h : HeapM} (s : SR lo w v h) (hO : Only S w w') (hS : ∀ x ∈ S, x < lo) : SR lo w' v h :=
  fun W hW => s W (fun x h1 h2 => (hW x h1 (Nat.lt_of_lt_of_le h2 hO.size)).trans (hO.block x h2 (fun hx => by have := hS x hx; omega)))
theorem SR.below {lo : Nat} {w w' : World} {v : Value} {h : HeapM} (s : SR lo w v h) (hO : Below w.heap.size w w') : SR lo w' v h :=
  fun W hW => s W (fun x h1 h2 => (hW x h1 (Nat.lt_of_lt_of_le h2 hO.size)).trans (hO.block x h2))
theorem SR.mono {lo lo' : Nat} {w : World} {v : Value} {h : HeapM} (s : SR lo w v h) (hl : lo' ≤ lo) : SR lo' w v h := fun W hW => s W (fun x h1 h2 => hW x (by omega) h2)
structure HS (g b4 b5 : Nat) (W : World) (A : Option Addr) (c : Nat) (A' : Option Addr) (c' : Nat) (os : List OCell) (rs : List Int) : Prop where
  own : OHs W A c A' c' os rs
  ap : ∀ x ∈ hblks A os A', b4 < x ∧ x ≠ b5
  p0 : W.cell? ⟨b5, 0, none⟩ = some (.slice A os.length c)
  p1 : W.cell? ⟨b5, 1, none⟩ = some (.slice A' rs.length c')
  pf : ∀ o, W.frozen? ⟨b5, o, none⟩ = false
  q0 : W.cell? ⟨b4, 0, none⟩ = some (.slice none 0 0)
  q1 : W.cell? ⟨b4, 1, none⟩ = some (.slice none 0 0)
  qf : ∀ o, W.frozen? ⟨b4, o, none⟩ = false
  d1 : g < b4
  d2 : b4 < b5
  d3 : b5 < W.heap.size
section
variable {g b4 b5 : Nat} {W W' : World} {A A' : Option Addr} {c c' : Nat} {os : List OCell} {rs : List Int}
/-- What leaves the heap's blocks and the boxes alone keeps it. -/
theorem HS.keep (h : HS g b4 b5 W A c A' c' os rs) (hz : W.heap.size ≤ W'.heap.size) (hk : ∀ x, x < W.heap.size → x ≠ g → W'.heap[x]? = W.heap[x]?) : HS g b4 b5 W' A c A' c' os rs := by
  have h1 := h.d1
  have h2 := h.d2
  have h3 := h.d3
  have k5 := hk b5 (by omega) (by omega)
  have k4 := hk b4 (by omega) (by omega)
  exact ⟨h.own.keep fun x hx => hk x (h.own.lt x hx) (by have := h.ap x hx; omega), h.ap, (World.cell?_of_block (a := ⟨b5, 0, none⟩) k5).trans h.p0, (World.cell?_of_block (a := ⟨b5, 1, none⟩) k5).trans h.p1, fun o => (World.frozen?_of_block (a := ⟨b5, o, none⟩) k5).trans (h.pf o),
    (World.cell?_of_block (a := ⟨b4, 0, none⟩) k4).trans h.q0, (World.cell?_of_block (a := ⟨b4, 1, none⟩) k4).trans h.q1, fun o => (World.frozen?_of_block (a := ⟨b4, o, none⟩) k4).trans (h.qf o), h1, h2, by omega⟩
theorem HS.only (h : HS g b4 b5 W A c A' c' os rs) (hO : Only [g] W W') : HS g b4 b5 W' A c A' c' os rs :=
  h.keep hO.size fun x hx hg => hO.block x hx (by simpa using hg)
theorem HS.below (h : HS g b4 b5 W A c A' c' os rs) (hO : Below W.heap.size W W') : HS g b4 b5 W' A c A' c' os rs :=
  h.keep hO.size fun x hx hg => hO.block x hx
theorem HS.sr (h : HS g b4 b5 W A c A' c' os rs) : SR b4 W (.agg #[.slice A os.length c, .slice A' rs.length c']) ⟨os.map (·.c), rs⟩ := fun W' hW => by
  have h9 := h.own.keep (w' := W') (fun x hx => hW x (by have := h.ap x hx; omega) (h.own.lt x hx))
  exact ⟨A, c, A', c', by simp, h9.cells.rc, h9.roots.rf, by simpa using h9.clen, h9.rlen⟩
/-- A reference is stored. -/
theorem HS.ref (h : HS g b4 b5 W A c A' c' os rs) {k : Nat} {o : OCell} (hk : os[k]? = some o) {gr : Nat} (hA : o.A = some ⟨gr, 0, none⟩) (j : Nat) (n : Int) :
    HS g b4 b5 (W.setCell ⟨gr, j, none⟩ (.int .i64 n)) A c A' c' (os.set k ⟨⟨o.c.used, o.c.data, o.c.refs.set j n⟩, o.A, o.cap⟩) rs := by
  have h1 := h.d1
  have h2 := h.d2
  have h3 := h.d3
  have hmem := List.mem_of_getElem? hk
  have ho := h.own.cells.2 o hmem
  have hgm : gr ∈ blks os := mem_blks hmem (by rw [hA]; simp [blk])
  have hap := h.ap gr (List.mem_append.2 (.inl (List.mem_append.2 (.inr hgm))))
  have hOn : Only (blk o.A) W (W.setCell ⟨gr, j, none⟩ (.int .i64 n)) := (Only.refl _ _).setCell (.inl (by rw [hA]; simp [blk])) _
  have hnd := h.own.nodup
  rw [List.nodup_append] at hnd
  obtain ⟨hnd1, hnd2, hnd3⟩ := hnd
  have hndb : (blks os).Nodup := (List.nodup_append.1 hnd1).2.1
  have hset : OF 3 fi (W.setCell ⟨gr, j, none⟩ (.int .i64 n)) o.A o.cap (o.c.refs.set j n) := by
    have h9 := ho.1
    rw [hA] at h9 ⊢
    exact h9.set_ j n
  have hb := blks_set (os := os) (k := k) (o := o) (p := ⟨⟨o.c.used, o.c.data, o.c.refs.set j n⟩, o.A, o.cap⟩) hk rfl
  refine ⟨⟨h.own.cells.refs_ hndb k o hk (by simp) hOn hset, h.own.roots.only hOn ?_, ?_, by simpa using h.own.clen, h.own.rlen⟩, ?_, ?_, ?_, ?_, ?_, ?_, ?_, h1, h2, by simpa using h3⟩
  · intro x hx hc
    exact hnd3 x (List.mem_append.2 (.inr (mem_blks hmem hc))) x hx rfl
  · rw [hb]; exact h.own.nodup
  · intro x hx
    unfold hblks at hx
    rw [hb] at hx
    exact h.ap x hx
  · rw [List.length_set]; exact hOn.cell h.p0 (by rw [hA]; simp [blk]; omega)
  · exact hOn.cell h.p1 (by rw [hA]; simp [blk]; omega)
  · exact fun o9 => (World.frozen?_of_block (a := ⟨b5, o9, none⟩) (heap_setCell_ne W ⟨gr, j, none⟩ _ (show b5 ≠ gr by omega))).trans (h.pf o9)
  · exact hOn.cell h.q0 (by rw [hA]; simp [blk]; omega)
  · exact hOn.cell h.q1 (by rw [hA]; simp [blk]; omega)
  · exact fun o9 => (World.frozen?_of_block (a := ⟨b4, o9, none⟩) (heap_setCell_ne W ⟨gr, j, none⟩ _ (show b4 ≠ gr by omega))).trans (h.qf o9)
/-- A root is stored. -/
theorem HS.root (h : HS g b4 b5 W A c A' c' os rs) {gr : Nat} (hA : A' = some ⟨gr, 0, none⟩) (j : Nat) (n : Int) : HS g b4 b5 (W.setCell ⟨gr, j, none⟩ (.int .i64 n)) A c A' c' os (rs.set j n) := by
  have h1 := h.d1
  have h2 := h.d2
  have h3 := h.d3
  have hap := h.ap gr (List.mem_append.2 (.inr (by rw [hA]; simp [blk])))
  have hOn : Only (blk A') W (W.setCell ⟨gr, j, none⟩ (.int .i64 n)) := (Only.refl _ _).setCell (.inl (by rw [hA]; simp [blk])) _
  have hnd := h.own.nodup
  rw [List.nodup_append] at hnd
  obtain ⟨hnd1, hnd2, hnd3⟩ := hnd
  have hset : OF 3 fi (W.setCell ⟨gr, j, none⟩ (.int .i64 n)) A' c' (rs.set j n) := by
    have h9 := h.own.roots
    rw [hA] at h9 ⊢
    exact h9.set_ j n
  refine ⟨⟨h.own.cells.keep fun x hx => heap_setCell_ne _ _ _ (show x ≠ gr from fun e => ?_), hset, h.own.nodup, h.own.clen, by simpa using h.own.rlen⟩, h.ap, ?_, ?_, ?_, ?_, ?_, ?_, h1, h2, by simpa using h3⟩
  · exact hnd3 x hx gr (by rw [hA]; simp [blk]) e
  · exact hOn.cell h.p0 (by rw [hA]; simp [blk]; omega)
  · rw [List.length_set]; exact hOn.cell h.p1 (by rw [hA]; simp [blk]; omega)
  · exact fun o9 => (World.frozen?_of_block (a := ⟨b5, o9, none⟩) (heap_setCell_ne W ⟨gr, j, none⟩ _ (show b5 ≠ gr by omega))).trans (h.pf o9)
  · exact hOn.cell h.q0 (by rw [hA]; simp [blk]; omega)
  · exact hOn.cell h.q1 (by rw [hA]; simp [blk]; omega)
  · exact fun o9 => (World.frozen?_of_block (a := ⟨b4, o9, none⟩) (heap_setCell_ne W ⟨gr, j, none⟩ _ (show b4 ≠ gr by omega))).trans (h.qf o9)
theorem HS.at_ {gA : Nat} (h : HS g b4 b5 W (some ⟨gA, 0, none⟩) c A' c' os rs) {k : Nat} {o : OCell} (hk : os[k]? = some o) : W.cell? ⟨gA, k * 3, none⟩ = some (.bool o.c.used) ∧ W.cell? ⟨gA, k * 3 + 1, none⟩ = some (.int .i64 o.c.data) ∧ W.cell? ⟨gA, k * 3 + 2, none⟩ = some (.slice o.A o.c.refs.length o.cap) := by
  obtain ⟨g9, hA, a0, a1, a2, -⟩ := h.own.cells.at_ hk
  injection hA with hA
  injection hA with hA
  subst hA
  exact ⟨a0, a1, a2⟩
theorem HS.some_ (h : HS g b4 b5 W A c A' c' os rs) (hk : 0 < os.length) : ∃ gA, A = some ⟨gA, 0, none⟩ := by
  obtain ⟨gA, hA, -⟩ := h.own.cells.some_ hk
  exact ⟨gA, hA⟩
theorem HS.root_ (h : HS g b4 b5 W A c A' c' os rs) (hl : 0 < rs.length) : ∃ gr, A' = some ⟨gr, 0, none⟩ ∧ rs.length ≤ c' ∧ b4 < gr ∧ gr ≠ b5 := by
  rcases ownsRow_block h.own.roots with ⟨_, h1, _⟩ | ⟨gr, cur, h1, h2, h3, h4, h5⟩
  · omega
  · have h9 := h.ap gr (List.mem_append.2 (.inr (by rw [h1]; simp [blk])))
    exact ⟨gr, h1, h3, h9.1, h9.2⟩
theorem HS.rootat {gr : Nat} (h : HS g b4 b5 W A c (some ⟨gr, 0, none⟩) c' os rs) {j : Nat} (hj : j < rs.length) : (∃ x, W.cell? ⟨gr, j, none⟩ = some (.int .i64 x)) ∧ W.frozen? ⟨gr, j, none⟩ = false :=
  ⟨⟨_, h.own.roots.cell (List.getElem?_eq_getElem hj)⟩, h.own.roots.frozen j⟩
theorem HS.refge (h : HS g b4 b5 W A c A' c' os rs) {k : Nat} {o : OCell} (hk : os[k]? = some o) {gr : Nat} (hA : o.A = some ⟨gr, 0, none⟩) : b4 < gr :=
  (h.ap gr (List.mem_append.2 (.inl (List.mem_append.2 (.inr (mem_blks (List.mem_of_getElem? hk) (by rw [hA]; simp [blk]))))))).1
theorem HS.refs_ (h : HS g b4 b5 W A c A' c' os rs) {k : Nat} {o : OCell} (hk : os[k]? = some o) (hl : 0 < o.c.refs.length) : ∃ gr, o.A = some ⟨gr, 0, none⟩ := by
  obtain ⟨gr, hA, -⟩ := (h.own.cells.2 o (List.mem_of_getElem? hk)).1.some_ hl
  exact ⟨gr, hA⟩
theorem HS.refat (h : HS g b4 b5 W A c A' c' os rs) {k : Nat} {o : OCell} (hk : os[k]? = some o) {gr : Nat} (hA : o.A = some ⟨gr, 0, none⟩) {j : Nat} (hj : j < o.c.refs.length) : (∃ x, W.cell? ⟨gr, j, none⟩ = some (.int .i64 x)) ∧ W.frozen? ⟨gr, j, none⟩ = false := by
  have ho := (h.own.cells.2 o (List.mem_of_getElem? hk)).1
  rw [hA] at ho
  exact ⟨⟨_, ho.cell (List.getElem?_eq_getElem hj)⟩, ho.frozen j⟩
/-- Another heap is laid into the box. -/
theorem HS.put (h : HS g b4 b5 W A c A' c' os rs) {A2 A2' : Option Addr} {c2 c2' : Nat} {os2 : List OCell} {rs2 : List Int} (hO : OHs W A2 c2 A2' c2' os2 rs2) (hap : ∀ x ∈ hblks A2 os2 A2', b4 < x ∧ x ≠ b5) :
    HS g b4 b5 ((W.setCell ⟨b5, 0, none⟩ (.slice A2 os2.length c2)).setCell ⟨b5, 1, none⟩ (.slice A2' rs2.length c2')) A2 c2 A2' c2' os2 rs2 := by
  have h1 := h.d1
  have h2 := h.d2
  have h3 := h.d3
  have p0 := h.p0
  have p1 := h.p1
  have hOn : Only [b5] W ((W.setCell ⟨b5, 0, none⟩ (.slice A2 os2.length c2)).setCell ⟨b5, 1, none⟩ (.slice A2' rs2.length c2')) := ((Only.refl _ _).setCell (.inl (by simp)) _).setCell (.inl (by simp)) _
  exact ⟨hO.keep fun x hx => (heap_setCell_ne _ _ _ (hap x hx).2).trans (heap_setCell_ne _ _ _ (hap x hx).2), hap, by simp [go_sem, p0], by simp [go_sem, p1], fun o => by have := h.pf o; simpa [go_sem] using this, hOn.cell h.q0 (by simp; omega), hOn.cell h.q1 (by simp; omega),
    fun o => (World.frozen?_of_block (a := ⟨b4, o, none⟩) (hOn.block b4 (by omega) (by simp; omega))).trans (h.qf o), h1, h2, by simpa using h3⟩
theorem HS.put_only (h : HS g b4 b5 W A c A' c' os rs) (u v : Value) {w : World} (hw : Only [g] w W) (hl : w.heap.size ≤ b5) : Only [g] w ((W.setCell ⟨b5, 0, none⟩ u).setCell ⟨b5, 1, none⟩ v) :=
  (hw.setCell (.inr hl) _).setCell (.inr hl) _
end
/-- A value that reads as h while the blocks behind b4, but b5, stay as they are. -/
def SB (g b4 b5 : Nat) (w : World) (v : Value) (h : HeapM) : Prop := g < b4 ∧ ∀ W : World, (∀ x, b4 < x → x ≠ b5 → x < w.heap.size → W.heap[x]? = w.heap[x]?) → RH W v h
theorem SB.step {g b4 b5 : Nat} {w w' : World} {v : Value} {h : HeapM} (s : SB g b4 b5 w v h) (hO : Only [g, b4, b5] w w') : SB g b4 b5 w' v h := ⟨s.1, fun W hW => s.2 W (fun x h1 h2 h3 => (hW x h1 h2 (Nat.lt_of_lt_of_le h3 hO.size)).trans (hO.block x h3 (by have := s.1; simp; omega)))⟩
theorem SB.sr {g b4 b5 : Nat} {w : World} {v : Value} {h : HeapM} (s : SB g b4 b5 w v h) : SR b4 w v h := fun W hW => s.2 W (fun x h1 h2 h3 => hW x (by omega) h3)
theorem HS.sb {g b4 b5 : Nat} {W : World} {A A' : Option Addr} {c c' : Nat} {os : List OCell} {rs : List Int} (h : HS g b4 b5 W A c A' c' os rs) : SB g b4 b5 W (.agg #[.slice A os.length c, .slice A' rs.length c']) ⟨os.map (·.c), rs⟩ := ⟨h.d1, fun W' hW => by
  have h9 := h.own.keep (w' := W') (fun x hx => hW x (h.ap x hx).1 (h.ap x hx).2 (h.own.lt x hx))
  exact ⟨A, c, A', c', by simp, h9.cells.rc, h9.roots.rf, by simpa using h9.clen, h9.rlen⟩⟩
/-- A reading without its first number. -/
theorem RF.tail_ {α : Type} {f : α → Value} {w : World} {b o : Nat} {xs : List α} (h : RF f w (some ⟨b, o, none⟩) xs) : RF f w (some ⟨b, o + 1, none⟩) xs.tail := fun i hi => by
  obtain ⟨b', o', x, e, h1, h2⟩ := h (i + 1) (by simp at hi; omega)
  injection e with e; injection e with e1 e2
  subst e1; subst e2
  exact ⟨b, o + 1, x, rfl, by rw [List.getElem?_tail]; exact h1, by rw [show o + 1 + i = o + (i + 1) by omega]; exact h2⟩
theorem HS.sbt {g b4 b5 : Nat} {W : World} {A : Option Addr} {c c' gr : Nat} {os : List OCell} {rs : List Int} (h : HS g b4 b5 W A c (some ⟨gr, 0, none⟩) c' os rs) (hl : rs.length = 4) : SB g b4 b5 W (.agg #[.slice A os.length c, .slice (some ⟨gr, 1, none⟩) 3 (c' - 1)]) ⟨os.map (·.c), rs.tail⟩ := ⟨h.d1, fun W' hW => by
  have h9 := h.own.keep (w' := W') (fun x hx => hW x (h.ap x hx).1 (h.ap x hx).2 (h.own.lt x hx))
  exact ⟨A, c, some ⟨gr, 1, none⟩, c' - 1, by simp [hl], h9.cells.rc, by simpa using h9.roots.rf.tail_, by simpa using h9.clen, by simp; omega⟩⟩
/-- A cell more. -/
theorem HS.app {g b4 b5 : Nat} {W W1 w' : World} {A A' S5 : Option Addr} {c c' c5 : Nat} {os : List OCell} {rs : List Int} {oc : OCell} (h : HS g b4 b5 W A c A' c' os rs) (hB : Below W.heap.size W W1) (hC : OC w' S5 c5 (os ++ [oc])) (hOn : Only (blk A) W1 w')
    (hg : ∀ x ∈ blk S5, x ∈ blk A ∨ W1.heap.size ≤ x) (hoA : ∀ x ∈ blk oc.A, W.heap.size ≤ x) (hl : os.length ≤ 1048576) :
    SB g b4 b5 w' (.agg #[.slice S5 (os ++ [oc]).length c5, .slice A' rs.length c']) ⟨(os ++ [oc]).map (·.c), rs⟩ ∧
    w'.cell? ⟨b5, 0, none⟩ = some (.slice A os.length c) ∧ w'.cell? ⟨b5, 1, none⟩ = some (.slice A' rs.length c') ∧ (∀ o, w'.frozen? ⟨b5, o, none⟩ = false) ∧
    w'.cell? ⟨b4, 0, none⟩ = some (.slice none 0 0) ∧ w'.cell? ⟨b4, 1, none⟩ = some (.slice none 0 0) ∧ (∀ o, w'.frozen? ⟨b4, o, none⟩ = false) ∧ Below (b4 + 1) W w' := by
  have h1 := h.d1
  have h2 := h.d2
  have h3 := h.d3
  have hz1 := hB.size
  have hapA : ∀ x ∈ blk A, b4 < x ∧ x ≠ b5 := fun x hx => h.ap x (List.mem_append.2 (.inl (List.mem_append.2 (.inl hx))))
  have k4 : w'.heap[b4]? = W.heap[b4]? := (hOn.block b4 (by omega) (fun hx => by have := hapA _ hx; omega)).trans (hB.block b4 (by omega))
  have k5 : w'.heap[b5]? = W.heap[b5]? := (hOn.block b5 (by omega) (fun hx => by have := hapA _ hx; omega)).trans (hB.block b5 (by omega))
  have hnd := h.own.nodup
  rw [List.nodup_append] at hnd
  obtain ⟨hnd1, hnd2, hnd3⟩ := hnd
  have hR : OF 3 fi w' A' c' rs := (h.own.roots.below hB).only hOn (fun x hx hc => hnd3 x (List.mem_append.2 (.inl hc)) x hx rfl)
  refine ⟨⟨h1, fun W' hW => ?_⟩, (World.cell?_of_block (a := ⟨b5, 0, none⟩) k5).trans h.p0, (World.cell?_of_block (a := ⟨b5, 1, none⟩) k5).trans h.p1, fun o => (World.frozen?_of_block (a := ⟨b5, o, none⟩) k5).trans (h.pf o),
    (World.cell?_of_block (a := ⟨b4, 0, none⟩) k4).trans h.q0, (World.cell?_of_block (a := ⟨b4, 1, none⟩) k4).trans h.q1, fun o => (World.frozen?_of_block (a := ⟨b4, o, none⟩) k4).trans (h.qf o), ?_⟩
  · have hz2 := hOn.size
    have hC' : OC W' S5 c5 (os ++ [oc]) := hC.keep (fun x hx => by
      have hxl := hC.lt x hx
      rw [List.mem_append, blks_append, List.mem_append] at hx
      have : b4 < x ∧ x ≠ b5 := by
        rcases hx with hx | hx | hx
        · rcases hg x hx with hx | hx
          · exact hapA x hx
          · omega
        · exact h.ap x (List.mem_append.2 (.inl (List.mem_append.2 (.inr hx))))
        · have := hoA x (by simpa [blks] using hx)
          omega
      exact hW x this.1 this.2 hxl)
    have hR' : OF 3 fi W' A' c' rs := hR.keep (fun x hx => hW x (h.ap x (List.mem_append.2 (.inr hx))).1 (h.ap x (List.mem_append.2 (.inr hx))).2 (hR.lt x hx))
    exact ⟨S5, c5, A', c', by simp, hC'.rc, hR'.rf, by simp; omega, h.own.rlen⟩
  · exact ⟨hOn.os.trans hB.os, hOn.tape.trans hB.tape, hOn.output.trans hB.output, by have := hOn.size; omega, fun k hk => (hOn.block k (by omega) (fun hx => by have := hapA _ hx; omega)).trans (hB.block k (by omega))⟩
end Go.Proofs.Ytkikeanpbffpkaa
