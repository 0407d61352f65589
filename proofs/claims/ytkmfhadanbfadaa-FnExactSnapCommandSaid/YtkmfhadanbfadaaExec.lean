/- A heap behind a pointer, and the program's execute. -/
import Derived.Test.YtkmfhadanbfadaaChecked
import Derived.Deep.RegionHeld3
import Derived.Deep.DeepCutAuto
import Derived.Test.YtkmfhadanbfadaaCmdP
import Derived.Test.YtkmfhadanbfadaaOwn2
import Derived.Test.YtkmfhadanbfadaaCopy
import Derived.Test.YtkmfhadanbfadaaFreeC
namespace Go.Proofs.Ytkmfhadanbfadaa
open Go.RowKit
set_option maxRecDepth 100000
set_option linter.unusedSimpArgs false
set_option linter.unusedVariables false
theorem flat1_set (os : List OCell) : ∀ (k : Nat) (o : OCell) (d : Int), os[k]? = some o → (os.flatMap cellVals).set (k * 3 + 1) (.int .i64 d) = (os.set k ⟨⟨o.c.used, d, o.c.refs⟩, o.A, o.cap⟩).flatMap cellVals := by
  induction os with
  | nil => intro k o d h; simp at h
  | cons a os ih =>
    intro k o d h
    cases k with
    | zero => simp at h; subst h; simp [cellVals]
    | succ k =>
      have h' := ih k o d (by simpa using h)
      have e : (a :: os).flatMap cellVals = .bool a.c.used :: .int .i64 a.c.data :: .slice a.A a.c.refs.length a.cap :: os.flatMap cellVals := by simp [cellVals]
      have e2 : (a :: os.set k ⟨⟨o.c.used, d, o.c.refs⟩, o.A, o.cap⟩).flatMap cellVals = .bool a.c.used :: .int .i64 a.c.data :: .slice a.A a.c.refs.length a.cap :: (os.set k ⟨⟨o.c.used, d, o.c.refs⟩, o.A, o.cap⟩).flatMap cellVals := by simp [cellVals]
      rw [List.set_cons_succ, e, e2, ← h', show (k + 1) * 3 + 1 = k * 3 + 1 + 1 + 1 + 1 by omega]
      rfl
/-- The number of cell k is stored. -/
theorem OC.set1 {w : World} {c g : Nat} {os : List OCell} (h : OC w (some ⟨g, 0, none⟩) c os) (k : Nat) (o : OCell) (d : Int) (hk : os[k]? = some o) :
    OC (w.setCell ⟨g, k * 3 + 1, none⟩ (.int .i64 d)) (some ⟨g, 0, none⟩) c (os.set k ⟨⟨o.c.used, d, o.c.refs⟩, o.A, o.cap⟩) := by
  have h2 := (World.ownsRow.stored (w := w) h.1 (k * 3 + 1) (.int .i64 d)).1
  rw [flat1_set os k o d hk] at h2
  have key : ∀ {A' : Option Addr} {c' : Nat} {xs : List Int}, OF 3 fi w A' c' xs → OF 3 fi (w.setCell ⟨g, k * 3 + 1, none⟩ (.int .i64 d)) A' c' xs := by
    intro A' c' xs hx
    refine hx.keep fun i hi => ?_
    have hn : i ≠ g := fun e => h.apart hx i hi (by simp [blk, e])
    rw [heap_setCell_ne _ _ _ hn]
  have ho := h.2 o (List.mem_of_getElem? hk)
  refine ⟨by rw [List.length_set]; exact h2, fun o' ho' => ?_⟩
  rcases List.mem_or_eq_of_mem_set ho' with ho' | rfl
  · exact ⟨key (h.2 o' ho').1, (h.2 o' ho').2⟩
  · exact ⟨key ho.1, ho.2⟩
theorem mk_nd0 {A A' : Option Addr} {os : List OCell} (h : (blk A ++ blks os ++ blk A').Nodup) : (blks os).Nodup := by
  simp only [List.nodup_append] at h
  exact h.1.2.1
/-- A heap in memory, behind a pointer, all of the call's own. -/
structure PHx (lo : Nat) (w : World) (g : Nat) (h : HeapM) (A : Option Addr) (c : Nat) (A' : Option Addr) (c' : Nat) (os : List OCell) : Prop where
  q0 : w.cell? ⟨g, 0, none⟩ = some (.slice A h.cells.length c)
  q1 : w.cell? ⟨g, 1, none⟩ = some (.slice A' h.roots.length c')
  qf : ∀ o, w.frozen? ⟨g, o, none⟩ = false
  lo_ : lo ≤ g
  lt : g < w.heap.size
  apart : g ∉ hblks A os A'
  map : os.map (·.c) = h.cells
  own : OHs w A c A' c' os h.roots
  los : ∀ b ∈ hblks A os A', lo ≤ b
section
variable {lo : Nat} {w w' : World} {g : Nat} {h : HeapM} {A A' : Option Addr} {c c' : Nat} {os : List OCell}
theorem PHx.oh (p : PHx lo w g h A c A' c' os) : OH lo w (.agg #[.slice A h.cells.length c, .slice A' h.roots.length c']) h := ⟨A, c, A', c', os, rfl, p.map, p.own, p.los⟩
theorem PHx.gA (p : PHx lo w g h A c A' c' os) : g ∉ blk A := fun hc => p.apart (List.mem_append.2 (.inl (List.mem_append.2 (.inl hc))))
theorem PHx.gR (p : PHx lo w g h A c A' c' os) : g ∉ blk A' := fun hc => p.apart (List.mem_append.2 (.inr hc))
theorem PHx.gO (p : PHx lo w g h A c A' c' os) {o : OCell} (ho : o ∈ os) : g ∉ blk o.A := fun hc => p.apart (List.mem_append.2 (.inl (List.mem_append.2 (.inr (mem_blks ho hc)))))
theorem PHx.below (p : PHx lo w g h A c A' c' os) (hb : Below w.heap.size w w') : PHx lo w' g h A c A' c' os :=
  ⟨cell_below p.q0 hb, cell_below p.q1 hb, fun o => ((bcell hb).2.1 g o p.lt).trans (p.qf o), p.lo_, Nat.lt_of_lt_of_le p.lt hb.size, p.apart, p.map, p.own.below hb, p.los⟩
theorem PHx.mk_ (hm : os.map (·.c) = h.cells) (ho : OHs w A c A' c' os h.roots) (hlo : ∀ b ∈ hblks A os A', lo ≤ b) (hw : lo ≤ w.heap.size) (T : TypeId) :
    PHx lo (w.alloc (.cells #[.slice A h.cells.length c, .slice A' h.roots.length c'] T)) w.heap.size h A c A' c' os :=
  ⟨by simp [go_sem], by simp [go_sem], fun o => by simp [go_sem], hw, by simp, fun hc' => by have := ho.lt _ hc'; omega, hm, ho.below (by repeat (first | ((with_reducible refine Below.setc ?_ ?_ _); focus (first | omega | (simp; done) | (simp; omega))) | ((with_reducible refine Below.allocc ?_ ?_ _); focus (first | omega | (simp; done) | (simp; omega))) | (with_reducible refine Below.drew ?_) | (with_reducible refine Below.drewn ?_) | (with_reducible assumption) | (with_reducible exact Below.refl _ _) | ((with_reducible refine Below.stepp (by with_reducible assumption) ?_ ?_); focus (first | omega | (simp; done) | (simp; omega))))), hlo⟩
theorem OHs.nd_AR (p : OHs w A c A' c' os h.roots) : ∀ b ∈ blk A', b ∉ blk A ++ blks os := fun b hb hc => by
  have := p.nodup
  rw [List.nodup_append] at this
  exact this.2.2 b hc b hb rfl
/-- A root is written. -/
theorem PHx.root_ {b : Nat} (p : PHx lo w g h A c (some ⟨b, 0, none⟩) c' os) (k : Nat) (x : Int) : PHx lo (w.setCell ⟨b, k, none⟩ (.int .i64 x)) g ⟨h.cells, h.roots.set k x⟩ A c (some ⟨b, 0, none⟩) c' os := by
  have hgb : g ≠ b := fun e => p.gR (by simp [blk, e])
  have hOn : Only (blk (some ⟨b, 0, none⟩)) w (w.setCell ⟨b, k, none⟩ (.int .i64 x)) := (Only.refl _ _).setCell (.inl (by simp [blk])) _
  refine ⟨hOn.cell p.q0 p.gR, by rw [List.length_set]; exact hOn.cell p.q1 p.gR, fun o => (hOn.frozenAt g o p.lt p.gR).trans (p.qf o), p.lo_, Nat.lt_of_lt_of_le p.lt hOn.size, p.apart, p.map, ⟨?_, p.own.roots.set_ k x, p.own.nodup, p.own.clen, by rw [List.length_set]; exact p.own.rlen⟩, p.los⟩
  exact p.own.cells.keep fun b' hb' => hOn.block b' (p.own.cells.lt b' hb') fun hc => OHs.nd_AR p.own b' hc hb'
/-- The number of a used cell is written. -/
theorem PHx.data_ {b : Nat} (p : PHx lo w g h (some ⟨b, 0, none⟩) c A' c' os) {k : Nat} {o : OCell} (ho : os[k]? = some o) (x : Int) : PHx lo (w.setCell ⟨b, k * 3 + 1, none⟩ (.int .i64 x)) g ⟨h.cells.set k ⟨o.c.used, x, o.c.refs⟩, h.roots⟩ (some ⟨b, 0, none⟩) c A' c' (os.set k ⟨⟨o.c.used, x, o.c.refs⟩, o.A, o.cap⟩) := by
  have hOn : Only (blk (some ⟨b, 0, none⟩)) w (w.setCell ⟨b, k * 3 + 1, none⟩ (.int .i64 x)) := (Only.refl _ _).setCell (.inl (by simp [blk])) _
  have hbl : blks (os.set k ⟨⟨o.c.used, x, o.c.refs⟩, o.A, o.cap⟩) = blks os := blks_set ho rfl
  have hC := p.own.cells.set1 k o x ho
  refine ⟨by rw [List.length_set]; exact hOn.cell p.q0 p.gA, hOn.cell p.q1 p.gA, fun o => (hOn.frozenAt g o p.lt p.gA).trans (p.qf o), p.lo_, Nat.lt_of_lt_of_le p.lt hOn.size, by unfold hblks; rw [hbl]; exact p.apart, by rw [List.map_set, p.map], ⟨hC, ?_, by rw [hbl]; exact p.own.nodup, by rw [List.length_set]; exact p.own.clen, p.own.rlen⟩, by unfold hblks; rw [hbl]; exact p.los⟩
  exact p.own.roots.only hOn fun b' hb' hc => OHs.nd_AR p.own b' hb' (List.mem_append.2 (.inl hc))
/-- A reference of a cell is written. -/
theorem PHx.ref_ (p : PHx lo w g h A c A' c' os) {k : Nat} {o : OCell} (ho : os[k]? = some o) {b : Nat} (hoA : o.A = some ⟨b, 0, none⟩) (j : Nat) (x : Int) : PHx lo (w.setCell ⟨b, j, none⟩ (.int .i64 x)) g ⟨h.cells.set k ⟨o.c.used, o.c.data, o.c.refs.set j x⟩, h.roots⟩ A c A' c' (os.set k ⟨⟨o.c.used, o.c.data, o.c.refs.set j x⟩, o.A, o.cap⟩) := by
  have hmem := List.mem_of_getElem? ho
  have hb1 : b ∈ blk o.A := by rw [hoA]; simp [blk]
  have hOn : Only (blk o.A) w (w.setCell ⟨b, j, none⟩ (.int .i64 x)) := (Only.refl _ _).setCell (.inl hb1) _
  have hbl : blks (os.set k ⟨⟨o.c.used, o.c.data, o.c.refs.set j x⟩, o.A, o.cap⟩) = blks os := blks_set ho rfl
  have hnd := (mk_nd0 p.own.nodup)
  have hr := (p.own.cells.2 o hmem).1
  rw [hoA] at hr
  have hr2 : OF 3 fi (w.setCell ⟨b, j, none⟩ (.int .i64 x)) o.A o.cap (o.c.refs.set j x) := by rw [hoA]; exact hr.set_ j x
  have hC := p.own.cells.refs_ hnd k o ho (rs := o.c.refs.set j x) (List.length_set) hOn hr2
  refine ⟨by rw [List.length_set]; exact hOn.cell p.q0 (p.gO hmem), hOn.cell p.q1 (p.gO hmem), fun o' => (hOn.frozenAt g o' p.lt (p.gO hmem)).trans (p.qf o'), p.lo_, Nat.lt_of_lt_of_le p.lt hOn.size, by unfold hblks; rw [hbl]; exact p.apart, by rw [List.map_set, p.map], ⟨hC, ?_, by rw [hbl]; exact p.own.nodup, by rw [List.length_set]; exact p.own.clen, p.own.rlen⟩, by unfold hblks; rw [hbl]; exact p.los⟩
  exact p.own.roots.only hOn fun b' hb' hc => OHs.nd_AR p.own b' hb' (List.mem_append.2 (.inr (mem_blks hmem hc)))
theorem place_own {root ci : Int} {P : Option Addr} (p : PHx lo w g h A c A' c' os) (hok : placeOk h root ci = true) (hc0 : 0 ≤ ci) (hP : ∃ b o Ar n cr b2 o2, A = some ⟨b, o, none⟩ ∧ 0 ≤ rootAt h root ∧ w.cell? ⟨b, o + (rootAt h root).toNat * 3 + 2, none⟩ = some (.slice Ar n cr) ∧ Ar = some ⟨b2, o2, none⟩ ∧ P = some ⟨b2, o2 + ci.toNat, none⟩) :
    ∃ oo b2, os[(rootAt h root).toNat]? = some oo ∧ oo.A = some ⟨b2, 0, none⟩ ∧ P = some ⟨b2, ci.toNat, none⟩ ∧ oo.c.refs[ci.toNat]? = some (refOf h root ci) ∧ 0 ≤ rootAt h root := by
  obtain ⟨b, o, Ar, n, cr, b2, o2, hA, h0, hcell, hAr, hPe⟩ := hP
  unfold placeOk at hok
  simp only [Bool.and_eq_true, decide_eq_true_eq] at hok
  have hk : ∃ d, h.cells[(rootAt h root).toNat]? = some d := by
    cases hd : h.cells[(rootAt h root).toNat]? with
    | none => have := hok.2; simp [refsAt, hd] at this; omega
    | some d => exact ⟨d, rfl⟩
  obtain ⟨d, hd⟩ := hk
  have hlt := hok.2
  rw [refsAt_of hd] at hlt
  have hd2 := hd
  rw [← p.map, List.getElem?_map] at hd2
  obtain ⟨oo, hoo, rfl⟩ := Option.map_eq_some_iff.1 hd2
  obtain ⟨gA, hgA, d0, d1, d2, _⟩ := p.own.cells.at_ hoo
  rw [hA] at hgA
  injection hgA with hgA
  injection hgA with e1 e2
  subst e1; subst e2
  rw [show 0 + (rootAt h root).toNat * 3 + 2 = (rootAt h root).toNat * 3 + 2 by omega, d2] at hcell
  injection hcell with hcell
  injection hcell with e3 e4 e5
  obtain ⟨b3, hb3, _⟩ := (p.own.cells.2 oo (List.mem_of_getElem? hoo)).1.some_ (j := ci.toNat) (by omega)
  rw [e3, hAr] at hb3
  injection hb3 with hb3
  injection hb3 with e6 e7
  subst e6; subst e7
  refine ⟨oo, b2, hoo, by rw [e3, hAr], by rw [hPe, Nat.zero_add], ?_, h0⟩
  unfold refOf
  rw [refsAt_of hd, List.getElem?_eq_getElem (by omega : ci.toNat < oo.c.refs.length)]
end
set_option maxHeartbeats 400000 in
theorem run6_any (lo g : Nat) (h : HeapM) (A A' : Option Addr) (c c' : Nat) (os : List OCell) (o : CmdM) (w : World) (p : PHx lo w g h A c A' c' os) (ha0 : 0 ≤ o.a) (ha1 : o.a < h.roots.length) (hlt : ∀ r ∈ h.roots, r < h.cells.length) : Calls Try.prog 179 #[.pointer (some ⟨g, 0, none⟩), .agg #[.int .i64 o.op, .int .i64 o.a, .int .i64 o.b, .int .i64 o.c]] w fun e w' => e = .returned (.tuple #[]) ∧ PHx lo w' g ⟨h.cells, h.roots.set o.a.toNat (-1)⟩ A c A' c' os ∧ Only (blk A') w w' := by
  obtain ⟨b, rfl, hb⟩ := p.own.roots.some_ (j := o.a.toNat) (by omega)
  have pb := p.below (w' := (w.alloc (.cells #[.int .i64 o.op, .int .i64 o.a, .int .i64 o.b, .int .i64 o.c] 47))) (by repeat (first | ((with_reducible refine Below.setc ?_ ?_ _); focus (first | omega | (simp; done) | (simp; omega))) | ((with_reducible refine Below.allocc ?_ ?_ _); focus (first | omega | (simp; done) | (simp; omega))) | (with_reducible refine Below.drew ?_) | (with_reducible refine Below.drewn ?_) | (with_reducible assumption) | (with_reducible exact Below.refl _ _) | ((with_reducible refine Below.stepp (by with_reducible assumption) ?_ ?_); focus (first | omega | (simp; done) | (simp; omega))))); have k0 : (w.alloc (.cells #[.int .i64 o.op, .int .i64 o.a, .int .i64 o.b, .int .i64 o.c] 47)).cell? ⟨w.heap.size, 0, none⟩ = some (.int .i64 o.op) := (by simp [go_sem]); have k1 : (w.alloc (.cells #[.int .i64 o.op, .int .i64 o.a, .int .i64 o.b, .int .i64 o.c] 47)).cell? ⟨w.heap.size, 1, none⟩ = some (.int .i64 o.a) := (by simp [go_sem]); have k2 : (w.alloc (.cells #[.int .i64 o.op, .int .i64 o.a, .int .i64 o.b, .int .i64 o.c] 47)).cell? ⟨w.heap.size, 2, none⟩ = some (.int .i64 o.b) := (by simp [go_sem]); have k3 : (w.alloc (.cells #[.int .i64 o.op, .int .i64 o.a, .int .i64 o.b, .int .i64 o.c] 47)).cell? ⟨w.heap.size, 3, none⟩ = some (.int .i64 o.c) := (by simp [go_sem]); have HB : Hid (Below w.heap.size w (w.alloc (.cells #[.int .i64 o.op, .int .i64 o.a, .int .i64 o.b, .int .i64 o.c] 47))) := (by unfold Hid; exact (by repeat (first | ((with_reducible refine Below.setc ?_ ?_ _); focus (first | omega | (simp; done) | (simp; omega))) | ((with_reducible refine Below.allocc ?_ ?_ _); focus (first | omega | (simp; done) | (simp; omega))) | (with_reducible refine Below.drew ?_) | (with_reducible refine Below.drewn ?_) | (with_reducible assumption) | (with_reducible exact Below.refl _ _) | ((with_reducible refine Below.stepp (by with_reducible assumption) ?_ ?_); focus (first | omega | (simp; done) | (simp; omega)))))); have HZ : Hid (w.heap.size < (w.alloc (.cells #[.int .i64 o.op, .int .i64 o.a, .int .i64 o.b, .int .i64 o.c] 47)).heap.size) := (by unfold Hid; simp); have q0 := pb.q0; have q1 := pb.q1; have hglt := p.lt
  obtain ⟨xa, gxa⟩ : ∃ xa, h.roots[o.a.toNat]? = some xa := ⟨_, List.getElem?_eq_getElem (by omega)⟩
  have ma : (w.alloc (.cells #[.int .i64 o.op, .int .i64 o.a, .int .i64 o.b, .int .i64 o.c] 47)).cell? ⟨b, o.a.toNat, none⟩ = some (.int .i64 xa) := pb.own.roots.cell gxa
  have f := pb.own.roots.frozen o.a.toNat
  have H := Lib.hid pb
  clear gxa p pb hlt
  go_enter Try.func179, Try.ntmps179
  go_wp2_with fail
  generalize (w.alloc (.cells #[.int .i64 o.op, .int .i64 o.a, .int .i64 o.b, .int .i64 o.c] 47)) = W at *
  go_still_tail 7, (by kernel_rfl)
  change wpList _ _ _ _ _ W.drew
  go_wp2
  go_end0
  exact ⟨rfl, (H.out.below (Below.refl _ _).drew).root_ o.a.toNat (-1), ((Only.of_below HB.out).drew).setCell (.inl (by simp [blk])) _⟩
set_option maxHeartbeats 400000 in
theorem run5_any (lo g : Nat) (h : HeapM) (A A' : Option Addr) (c c' : Nat) (os : List OCell) (o : CmdM) (w : World) (p : PHx lo w g h A c A' c' os) (ha0 : 0 ≤ o.a) (ha1 : o.a < h.roots.length) (hlt : ∀ r ∈ h.roots, r < h.cells.length) (hb0 : 0 ≤ o.b) (hb1 : o.b < h.roots.length) : Calls Try.prog 178 #[.pointer (some ⟨g, 0, none⟩), .agg #[.int .i64 o.op, .int .i64 o.a, .int .i64 o.b, .int .i64 o.c]] w fun e w' => e = .returned (.tuple #[]) ∧ PHx lo w' g ⟨h.cells, h.roots.set o.a.toNat (rootAt h o.b)⟩ A c A' c' os ∧ Only (blk A') w w' := by
  obtain ⟨b, rfl, hb⟩ := p.own.roots.some_ (j := o.a.toNat) (by omega)
  have pb := p.below (w' := (w.alloc (.cells #[.int .i64 o.op, .int .i64 o.a, .int .i64 o.b, .int .i64 o.c] 47))) (by repeat (first | ((with_reducible refine Below.setc ?_ ?_ _); focus (first | omega | (simp; done) | (simp; omega))) | ((with_reducible refine Below.allocc ?_ ?_ _); focus (first | omega | (simp; done) | (simp; omega))) | (with_reducible refine Below.drew ?_) | (with_reducible refine Below.drewn ?_) | (with_reducible assumption) | (with_reducible exact Below.refl _ _) | ((with_reducible refine Below.stepp (by with_reducible assumption) ?_ ?_); focus (first | omega | (simp; done) | (simp; omega))))); have k0 : (w.alloc (.cells #[.int .i64 o.op, .int .i64 o.a, .int .i64 o.b, .int .i64 o.c] 47)).cell? ⟨w.heap.size, 0, none⟩ = some (.int .i64 o.op) := (by simp [go_sem]); have k1 : (w.alloc (.cells #[.int .i64 o.op, .int .i64 o.a, .int .i64 o.b, .int .i64 o.c] 47)).cell? ⟨w.heap.size, 1, none⟩ = some (.int .i64 o.a) := (by simp [go_sem]); have k2 : (w.alloc (.cells #[.int .i64 o.op, .int .i64 o.a, .int .i64 o.b, .int .i64 o.c] 47)).cell? ⟨w.heap.size, 2, none⟩ = some (.int .i64 o.b) := (by simp [go_sem]); have k3 : (w.alloc (.cells #[.int .i64 o.op, .int .i64 o.a, .int .i64 o.b, .int .i64 o.c] 47)).cell? ⟨w.heap.size, 3, none⟩ = some (.int .i64 o.c) := (by simp [go_sem]); have HB : Hid (Below w.heap.size w (w.alloc (.cells #[.int .i64 o.op, .int .i64 o.a, .int .i64 o.b, .int .i64 o.c] 47))) := (by unfold Hid; exact (by repeat (first | ((with_reducible refine Below.setc ?_ ?_ _); focus (first | omega | (simp; done) | (simp; omega))) | ((with_reducible refine Below.allocc ?_ ?_ _); focus (first | omega | (simp; done) | (simp; omega))) | (with_reducible refine Below.drew ?_) | (with_reducible refine Below.drewn ?_) | (with_reducible assumption) | (with_reducible exact Below.refl _ _) | ((with_reducible refine Below.stepp (by with_reducible assumption) ?_ ?_); focus (first | omega | (simp; done) | (simp; omega)))))); have HZ : Hid (w.heap.size < (w.alloc (.cells #[.int .i64 o.op, .int .i64 o.a, .int .i64 o.b, .int .i64 o.c] 47)).heap.size) := (by unfold Hid; simp); have q0 := pb.q0; have q1 := pb.q1; have hglt := p.lt
  obtain ⟨xa, gxa⟩ : ∃ xa, h.roots[o.a.toNat]? = some xa := ⟨_, List.getElem?_eq_getElem (by omega)⟩
  obtain ⟨xb, gxb⟩ : ∃ xb, h.roots[o.b.toNat]? = some xb := ⟨_, List.getElem?_eq_getElem (by omega)⟩
  have ma : (w.alloc (.cells #[.int .i64 o.op, .int .i64 o.a, .int .i64 o.b, .int .i64 o.c] 47)).cell? ⟨b, o.a.toNat, none⟩ = some (.int .i64 xa) := pb.own.roots.cell gxa
  have mb : (w.alloc (.cells #[.int .i64 o.op, .int .i64 o.a, .int .i64 o.b, .int .i64 o.c] 47)).cell? ⟨b, o.b.toNat, none⟩ = some (.int .i64 xb) := pb.own.roots.cell gxb
  have f := pb.own.roots.frozen o.a.toNat
  have HRT := Lib.hid (rootAt_of gxb)
  have H := Lib.hid pb
  clear gxa gxb p pb hlt
  go_enter Try.func178, Try.ntmps178
  go_wp2_with fail
  generalize (w.alloc (.cells #[.int .i64 o.op, .int .i64 o.a, .int .i64 o.b, .int .i64 o.c] 47)) = W at *
  go_still_tail 15, (by kernel_rfl)
  change wpList _ _ _ _ _ W.drew
  go_wp2
  go_end0
  rw [HRT.out]
  exact ⟨rfl, (H.out.below (Below.refl _ _).drew).root_ o.a.toNat xb, ((Only.of_below HB.out).drew).setCell (.inl (by simp [blk])) _⟩
set_option maxHeartbeats 400000 in
theorem run8_any (lo g : Nat) (h : HeapM) (A A' : Option Addr) (c c' : Nat) (os : List OCell) (o : CmdM) (w : World) (p : PHx lo w g h A c A' c' os) (ha0 : 0 ≤ o.a) (ha1 : o.a < h.roots.length) (hlt : ∀ r ∈ h.roots, r < h.cells.length) (h0 : 0 ≤ rootAt h o.a) : Calls Try.prog 181 #[.pointer (some ⟨g, 0, none⟩), .agg #[.int .i64 o.op, .int .i64 o.a, .int .i64 o.b, .int .i64 o.c]] w fun e w' => e = .returned (.tuple #[]) ∧ (∃ os', PHx lo w' g ⟨setData h.cells (rootAt h o.a).toNat o.b, h.roots⟩ A c A' c' os') ∧ Only (blk A) w w' := by
  obtain ⟨b, rfl, hb⟩ := p.own.roots.some_ (j := o.a.toNat) (by omega)
  have pb := p.below (w' := (w.alloc (.cells #[.int .i64 o.op, .int .i64 o.a, .int .i64 o.b, .int .i64 o.c] 47))) (by repeat (first | ((with_reducible refine Below.setc ?_ ?_ _); focus (first | omega | (simp; done) | (simp; omega))) | ((with_reducible refine Below.allocc ?_ ?_ _); focus (first | omega | (simp; done) | (simp; omega))) | (with_reducible refine Below.drew ?_) | (with_reducible refine Below.drewn ?_) | (with_reducible assumption) | (with_reducible exact Below.refl _ _) | ((with_reducible refine Below.stepp (by with_reducible assumption) ?_ ?_); focus (first | omega | (simp; done) | (simp; omega))))); have k0 : (w.alloc (.cells #[.int .i64 o.op, .int .i64 o.a, .int .i64 o.b, .int .i64 o.c] 47)).cell? ⟨w.heap.size, 0, none⟩ = some (.int .i64 o.op) := (by simp [go_sem]); have k1 : (w.alloc (.cells #[.int .i64 o.op, .int .i64 o.a, .int .i64 o.b, .int .i64 o.c] 47)).cell? ⟨w.heap.size, 1, none⟩ = some (.int .i64 o.a) := (by simp [go_sem]); have k2 : (w.alloc (.cells #[.int .i64 o.op, .int .i64 o.a, .int .i64 o.b, .int .i64 o.c] 47)).cell? ⟨w.heap.size, 2, none⟩ = some (.int .i64 o.b) := (by simp [go_sem]); have k3 : (w.alloc (.cells #[.int .i64 o.op, .int .i64 o.a, .int .i64 o.b, .int .i64 o.c] 47)).cell? ⟨w.heap.size, 3, none⟩ = some (.int .i64 o.c) := (by simp [go_sem]); have HB : Hid (Below w.heap.size w (w.alloc (.cells #[.int .i64 o.op, .int .i64 o.a, .int .i64 o.b, .int .i64 o.c] 47))) := (by unfold Hid; exact (by repeat (first | ((with_reducible refine Below.setc ?_ ?_ _); focus (first | omega | (simp; done) | (simp; omega))) | ((with_reducible refine Below.allocc ?_ ?_ _); focus (first | omega | (simp; done) | (simp; omega))) | (with_reducible refine Below.drew ?_) | (with_reducible refine Below.drewn ?_) | (with_reducible assumption) | (with_reducible exact Below.refl _ _) | ((with_reducible refine Below.stepp (by with_reducible assumption) ?_ ?_); focus (first | omega | (simp; done) | (simp; omega)))))); have HZ : Hid (w.heap.size < (w.alloc (.cells #[.int .i64 o.op, .int .i64 o.a, .int .i64 o.b, .int .i64 o.c] 47)).heap.size) := (by unfold Hid; simp); have q0 := pb.q0; have q1 := pb.q1; have hglt := p.lt
  obtain ⟨xa, gxa⟩ : ∃ xa, h.roots[o.a.toNat]? = some xa := ⟨_, List.getElem?_eq_getElem (by omega)⟩
  have hra := rootAt_of gxa
  rw [hra] at h0
  have hxl := hlt xa (List.mem_of_getElem? gxa)
  obtain ⟨d, gd⟩ : ∃ d, h.cells[xa.toNat]? = some d := ⟨_, List.getElem?_eq_getElem (by omega)⟩
  have gd2 := gd
  rw [← pb.map, List.getElem?_map] at gd2
  obtain ⟨oo, hoo, rfl⟩ := Option.map_eq_some_iff.1 gd2
  obtain ⟨gA, rfl, d0, d1, d2, hgA⟩ := pb.own.cells.at_ hoo
  have ma : (w.alloc (.cells #[.int .i64 o.op, .int .i64 o.a, .int .i64 o.b, .int .i64 o.c] 47)).cell? ⟨b, o.a.toNat, none⟩ = some (.int .i64 xa) := pb.own.roots.cell gxa
  have f := pb.own.cells.frozen (xa.toNat * 3 + 1)
  have H := Lib.hid (pb.data_ hoo o.b)
  have HR : Hid (setData h.cells (rootAt h o.a).toNat o.b = h.cells.set xa.toNat ⟨oo.c.used, o.b, oo.c.refs⟩) := by unfold Hid setData; rw [hra, gd]
  have H2 := Lib.hid pb
  clear gxa gd gd2 p pb hlt d0 d2 hra hoo
  go_enter Try.func181, Try.ntmps181
  go_wp2_with fail
  generalize (w.alloc (.cells #[.int .i64 o.op, .int .i64 o.a, .int .i64 o.b, .int .i64 o.c] 47)) = W at *
  go_still_tail 16, (by kernel_rfl)
  change wpList _ _ _ _ _ W.drew
  go_wp2
  go_end0
  rw [HR.out]
  exact ⟨rfl, ⟨_, H.out.below (Below.refl _ _).drew⟩, ((Only.of_below HB.out).drew).setCell (.inl (by simp [blk])) _⟩
set_option maxHeartbeats 400000 in
theorem run2_any (lo g : Nat) (h : HeapM) (A A' : Option Addr) (c c' : Nat) (os : List OCell) (o : CmdM) (w : World) (p : PHx lo w g h A c A' c' os) (ha0 : 0 ≤ o.a) (ha1 : o.a < h.roots.length) (hlt : ∀ r ∈ h.roots, r < h.cells.length) (hb0 : 0 ≤ o.b) (hb1 : o.b < h.roots.length) (hc0 : 0 ≤ o.c) (hok : placeOk h o.b o.c = true) : Calls Try.prog 175 #[.pointer (some ⟨g, 0, none⟩), .agg #[.int .i64 o.op, .int .i64 o.a, .int .i64 o.b, .int .i64 o.c]] w fun e w' => e = .returned (.tuple #[]) ∧ PHx lo w' g ⟨h.cells, h.roots.set o.a.toNat (refOf h o.b o.c)⟩ A c A' c' os ∧ Only (blk A') w w' := by
  obtain ⟨b, rfl, hb⟩ := p.own.roots.some_ (j := o.a.toNat) (by omega)
  have pb := p.below (w' := (w.alloc (.cells #[.int .i64 o.op, .int .i64 o.a, .int .i64 o.b, .int .i64 o.c] 47))) (by repeat (first | ((with_reducible refine Below.setc ?_ ?_ _); focus (first | omega | (simp; done) | (simp; omega))) | ((with_reducible refine Below.allocc ?_ ?_ _); focus (first | omega | (simp; done) | (simp; omega))) | (with_reducible refine Below.drew ?_) | (with_reducible refine Below.drewn ?_) | (with_reducible assumption) | (with_reducible exact Below.refl _ _) | ((with_reducible refine Below.stepp (by with_reducible assumption) ?_ ?_); focus (first | omega | (simp; done) | (simp; omega))))); have k0 : (w.alloc (.cells #[.int .i64 o.op, .int .i64 o.a, .int .i64 o.b, .int .i64 o.c] 47)).cell? ⟨w.heap.size, 0, none⟩ = some (.int .i64 o.op) := (by simp [go_sem]); have k1 : (w.alloc (.cells #[.int .i64 o.op, .int .i64 o.a, .int .i64 o.b, .int .i64 o.c] 47)).cell? ⟨w.heap.size, 1, none⟩ = some (.int .i64 o.a) := (by simp [go_sem]); have k2 : (w.alloc (.cells #[.int .i64 o.op, .int .i64 o.a, .int .i64 o.b, .int .i64 o.c] 47)).cell? ⟨w.heap.size, 2, none⟩ = some (.int .i64 o.b) := (by simp [go_sem]); have k3 : (w.alloc (.cells #[.int .i64 o.op, .int .i64 o.a, .int .i64 o.b, .int .i64 o.c] 47)).cell? ⟨w.heap.size, 3, none⟩ = some (.int .i64 o.c) := (by simp [go_sem]); have HB : Hid (Below w.heap.size w (w.alloc (.cells #[.int .i64 o.op, .int .i64 o.a, .int .i64 o.b, .int .i64 o.c] 47))) := (by unfold Hid; exact (by repeat (first | ((with_reducible refine Below.setc ?_ ?_ _); focus (first | omega | (simp; done) | (simp; omega))) | ((with_reducible refine Below.allocc ?_ ?_ _); focus (first | omega | (simp; done) | (simp; omega))) | (with_reducible refine Below.drew ?_) | (with_reducible refine Below.drewn ?_) | (with_reducible assumption) | (with_reducible exact Below.refl _ _) | ((with_reducible refine Below.stepp (by with_reducible assumption) ?_ ?_); focus (first | omega | (simp; done) | (simp; omega)))))); have HZ : Hid (w.heap.size < (w.alloc (.cells #[.int .i64 o.op, .int .i64 o.a, .int .i64 o.b, .int .i64 o.c] 47)).heap.size) := (by unfold Hid; simp); have q0 := pb.q0; have q1 := pb.q1; have hglt := p.lt
  obtain ⟨xa, gxa⟩ : ∃ xa, h.roots[o.a.toNat]? = some xa := ⟨_, List.getElem?_eq_getElem (by omega)⟩
  have HGX := Lib.hid gxa
  have H := Lib.hid pb
  have HOK := Lib.hid hok
  have HLT := Lib.hid hlt
  clear gxa p pb hlt hok
  go_enter Try.func175, Try.ntmps175
  go_wp2_with fail
  have hS : ∀ W, Below ((w.alloc (.cells #[.int .i64 o.op, .int .i64 o.a, .int .i64 o.b, .int .i64 o.c] 47))).heap.size (w.alloc (.cells #[.int .i64 o.op, .int .i64 o.a, .int .i64 o.b, .int .i64 o.c] 47)) W → W.cell? ⟨g, 0, none⟩ = some (.slice A h.cells.length c) ∧ W.cell? ⟨g, 1, none⟩ = some (.slice (some ⟨b, 0, none⟩) h.roots.length c') ∧ W.cell? ⟨w.heap.size, 2, none⟩ = some (.int .i64 o.b) ∧ W.cell? ⟨w.heap.size, 3, none⟩ = some (.int .i64 o.c) := fun W hW => ⟨cell_below q0 hW, cell_below q1 hW, cell_below k2 hW, cell_below k3 hW⟩
  have hrhs := H.out.own.rhs H.out.map
  go_region_held3 (fun w' => w'.cell? ⟨g, 0, none⟩ = some (.slice A h.cells.length c) ∧ w'.cell? ⟨g, 1, none⟩ = some (.slice (some ⟨b, 0, none⟩) h.roots.length c') ∧ w'.cell? ⟨w.heap.size, 2, none⟩ = some (.int .i64 o.b) ∧ w'.cell? ⟨w.heap.size, 3, none⟩ = some (.int .i64 o.c))
    (first | exact hS _ (by repeat (first | ((with_reducible refine Below.setc ?_ ?_ _); focus (first | omega | (simp; done) | (simp; omega))) | ((with_reducible refine Below.allocc ?_ ?_ _); focus (first | omega | (simp; done) | (simp; omega))) | (with_reducible refine Below.drew ?_) | (with_reducible refine Below.drewn ?_) | (with_reducible assumption) | (with_reducible exact Below.refl _ _) | ((with_reducible refine Below.stepp (by with_reducible assumption) ?_ ?_); focus (first | omega | (simp; done) | (simp; omega))))))
    (first
      | (go_at_call 151; (with_reducible refine (place_any A (some ⟨b, 0, none⟩) c c' h o.b o.c _ (hrhs.below (by repeat (first | ((with_reducible refine Below.setc ?_ ?_ _); focus (first | omega | (simp; done) | (simp; omega))) | ((with_reducible refine Below.allocc ?_ ?_ _); focus (first | omega | (simp; done) | (simp; omega))) | (with_reducible refine Below.drew ?_) | (with_reducible refine Below.drewn ?_) | (with_reducible assumption) | (with_reducible exact Below.refl _ _) | ((with_reducible refine Below.stepp (by with_reducible assumption) ?_ ?_); focus (first | omega | (simp; done) | (simp; omega)))))) hb0 hb1 HLT.out hc0).mono ?_); rw [HOK.out]; rintro e w1 ⟨P, rfl, hP, hB1⟩; (have z_hB1 := Below.size hB1); (try simp only [World.size_alloc, World.size_setCell, World.size_drew, World.heap_drewN] at z_hB1); obtain ⟨oo, b2, hoo, hA2, rfl, hx, h0⟩ := place_own (H.out.below (by repeat (first | ((with_reducible refine Below.setc ?_ ?_ _); focus (first | omega | (simp; done) | (simp; omega))) | ((with_reducible refine Below.allocc ?_ ?_ _); focus (first | omega | (simp; done) | (simp; omega))) | (with_reducible refine Below.drew ?_) | (with_reducible refine Below.drewn ?_) | (with_reducible assumption) | (with_reducible exact Below.refl _ _) | ((with_reducible refine Below.stepp (by with_reducible assumption) ?_ ?_); focus (first | omega | (simp; done) | (simp; omega)))))) HOK.out hc0 (hP rfl); have hBW : Below ((w.alloc (.cells #[.int .i64 o.op, .int .i64 o.a, .int .i64 o.b, .int .i64 o.c] 47))).heap.size (w.alloc (.cells #[.int .i64 o.op, .int .i64 o.a, .int .i64 o.b, .int .i64 o.c] 47)) w1 := (by repeat (first | ((with_reducible refine Below.setc ?_ ?_ _); focus (first | omega | (simp; done) | (simp; omega))) | ((with_reducible refine Below.allocc ?_ ?_ _); focus (first | omega | (simp; done) | (simp; omega))) | (with_reducible refine Below.drew ?_) | (with_reducible refine Below.drewn ?_) | (with_reducible assumption) | (with_reducible exact Below.refl _ _) | ((with_reducible refine Below.stepp (by with_reducible assumption) ?_ ?_); focus (first | omega | (simp; done) | (simp; omega)))))))
  have h1 := H.out.below hBW
  have e1 := h1.q1
  have l1 := cell_below k1 hBW
  have hr2 := (h1.own.cells.2 oo (List.mem_of_getElem? hoo)).1
  rw [hA2] at hr2
  have m2 : w1.cell? ⟨b2, o.c.toNat, none⟩ = some (.int .i64 (refOf h o.b o.c)) := hr2.cell hx
  have ma : w1.cell? ⟨b, o.a.toNat, none⟩ = some (.int .i64 xa) := h1.own.roots.cell HGX.out
  have f := h1.own.roots.frozen o.a.toNat
  have H1 := Lib.hid h1
  have hO1 : Only (blk (some ⟨b, 0, none⟩)) w w1 := (Only.of_below HB.out).trans (Only.of_below hBW)
  clear hS hP hoo hr2 hx h1 q0 q1 k0 k1 k2 k3 hA2
  go_wp2
  go_still_tail 10, (by kernel_rfl)
  change wpList _ _ _ _ _ w1.drew
  go_wp2
  go_end0
  exact ⟨rfl, (H1.out.below (Below.refl _ _).drew).root_ o.a.toNat _, (hO1.drew).setCell (.inl (by simp [blk])) _⟩
set_option maxHeartbeats 400000 in
theorem run4_any (lo g : Nat) (h : HeapM) (A A' : Option Addr) (c c' : Nat) (os : List OCell) (o : CmdM) (w : World) (p : PHx lo w g h A c A' c' os) (ha0 : 0 ≤ o.a) (ha1 : o.a < h.roots.length) (hlt : ∀ r ∈ h.roots, r < h.cells.length) (hb0 : 0 ≤ o.b) (hb1 : o.b < h.roots.length) (hc0 : 0 ≤ o.c) (hok : placeOk h o.a o.c = true) : Calls Try.prog 177 #[.pointer (some ⟨g, 0, none⟩), .agg #[.int .i64 o.op, .int .i64 o.a, .int .i64 o.b, .int .i64 o.c]] w fun e w' => e = .returned (.tuple #[]) ∧ (∃ os', PHx lo w' g ⟨setRef h.cells (rootAt h o.a).toNat o.c.toNat (rootAt h o.b), h.roots⟩ A c A' c' os') ∧ Only (blks os) w w' := by
  obtain ⟨b, rfl, hb⟩ := p.own.roots.some_ (j := o.a.toNat) (by omega)
  have pb := p.below (w' := (w.alloc (.cells #[.int .i64 o.op, .int .i64 o.a, .int .i64 o.b, .int .i64 o.c] 47))) (by repeat (first | ((with_reducible refine Below.setc ?_ ?_ _); focus (first | omega | (simp; done) | (simp; omega))) | ((with_reducible refine Below.allocc ?_ ?_ _); focus (first | omega | (simp; done) | (simp; omega))) | (with_reducible refine Below.drew ?_) | (with_reducible refine Below.drewn ?_) | (with_reducible assumption) | (with_reducible exact Below.refl _ _) | ((with_reducible refine Below.stepp (by with_reducible assumption) ?_ ?_); focus (first | omega | (simp; done) | (simp; omega))))); have k0 : (w.alloc (.cells #[.int .i64 o.op, .int .i64 o.a, .int .i64 o.b, .int .i64 o.c] 47)).cell? ⟨w.heap.size, 0, none⟩ = some (.int .i64 o.op) := (by simp [go_sem]); have k1 : (w.alloc (.cells #[.int .i64 o.op, .int .i64 o.a, .int .i64 o.b, .int .i64 o.c] 47)).cell? ⟨w.heap.size, 1, none⟩ = some (.int .i64 o.a) := (by simp [go_sem]); have k2 : (w.alloc (.cells #[.int .i64 o.op, .int .i64 o.a, .int .i64 o.b, .int .i64 o.c] 47)).cell? ⟨w.heap.size, 2, none⟩ = some (.int .i64 o.b) := (by simp [go_sem]); have k3 : (w.alloc (.cells #[.int .i64 o.op, .int .i64 o.a, .int .i64 o.b, .int .i64 o.c] 47)).cell? ⟨w.heap.size, 3, none⟩ = some (.int .i64 o.c) := (by simp [go_sem]); have HB : Hid (Below w.heap.size w (w.alloc (.cells #[.int .i64 o.op, .int .i64 o.a, .int .i64 o.b, .int .i64 o.c] 47))) := (by unfold Hid; exact (by repeat (first | ((with_reducible refine Below.setc ?_ ?_ _); focus (first | omega | (simp; done) | (simp; omega))) | ((with_reducible refine Below.allocc ?_ ?_ _); focus (first | omega | (simp; done) | (simp; omega))) | (with_reducible refine Below.drew ?_) | (with_reducible refine Below.drewn ?_) | (with_reducible assumption) | (with_reducible exact Below.refl _ _) | ((with_reducible refine Below.stepp (by with_reducible assumption) ?_ ?_); focus (first | omega | (simp; done) | (simp; omega)))))); have HZ : Hid (w.heap.size < (w.alloc (.cells #[.int .i64 o.op, .int .i64 o.a, .int .i64 o.b, .int .i64 o.c] 47)).heap.size) := (by unfold Hid; simp); have q0 := pb.q0; have q1 := pb.q1; have hglt := p.lt
  obtain ⟨xb, gxb⟩ : ∃ xb, h.roots[o.b.toNat]? = some xb := ⟨_, List.getElem?_eq_getElem (by omega)⟩
  have HGX := Lib.hid gxb
  have H := Lib.hid pb
  have HOK := Lib.hid hok
  have HLT := Lib.hid hlt
  clear gxb p pb hlt hok
  go_enter Try.func177, Try.ntmps177
  go_wp2_with fail
  have hS : ∀ W, Below ((w.alloc (.cells #[.int .i64 o.op, .int .i64 o.a, .int .i64 o.b, .int .i64 o.c] 47))).heap.size (w.alloc (.cells #[.int .i64 o.op, .int .i64 o.a, .int .i64 o.b, .int .i64 o.c] 47)) W → W.cell? ⟨g, 0, none⟩ = some (.slice A h.cells.length c) ∧ W.cell? ⟨g, 1, none⟩ = some (.slice (some ⟨b, 0, none⟩) h.roots.length c') ∧ W.cell? ⟨w.heap.size, 1, none⟩ = some (.int .i64 o.a) ∧ W.cell? ⟨w.heap.size, 3, none⟩ = some (.int .i64 o.c) := fun W hW => ⟨cell_below q0 hW, cell_below q1 hW, cell_below k1 hW, cell_below k3 hW⟩
  have hrhs := H.out.own.rhs H.out.map
  go_region_held3 (fun w' => w'.cell? ⟨g, 0, none⟩ = some (.slice A h.cells.length c) ∧ w'.cell? ⟨g, 1, none⟩ = some (.slice (some ⟨b, 0, none⟩) h.roots.length c') ∧ w'.cell? ⟨w.heap.size, 1, none⟩ = some (.int .i64 o.a) ∧ w'.cell? ⟨w.heap.size, 3, none⟩ = some (.int .i64 o.c))
    (first | exact hS _ (by repeat (first | ((with_reducible refine Below.setc ?_ ?_ _); focus (first | omega | (simp; done) | (simp; omega))) | ((with_reducible refine Below.allocc ?_ ?_ _); focus (first | omega | (simp; done) | (simp; omega))) | (with_reducible refine Below.drew ?_) | (with_reducible refine Below.drewn ?_) | (with_reducible assumption) | (with_reducible exact Below.refl _ _) | ((with_reducible refine Below.stepp (by with_reducible assumption) ?_ ?_); focus (first | omega | (simp; done) | (simp; omega))))))
    (first
      | (go_at_call 151; (with_reducible refine (place_any A (some ⟨b, 0, none⟩) c c' h o.a o.c _ (hrhs.below (by repeat (first | ((with_reducible refine Below.setc ?_ ?_ _); focus (first | omega | (simp; done) | (simp; omega))) | ((with_reducible refine Below.allocc ?_ ?_ _); focus (first | omega | (simp; done) | (simp; omega))) | (with_reducible refine Below.drew ?_) | (with_reducible refine Below.drewn ?_) | (with_reducible assumption) | (with_reducible exact Below.refl _ _) | ((with_reducible refine Below.stepp (by with_reducible assumption) ?_ ?_); focus (first | omega | (simp; done) | (simp; omega)))))) ha0 ha1 HLT.out hc0).mono ?_); rw [HOK.out]; rintro e w1 ⟨P, rfl, hP, hB1⟩; (have z_hB1 := Below.size hB1); (try simp only [World.size_alloc, World.size_setCell, World.size_drew, World.heap_drewN] at z_hB1); obtain ⟨oo, b2, hoo, hA2, rfl, hx, h0⟩ := place_own (H.out.below (by repeat (first | ((with_reducible refine Below.setc ?_ ?_ _); focus (first | omega | (simp; done) | (simp; omega))) | ((with_reducible refine Below.allocc ?_ ?_ _); focus (first | omega | (simp; done) | (simp; omega))) | (with_reducible refine Below.drew ?_) | (with_reducible refine Below.drewn ?_) | (with_reducible assumption) | (with_reducible exact Below.refl _ _) | ((with_reducible refine Below.stepp (by with_reducible assumption) ?_ ?_); focus (first | omega | (simp; done) | (simp; omega)))))) HOK.out hc0 (hP rfl); have hBW : Below ((w.alloc (.cells #[.int .i64 o.op, .int .i64 o.a, .int .i64 o.b, .int .i64 o.c] 47))).heap.size (w.alloc (.cells #[.int .i64 o.op, .int .i64 o.a, .int .i64 o.b, .int .i64 o.c] 47)) w1 := (by repeat (first | ((with_reducible refine Below.setc ?_ ?_ _); focus (first | omega | (simp; done) | (simp; omega))) | ((with_reducible refine Below.allocc ?_ ?_ _); focus (first | omega | (simp; done) | (simp; omega))) | (with_reducible refine Below.drew ?_) | (with_reducible refine Below.drewn ?_) | (with_reducible assumption) | (with_reducible exact Below.refl _ _) | ((with_reducible refine Below.stepp (by with_reducible assumption) ?_ ?_); focus (first | omega | (simp; done) | (simp; omega)))))))
  have h1 := H.out.below hBW
  have e1 := h1.q1
  have l2 := cell_below k2 hBW
  have hr2 := (h1.own.cells.2 oo (List.mem_of_getElem? hoo)).1
  rw [hA2] at hr2
  have m2 : w1.cell? ⟨b2, o.c.toNat, none⟩ = some (.int .i64 (refOf h o.a o.c)) := hr2.cell hx
  have mb : w1.cell? ⟨b, o.b.toNat, none⟩ = some (.int .i64 xb) := h1.own.roots.cell HGX.out
  have f := hr2.frozen o.c.toNat
  have hcell : h.cells[(rootAt h o.a).toNat]? = some oo.c := by rw [← h1.map, List.getElem?_map, hoo]; rfl
  have HS : Hid (setRef h.cells (rootAt h o.a).toNat o.c.toNat (rootAt h o.b) = h.cells.set (rootAt h o.a).toNat ⟨oo.c.used, oo.c.data, oo.c.refs.set o.c.toNat xb⟩) := by unfold Hid setRef; rw [hcell, rootAt_of HGX.out]
  have H1 := Lib.hid ((h1.below (Below.refl _ _).drew).ref_ hoo hA2 o.c.toNat xb)
  have hb2 : b2 ∈ blks os := mem_blks (List.mem_of_getElem? hoo) (by rw [hA2]; simp [blk])
  have hO1 : Only (blks os) w w1 := (Only.of_below HB.out).trans (Only.of_below hBW)
  clear hS hP hoo hr2 hx h1 q0 q1 k0 k1 k2 k3 hA2 hcell
  go_wp2
  go_still_tail 10, (by kernel_rfl)
  change wpList _ _ _ _ _ w1.drew
  go_wp2
  go_end0
  rw [HS.out]
  exact ⟨rfl, ⟨_, H1.out⟩, (hO1.drew).setCell (.inl hb2) _⟩
end Go.Proofs.Ytkmfhadanbfadaa
