/- The program's copies of snapshots, of aged and of painted heaps. -/
import Derived.Test.YtdkhpmlimnfgpaaChecked
import Derived.Deep.RegionHeld3
import Derived.Deep.DeepCutAuto
import Derived.IntWalk
import Derived.Test.YtdkhpmlimnfgpaaCopy
namespace Go.Proofs.Ytdkhpmlimnfgpaa
open Go.RowKit
set_option maxRecDepth 100000
set_option linter.unusedSimpArgs false
set_option linter.unusedVariables false
theorem nd3_of {X Y Z : List Nat} (hx : X.Nodup) (hy : Y.Nodup) (hz : Z.Nodup) (h1 : ∀ g ∈ Y, g ∉ X) (h2 : ∀ g ∈ Z, g ∉ X) (h3 : ∀ g ∈ Z, g ∉ Y) : (X ++ Y ++ Z).Nodup := by
  rw [List.nodup_append, List.nodup_append]
  refine ⟨⟨hx, hy, fun a ha b hb e => h1 b hb (e ▸ ha)⟩, hz, fun a ha b hb e => ?_⟩
  subst e
  rcases List.mem_append.1 ha with ha | ha
  · exact h2 a hb ha
  · exact h3 a hb ha
/-- An object in memory: a snapshot or an aged heap behind a pointer, all of the call's own. -/
structure PTx (lo : Nat) (w : World) (g : Nat) (p : TwoM) (A : Option Addr) (c : Nat) (A' : Option Addr) (c' : Nat) (os : List OCell) (A2 : Option Addr) (c2 : Nat) (A3 : Option Addr) (c3 : Nat) : Prop where
  q0 : w.cell? ⟨g, 0, none⟩ = some (.slice A p.store.cells.length c)
  q1 : w.cell? ⟨g, 1, none⟩ = some (.slice A' p.store.roots.length c')
  q2 : w.cell? ⟨g, 2, none⟩ = some (.slice A2 p.x.length c2)
  q3 : w.cell? ⟨g, 3, none⟩ = some (.slice A3 p.y.length c3)
  qf : ∀ o, w.frozen? ⟨g, o, none⟩ = false
  lo_ : lo ≤ g
  lt : g < w.heap.size
  apart : g ∉ hblks A os A' ++ blk A2 ++ blk A3
  map : os.map (·.c) = p.store.cells
  own : OHs w A c A' c' os p.store.roots
  xs : OF 4 fb w A2 c2 p.x
  ys : OF 4 fb w A3 c3 p.y
  nd : (hblks A os A' ++ blk A2 ++ blk A3).Nodup
  los : ∀ b ∈ hblks A os A' ++ blk A2 ++ blk A3, lo ≤ b
  xl : p.x.length ≤ 9223372036854775807
  yl : p.y.length ≤ 9223372036854775807
def PTw (lo : Nat) (w : World) (g : Nat) (p : TwoM) : Prop := ∃ A c A' c' os A2 c2 A3 c3, PTx lo w g p A c A' c' os A2 c2 A3 c3
set_option maxHeartbeats 4000000 in
theorem recording_any (v : Value) (p : TwoM) (w : World) (hv : RTw w v p) (hn : p.store.cells.length ≤ 1048576) (hr : ∀ d ∈ p.store.cells, d.refs.length ≤ 1048576) (hn2 : p.store.roots.length ≤ 1048576) (hn3 : p.x.length ≤ 1048576) (hn4 : p.y.length ≤ 1048576) :
    Calls Try.prog 72 #[v] w fun e w' => ∃ g, e = .returned (.pointer (some ⟨g, 0, none⟩)) ∧ PTw w.heap.size w' g p ∧ Below w.heap.size w w' := by
  obtain ⟨A, c, A', c', A2, c2, A3, c3, rfl, hh, hx, -, hy, -⟩ := hv
  have k0 : (w.alloc (.cells #[.slice A p.store.cells.length c, .slice A' p.store.roots.length c', .slice A2 p.x.length c2, .slice A3 p.y.length c3] 32)).cell? ⟨w.heap.size, 0, none⟩ = some (.slice A p.store.cells.length c) := by simp [go_sem]
  have k1 : (w.alloc (.cells #[.slice A p.store.cells.length c, .slice A' p.store.roots.length c', .slice A2 p.x.length c2, .slice A3 p.y.length c3] 32)).cell? ⟨w.heap.size, 1, none⟩ = some (.slice A' p.store.roots.length c') := by simp [go_sem]
  have k2 : (w.alloc (.cells #[.slice A p.store.cells.length c, .slice A' p.store.roots.length c', .slice A2 p.x.length c2, .slice A3 p.y.length c3] 32)).cell? ⟨w.heap.size, 2, none⟩ = some (.slice A2 p.x.length c2) := by simp [go_sem]
  have k3 : (w.alloc (.cells #[.slice A p.store.cells.length c, .slice A' p.store.roots.length c', .slice A2 p.x.length c2, .slice A3 p.y.length c3] 32)).cell? ⟨w.heap.size, 3, none⟩ = some (.slice A3 p.y.length c3) := by simp [go_sem]
  have hS : ∀ W, Below (w.alloc (.cells #[.slice A p.store.cells.length c, .slice A' p.store.roots.length c', .slice A2 p.x.length c2, .slice A3 p.y.length c3] 32)).heap.size (w.alloc (.cells #[.slice A p.store.cells.length c, .slice A' p.store.roots.length c', .slice A2 p.x.length c2, .slice A3 p.y.length c3] 32)) W → W.cell? ⟨w.heap.size, 0, none⟩ = some (.slice A p.store.cells.length c) ∧ W.cell? ⟨w.heap.size, 1, none⟩ = some (.slice A' p.store.roots.length c') ∧ W.cell? ⟨w.heap.size, 2, none⟩ = some (.slice A2 p.x.length c2) ∧ W.cell? ⟨w.heap.size, 3, none⟩ = some (.slice A3 p.y.length c3) :=
    fun W hW => ⟨cell_below k0 hW, cell_below k1 hW, cell_below k2 hW, cell_below k3 hW⟩
  go_enter Try.func72, Try.ntmps72
  go_upto_region 1 with fail
  go_region_held3? (fun w' => w'.cell? ⟨w.heap.size, 0, none⟩ = some (.slice A p.store.cells.length c) ∧ w'.cell? ⟨w.heap.size, 1, none⟩ = some (.slice A' p.store.roots.length c') ∧ w'.cell? ⟨w.heap.size, 2, none⟩ = some (.slice A2 p.x.length c2) ∧ w'.cell? ⟨w.heap.size, 3, none⟩ = some (.slice A3 p.y.length c3))
    (first | exact hS _ (by repeat (first | ((with_reducible refine Below.setc ?_ ?_ _); focus (first | omega | (simp; done) | (simp; omega))) | ((with_reducible refine Below.allocc ?_ ?_ _); focus (first | omega | (simp; done) | (simp; omega))) | (with_reducible refine Below.drew ?_) | (with_reducible refine Below.drewn ?_) | (with_reducible assumption) | (with_reducible exact Below.refl _ _) | ((with_reducible refine Below.stepp (by with_reducible assumption) ?_ ?_); focus (first | omega | (simp; done) | (simp; omega))))))
    (first
      | (go_at_call 96; refine (copyHeap_any _ p.store _ ((hh.below (by repeat (first | ((with_reducible refine Below.setc ?_ ?_ _); focus (first | omega | (simp; done) | (simp; omega))) | ((with_reducible refine Below.allocc ?_ ?_ _); focus (first | omega | (simp; done) | (simp; omega))) | (with_reducible refine Below.drew ?_) | (with_reducible refine Below.drewn ?_) | (with_reducible assumption) | (with_reducible exact Below.refl _ _) | ((with_reducible refine Below.stepp (by with_reducible assumption) ?_ ?_); focus (first | omega | (simp; done) | (simp; omega)))))).rh _ _) hn hr hn2).mono ?_; rintro e wh ⟨vh, rfl, ⟨B, d, B', d', os, rfl, hm, ho, hlo⟩, hBh⟩; (have z_hBh := Below.size hBh); (try simp only [World.size_alloc, World.size_setCell, World.size_drew, World.heap_drewN] at z_hBh); have HM := Lib.hid hm; clear hm; have HL := Lib.hid hlo; clear hlo; have HO := Lib.hid ho; clear ho)
      | (go_at_call 129; (with_reducible refine (cloneBool_any A2 p.x _ _ (hx.below (by repeat (first | ((with_reducible refine Below.setc ?_ ?_ _); focus (first | omega | (simp; done) | (simp; omega))) | ((with_reducible refine Below.allocc ?_ ?_ _); focus (first | omega | (simp; done) | (simp; omega))) | (with_reducible refine Below.drew ?_) | (with_reducible refine Below.drewn ?_) | (with_reducible assumption) | (with_reducible exact Below.refl _ _) | ((with_reducible refine Below.stepp (by with_reducible assumption) ?_ ?_); focus (first | omega | (simp; done) | (simp; omega)))))) (by omega)).mono ?_); rintro e wb ⟨S2, d2, rfl, hS2, hg2, hB2⟩; (have z_hB2 := Below.size hB2); (try simp only [World.size_alloc, World.size_setCell, World.size_drew, World.heap_drewN] at z_hB2))
      | (go_at_call 129; (with_reducible refine (cloneBool_any A3 p.y _ _ (hy.below (by repeat (first | ((with_reducible refine Below.setc ?_ ?_ _); focus (first | omega | (simp; done) | (simp; omega))) | ((with_reducible refine Below.allocc ?_ ?_ _); focus (first | omega | (simp; done) | (simp; omega))) | (with_reducible refine Below.drew ?_) | (with_reducible refine Below.drewn ?_) | (with_reducible assumption) | (with_reducible exact Below.refl _ _) | ((with_reducible refine Below.stepp (by with_reducible assumption) ?_ ?_); focus (first | omega | (simp; done) | (simp; omega)))))) (by omega)).mono ?_); rintro e wc ⟨S3, d3, rfl, hS3, hg3, hB3⟩; (have z_hB3 := Below.size hB3); (try simp only [World.size_alloc, World.size_setCell, World.size_drew, World.heap_drewN] at z_hB3)))
  have hL := HL.out
  have hlt := HO.out.lt
  have hlt2 := hS2.lt
  have hlt3 := hS3.lt
  try simp only [World.size_alloc, World.size_setCell, World.size_drew, World.heap_drewN, heap_drew_] at hL hg2 hg3
  go_wp2_with fail
  go_ret
  have i1 : ∀ b ∈ hblks B os B', w.heap.size + 1 ≤ b ∧ b < wh.heap.size := fun b hb => ⟨by have := hL b hb; omega, hlt b hb⟩
  have i2 : ∀ b ∈ blk S2, wh.heap.size ≤ b ∧ b < wb.heap.size := fun b hb => ⟨by have := hg2 b hb; omega, hlt2 b hb⟩
  have i3 : ∀ b ∈ blk S3, wb.heap.size ≤ b ∧ b < wc.heap.size := fun b hb => ⟨by have := hg3 b hb; omega, hlt3 b hb⟩
  refine ⟨_, rfl, ⟨B, d, B', d', os, S2, d2, S3, d3, by simp [go_sem], by simp [go_sem], by simp [go_sem], by simp [go_sem], fun o => by simp [go_sem], by omega, by simp [go_sem], ?_, HM.out, HO.out.below (by repeat (first | ((with_reducible refine Below.setc ?_ ?_ _); focus (first | omega | (simp; done) | (simp; omega))) | ((with_reducible refine Below.allocc ?_ ?_ _); focus (first | omega | (simp; done) | (simp; omega))) | (with_reducible refine Below.drew ?_) | (with_reducible refine Below.drewn ?_) | (with_reducible assumption) | (with_reducible exact Below.refl _ _) | ((with_reducible refine Below.stepp (by with_reducible assumption) ?_ ?_); focus (first | omega | (simp; done) | (simp; omega))))), hS2.below (by repeat (first | ((with_reducible refine Below.setc ?_ ?_ _); focus (first | omega | (simp; done) | (simp; omega))) | ((with_reducible refine Below.allocc ?_ ?_ _); focus (first | omega | (simp; done) | (simp; omega))) | (with_reducible refine Below.drew ?_) | (with_reducible refine Below.drewn ?_) | (with_reducible assumption) | (with_reducible exact Below.refl _ _) | ((with_reducible refine Below.stepp (by with_reducible assumption) ?_ ?_); focus (first | omega | (simp; done) | (simp; omega))))), hS3.below (by repeat (first | ((with_reducible refine Below.setc ?_ ?_ _); focus (first | omega | (simp; done) | (simp; omega))) | ((with_reducible refine Below.allocc ?_ ?_ _); focus (first | omega | (simp; done) | (simp; omega))) | (with_reducible refine Below.drew ?_) | (with_reducible refine Below.drewn ?_) | (with_reducible assumption) | (with_reducible exact Below.refl _ _) | ((with_reducible refine Below.stepp (by with_reducible assumption) ?_ ?_); focus (first | omega | (simp; done) | (simp; omega))))), ?_, ?_, by omega, by omega⟩, (by repeat (first | ((with_reducible refine Below.setc ?_ ?_ _); focus (first | omega | (simp; done) | (simp; omega))) | ((with_reducible refine Below.allocc ?_ ?_ _); focus (first | omega | (simp; done) | (simp; omega))) | (with_reducible refine Below.drew ?_) | (with_reducible refine Below.drewn ?_) | (with_reducible assumption) | (with_reducible exact Below.refl _ _) | ((with_reducible refine Below.stepp (by with_reducible assumption) ?_ ?_); focus (first | omega | (simp; done) | (simp; omega)))))⟩
  · intro hc
    simp only [List.mem_append] at hc
    rcases hc with (hc | hc) | hc
    · have := i1 _ hc; omega
    · have := i2 _ hc; omega
    · have := i3 _ hc; omega
  · exact nd3_of HO.out.nodup (blk_nodup _) (blk_nodup _) (fun b h1 h2 => by have := i2 b h1; have := i1 b h2; omega) (fun b h1 h2 => by have := i3 b h1; have := i1 b h2; omega) (fun b h1 h2 => by have := i3 b h1; have := i2 b h2; omega)
  · intro b hb
    simp only [List.mem_append] at hb
    rcases hb with (hb | hb) | hb
    · have := i1 _ hb; omega
    · have := i2 _ hb; omega
    · have := i3 _ hb; omega
end Go.Proofs.Ytdkhpmlimnfgpaa
