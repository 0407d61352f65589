/- FnExactPaintFinish: the program's PaintFinish returns what the reference's returns, for every argument. No condition. -/
import Derived.Test.YtdkhpmlimnfgpaaChecked
import Derived.Deep.RegionHeld3
import Derived.Test.YtdkhpmlimnfgpaaMark2
import Derived.Test.YtdkhpmlimnfgpaaHeld
import Derived.Test.YtdkhpmlimnfgpaaSzP
import Derived.Test.YtdkhpmlimnfgpaaTo
import Derived.Test.YtdkhpmlimnfgpaaEq
import Derived.Test.YtdkhpmlimnfgpaaPaintFinS
namespace Go.Proofs.Ytdkhpmlimnfgpaa
open Go.RowKit
set_option maxRecDepth 100000
set_option linter.unusedSimpArgs false
set_option linter.unusedVariables false
set_option maxHeartbeats 4000000 in
theorem walkExactPaintFinish (v : Value) (p : PaintM) (w : World) (hv : RPt w v p) (hres : SmallH p.store ∧ p.colours.length ≤ 1048576 → SmallH (paintFinishM p).1.store ∧ (paintFinishM p).1.colours.length ≤ 1048576) :
    Calls Try.prog 14 #[v] w fun e w' => e = .returned (.bool true) ∧ Below w.heap.size w w' := by
  have hv0 := hv
  obtain ⟨v1, hv1⟩ : ∃ x, x = v := ⟨_, rfl⟩
  obtain ⟨B0, d0, C0, e0, E0, g0, hvx, -⟩ := hv
  subst hvx
  clear hv1
  have hle := szH1_le p.store p.colours.length 1048576
  by_cases hneg : szH1 p.store p.colours.length 1048576 < 0
  · go_enter Try.func14, Try.ntmps14
    go_wp2_with (go_at_call 24; refine (szPaint_any _ p _ _ (hv0.below (by repeat (first | ((with_reducible refine Below.setc ?_ ?_ _); focus (first | omega | (simp; done) | (simp; omega))) | ((with_reducible refine Below.allocc ?_ ?_ _); focus (first | omega | (simp; done) | (simp; omega))) | (with_reducible refine Below.drew ?_) | (with_reducible refine Below.drewn ?_) | (with_reducible assumption) | (with_reducible exact Below.refl _ _) | ((with_reducible refine Below.stepp (by with_reducible assumption) ?_ ?_); focus (first | omega | (simp; done) | (simp; omega)))))) (by omega) (by omega)).mono ?_; rintro e w1 ⟨rfl, hB1⟩)
    go_ret
    exact ⟨rfl, (by repeat (first | ((with_reducible refine Below.setc ?_ ?_ _); focus (first | omega | (simp; done) | (simp; omega))) | ((with_reducible refine Below.allocc ?_ ?_ _); focus (first | omega | (simp; done) | (simp; omega))) | (with_reducible refine Below.drew ?_) | (with_reducible refine Below.drewn ?_) | (with_reducible assumption) | (with_reducible exact Below.refl _ _) | ((with_reducible refine Below.stepp (by with_reducible assumption) ?_ ?_); focus (first | omega | (simp; done) | (simp; omega)))))⟩
  · have hsm := szH1_small hneg
    have HSR := Lib.hid (hres hsm)
    obtain ⟨s1, s2⟩ := hsm
    have HN := Lib.hid hneg
    go_enter Try.func14, Try.ntmps14
    go_wp2_with (go_at_call 24; refine (szPaint_any _ p _ _ (hv0.below (by repeat (first | ((with_reducible refine Below.setc ?_ ?_ _); focus (first | omega | (simp; done) | (simp; omega))) | ((with_reducible refine Below.allocc ?_ ?_ _); focus (first | omega | (simp; done) | (simp; omega))) | (with_reducible refine Below.drew ?_) | (with_reducible refine Below.drewn ?_) | (with_reducible assumption) | (with_reducible exact Below.refl _ _) | ((with_reducible refine Below.stepp (by with_reducible assumption) ?_ ?_); focus (first | omega | (simp; done) | (simp; omega)))))) (by omega) (by omega)).mono ?_; rintro e w1 ⟨rfl, hB1⟩; (have z_hB1 := Below.size hB1); (try simp only [World.size_alloc, World.size_setCell, World.size_drew, World.heap_drewN] at z_hB1); have zw_1 : w.heap.size < w1.heap.size := (by omega); have hA : Box w1 w.heap.size [.slice B0 p.store.cells.length d0, .slice C0 p.store.roots.length e0, .slice E0 p.colours.length g0, .bool p.active] := (Box.new w _ _).below hB1; have W1 : Below w.heap.size w w1 := (by repeat (first | ((with_reducible refine Below.setc ?_ ?_ _); focus (first | omega | (simp; done) | (simp; omega))) | ((with_reducible refine Below.allocc ?_ ?_ _); focus (first | omega | (simp; done) | (simp; omega))) | (with_reducible refine Below.drew ?_) | (with_reducible refine Below.drewn ?_) | (with_reducible assumption) | (with_reducible exact Below.refl _ _) | ((with_reducible refine Below.stepp (by with_reducible assumption) ?_ ?_); focus (first | omega | (simp; done) | (simp; omega))))); have a0 : w1.cell? ⟨w.heap.size, 0, none⟩ = some (.slice B0 p.store.cells.length d0) := hA 0 _ rfl; have a1 : w1.cell? ⟨w.heap.size, 1, none⟩ = some (.slice C0 p.store.roots.length e0) := hA 1 _ rfl; have a2 : w1.cell? ⟨w.heap.size, 2, none⟩ = some (.slice E0 p.colours.length g0) := hA 2 _ rfl; have a3 : w1.cell? ⟨w.heap.size, 3, none⟩ = some (.bool p.active) := hA 3 _ rfl)
    clear hneg hle
    refine (toPaint_any _ p _ (hv0.below W1) s1.cells s1.refs s1.roots s2).mono ?_
    rintro e w2 ⟨v2, rfl, o2, hB2⟩
    have W2 : Below w.heap.size w w2 := W1.trans (hB2.mono W1.size)
    have s_2 : w1.heap.size ≤ w2.heap.size := hB2.size
    have zw_2 : w.heap.size < w2.heap.size := by omega
    have A2 := hA.below hB2
    go_wp2_with fail
    refine (specPaintFinish_any _ p _ o2.rp).mono ?_
    rintro e w3 ⟨v3, rfl, o3, hB3⟩
    obtain ⟨B3, d3, C3, e3, E3, g3, rfl, -⟩ := o3.rp
    have r3 := o3.rp
    have W3 : Below w.heap.size w w3 := W2.trans (hB3.mono W2.size)
    have s_3 : w2.heap.size ≤ w3.heap.size := hB3.size
    have zw_3 : w.heap.size < w3.heap.size := by omega
    have A3 := A2.below hB3
    clear a0 a1 a2 a3
    have a0 : w3.cell? ⟨w.heap.size, 0, none⟩ = some (.slice B0 p.store.cells.length d0) := A3 0 _ rfl
    have a1 : w3.cell? ⟨w.heap.size, 1, none⟩ = some (.slice C0 p.store.roots.length e0) := A3 1 _ rfl
    have a2 : w3.cell? ⟨w.heap.size, 2, none⟩ = some (.slice E0 p.colours.length g0) := A3 2 _ rfl
    have a3 : w3.cell? ⟨w.heap.size, 3, none⟩ = some (.bool p.active) := A3 3 _ rfl
    go_wp2_with fail
    refine (toPaint_any _ p _ (hv0.below (by repeat (first | ((with_reducible refine Below.setc ?_ ?_ _); focus (first | omega | (simp; done) | (simp; omega))) | ((with_reducible refine Below.allocc ?_ ?_ _); focus (first | omega | (simp; done) | (simp; omega))) | (with_reducible refine Below.drew ?_) | (with_reducible refine Below.drewn ?_) | (with_reducible assumption) | (with_reducible exact Below.refl _ _) | ((with_reducible refine Below.stepp (by with_reducible assumption) ?_ ?_); focus (first | omega | (simp; done) | (simp; omega)))))) s1.cells s1.refs s1.roots s2).mono ?_
    rintro e w4 ⟨v4, rfl, o4, hB4⟩
    (have z_hB4 := Below.size hB4); (try simp only [World.size_alloc, World.size_setCell, World.size_drew, World.heap_drewN] at z_hB4)
    have X4 : Below w3.heap.size w3 w4 := (by repeat (first | ((with_reducible refine Below.setc ?_ ?_ _); focus (first | omega | (simp; done) | (simp; omega))) | ((with_reducible refine Below.allocc ?_ ?_ _); focus (first | omega | (simp; done) | (simp; omega))) | (with_reducible refine Below.drew ?_) | (with_reducible refine Below.drewn ?_) | (with_reducible assumption) | (with_reducible exact Below.refl _ _) | ((with_reducible refine Below.stepp (by with_reducible assumption) ?_ ?_); focus (first | omega | (simp; done) | (simp; omega)))))
    have W4 : Below w.heap.size w w4 := W3.trans (X4.mono W3.size)
    have s_4 : w3.heap.size ≤ w4.heap.size := X4.size
    have zw_4 : w.heap.size < w4.heap.size := by omega
    have zw3_4 : w3.heap.size < w4.heap.size := by omega
    obtain ⟨B4, d4, C4, e4, E4, g4, rfl, -⟩ := o4.rp
    have A4 := A3.below X4
    have R4 : Box w4 w3.heap.size [.slice B3 (paintFinishM p).1.store.cells.length d3, .slice C3 (paintFinishM p).1.store.roots.length e3, .slice E3 (paintFinishM p).1.colours.length g3, .bool (paintFinishM p).1.active] := (Box.new w3 _ _).below hB4
    have o4b := o4.toB
    clear a0 a1 a2 a3
    go_wp2_with fail
    refine (implPaintFinish_any _ p _ (o4b.below (by repeat (first | ((with_reducible refine Below.setc ?_ ?_ _); focus (first | omega | (simp; done) | (simp; omega))) | ((with_reducible refine Below.allocc ?_ ?_ _); focus (first | omega | (simp; done) | (simp; omega))) | (with_reducible refine Below.drew ?_) | (with_reducible refine Below.drewn ?_) | (with_reducible assumption) | (with_reducible exact Below.refl _ _) | ((with_reducible refine Below.stepp (by with_reducible assumption) ?_ ?_); focus (first | omega | (simp; done) | (simp; omega)))))).rd).mono ?_
    rintro e w5 ⟨v5, rfl, o5, hB5⟩
    (have z_hB5 := Below.size hB5); (try simp only [World.size_alloc, World.size_setCell, World.size_drew, World.heap_drewN] at z_hB5)
    have X5 : Below w4.heap.size w4 w5 := (by repeat (first | ((with_reducible refine Below.setc ?_ ?_ _); focus (first | omega | (simp; done) | (simp; omega))) | ((with_reducible refine Below.allocc ?_ ?_ _); focus (first | omega | (simp; done) | (simp; omega))) | (with_reducible refine Below.drew ?_) | (with_reducible refine Below.drewn ?_) | (with_reducible assumption) | (with_reducible exact Below.refl _ _) | ((with_reducible refine Below.stepp (by with_reducible assumption) ?_ ?_); focus (first | omega | (simp; done) | (simp; omega)))))
    have W5 : Below w.heap.size w w5 := W4.trans (X5.mono W4.size)
    have s_5 : w4.heap.size ≤ w5.heap.size := X5.size
    have zw_5 : w.heap.size < w5.heap.size := by omega
    have zw3_5 : w3.heap.size < w5.heap.size := by omega
    have zw4_5 : w4.heap.size < w5.heap.size := by omega
    obtain ⟨B5, d5, C5, e5, E5, g5, rfl, -⟩ := o5.rp
    have o5b := o5.toB
    have A5 := A4.below X5
    have R5 := R4.below X5
    have P5 : Box w5 w4.heap.size [.slice B4 p.store.cells.length d4, .slice C4 p.store.roots.length e4, .slice E4 p.colours.length g4, .bool p.active] := (Box.new w4 _ _).below hB5
    have x5 := o4b.below X5
    have r5 := r3.below (X4.trans (X5.mono X4.size))
    have r_0 : w5.cell? ⟨w3.heap.size, 0, none⟩ = some (.slice B3 (paintFinishM p).1.store.cells.length d3) := R5 0 _ rfl
    have r_1 : w5.cell? ⟨w3.heap.size, 1, none⟩ = some (.slice C3 (paintFinishM p).1.store.roots.length e3) := R5 1 _ rfl
    have r_2 : w5.cell? ⟨w3.heap.size, 2, none⟩ = some (.slice E3 (paintFinishM p).1.colours.length g3) := R5 2 _ rfl
    have r_3 : w5.cell? ⟨w3.heap.size, 3, none⟩ = some (.bool (paintFinishM p).1.active) := R5 3 _ rfl
    have heq : eqB (paintFinishM p).1 (paintFinishM p).1 = true := eqB_of rfl
    go_wp2_with fail
    refine (eqPaint_any _ _ (paintFinishM p).1 (paintFinishM p).1 _ (o5.rp.below (by repeat (first | ((with_reducible refine Below.setc ?_ ?_ _); focus (first | omega | (simp; done) | (simp; omega))) | ((with_reducible refine Below.allocc ?_ ?_ _); focus (first | omega | (simp; done) | (simp; omega))) | (with_reducible refine Below.drew ?_) | (with_reducible refine Below.drewn ?_) | (with_reducible assumption) | (with_reducible exact Below.refl _ _) | ((with_reducible refine Below.stepp (by with_reducible assumption) ?_ ?_); focus (first | omega | (simp; done) | (simp; omega)))))) (r5.below (by repeat (first | ((with_reducible refine Below.setc ?_ ?_ _); focus (first | omega | (simp; done) | (simp; omega))) | ((with_reducible refine Below.allocc ?_ ?_ _); focus (first | omega | (simp; done) | (simp; omega))) | (with_reducible refine Below.drew ?_) | (with_reducible refine Below.drewn ?_) | (with_reducible assumption) | (with_reducible exact Below.refl _ _) | ((with_reducible refine Below.stepp (by with_reducible assumption) ?_ ?_); focus (first | omega | (simp; done) | (simp; omega))))))).mono ?_
    rw [heq]
    rintro e w6 ⟨rfl, hB6⟩
    (have z_hB6 := Below.size hB6); (try simp only [World.size_alloc, World.size_setCell, World.size_drew, World.heap_drewN] at z_hB6)
    have X6 : Below w5.heap.size w5 w6 := (by repeat (first | ((with_reducible refine Below.setc ?_ ?_ _); focus (first | omega | (simp; done) | (simp; omega))) | ((with_reducible refine Below.allocc ?_ ?_ _); focus (first | omega | (simp; done) | (simp; omega))) | (with_reducible refine Below.drew ?_) | (with_reducible refine Below.drewn ?_) | (with_reducible assumption) | (with_reducible exact Below.refl _ _) | ((with_reducible refine Below.stepp (by with_reducible assumption) ?_ ?_); focus (first | omega | (simp; done) | (simp; omega)))))
    have W6 : Below w.heap.size w w6 := W5.trans (X6.mono W5.size)
    have s_6 : w5.heap.size ≤ w6.heap.size := X6.size
    have zw_6 : w.heap.size < w6.heap.size := by omega
    have zw3_6 : w3.heap.size < w6.heap.size := by omega
    have zw4_6 : w4.heap.size < w6.heap.size := by omega
    have zw5_6 : w5.heap.size < w6.heap.size := by omega
    have A6 := A5.below X6
    have R6 := R5.below X6
    have P6 := P5.below X6
    have G6 : Box w6 w5.heap.size [.slice B5 (paintFinishM p).1.store.cells.length d5, .slice C5 (paintFinishM p).1.store.roots.length e5, .slice E5 (paintFinishM p).1.colours.length g5, .bool (paintFinishM p).1.active] := (Box.new w5 _ _).below hB6
    have x6 := x5.below X6
    have r6 := r5.below X6
    have g6 := o5b.below X6
    clear r_0 r_1 r_2 r_3 heq
    have heq : eqB p p = true := eqB_of rfl
    have HS : ∀ W, Below w6.heap.size w6 W → W.cell? ⟨w4.heap.size, 0, none⟩ = some (.slice B4 p.store.cells.length d4) ∧ W.cell? ⟨w4.heap.size, 1, none⟩ = some (.slice C4 p.store.roots.length e4) ∧ W.cell? ⟨w4.heap.size, 2, none⟩ = some (.slice E4 p.colours.length g4) ∧ W.cell? ⟨w4.heap.size, 3, none⟩ = some (.bool p.active) ∧ W.cell? ⟨w.heap.size, 0, none⟩ = some (.slice B0 p.store.cells.length d0) ∧ W.cell? ⟨w.heap.size, 1, none⟩ = some (.slice C0 p.store.roots.length e0) ∧ W.cell? ⟨w.heap.size, 2, none⟩ = some (.slice E0 p.colours.length g0) ∧ W.cell? ⟨w.heap.size, 3, none⟩ = some (.bool p.active) := fun W hW => ⟨P6.below hW 0 _ rfl, P6.below hW 1 _ rfl, P6.below hW 2 _ rfl, P6.below hW 3 _ rfl, A6.below hW 0 _ rfl, A6.below hW 1 _ rfl, A6.below hW 2 _ rfl, A6.below hW 3 _ rfl⟩
    clear hB1 hB2 hB3 hB4 hB5 hB6
    go_wp2_with fail
    go_region_held3 (fun w' => w'.cell? ⟨w4.heap.size, 0, none⟩ = some (.slice B4 p.store.cells.length d4) ∧ w'.cell? ⟨w4.heap.size, 1, none⟩ = some (.slice C4 p.store.roots.length e4) ∧ w'.cell? ⟨w4.heap.size, 2, none⟩ = some (.slice E4 p.colours.length g4) ∧ w'.cell? ⟨w4.heap.size, 3, none⟩ = some (.bool p.active) ∧ w'.cell? ⟨w.heap.size, 0, none⟩ = some (.slice B0 p.store.cells.length d0) ∧ w'.cell? ⟨w.heap.size, 1, none⟩ = some (.slice C0 p.store.roots.length e0) ∧ w'.cell? ⟨w.heap.size, 2, none⟩ = some (.slice E0 p.colours.length g0) ∧ w'.cell? ⟨w.heap.size, 3, none⟩ = some (.bool p.active))
      (first | exact HS _ (by repeat (first | ((with_reducible refine Below.setc ?_ ?_ _); focus (first | omega | (simp; done) | (simp; omega))) | ((with_reducible refine Below.allocc ?_ ?_ _); focus (first | omega | (simp; done) | (simp; omega))) | (with_reducible refine Below.drew ?_) | (with_reducible refine Below.drewn ?_) | (with_reducible assumption) | (with_reducible exact Below.refl _ _) | ((with_reducible refine Below.stepp (by with_reducible assumption) ?_ ?_); focus (first | omega | (simp; done) | (simp; omega))))))
      (first
        | (go_at_call 26; (with_reducible refine (toPaint_any _ p _ (hv0.below (W6.trans (Below.mono (show Below w6.heap.size w6 _ from (by repeat (first | ((with_reducible refine Below.setc ?_ ?_ _); focus (first | omega | (simp; done) | (simp; omega))) | ((with_reducible refine Below.allocc ?_ ?_ _); focus (first | omega | (simp; done) | (simp; omega))) | (with_reducible refine Below.drew ?_) | (with_reducible refine Below.drewn ?_) | (with_reducible assumption) | (with_reducible exact Below.refl _ _) | ((with_reducible refine Below.stepp (by with_reducible assumption) ?_ ?_); focus (first | omega | (simp; done) | (simp; omega)))))) W6.size))) s1.cells s1.refs s1.roots s2).mono ?_); rintro e w7 ⟨v7, rfl, o7, hB7⟩; (have z_hB7 := Below.size hB7); (try simp only [World.size_alloc, World.size_setCell, World.size_drew, World.heap_drewN] at z_hB7); have X7 : Below w6.heap.size w6 w7 := (by repeat (first | ((with_reducible refine Below.setc ?_ ?_ _); focus (first | omega | (simp; done) | (simp; omega))) | ((with_reducible refine Below.allocc ?_ ?_ _); focus (first | omega | (simp; done) | (simp; omega))) | (with_reducible refine Below.drew ?_) | (with_reducible refine Below.drewn ?_) | (with_reducible assumption) | (with_reducible exact Below.refl _ _) | ((with_reducible refine Below.stepp (by with_reducible assumption) ?_ ?_); focus (first | omega | (simp; done) | (simp; omega))))))
        | (go_at_call 28; (with_reducible refine (eqPaint_any _ _ p p _ (x6.below (by repeat (first | ((with_reducible refine Below.setc ?_ ?_ _); focus (first | omega | (simp; done) | (simp; omega))) | ((with_reducible refine Below.allocc ?_ ?_ _); focus (first | omega | (simp; done) | (simp; omega))) | (with_reducible refine Below.drew ?_) | (with_reducible refine Below.drewn ?_) | (with_reducible assumption) | (with_reducible exact Below.refl _ _) | ((with_reducible refine Below.stepp (by with_reducible assumption) ?_ ?_); focus (first | omega | (simp; done) | (simp; omega)))))).rd (o7.rp.below (by repeat (first | ((with_reducible refine Below.setc ?_ ?_ _); focus (first | omega | (simp; done) | (simp; omega))) | ((with_reducible refine Below.allocc ?_ ?_ _); focus (first | omega | (simp; done) | (simp; omega))) | (with_reducible refine Below.drew ?_) | (with_reducible refine Below.drewn ?_) | (with_reducible assumption) | (with_reducible exact Below.refl _ _) | ((with_reducible refine Below.stepp (by with_reducible assumption) ?_ ?_); focus (first | omega | (simp; done) | (simp; omega))))))).mono ?_); rw [heq]; rintro e w8 ⟨rfl, hB8⟩; (have z_hB8 := Below.size hB8); (try simp only [World.size_alloc, World.size_setCell, World.size_drew, World.heap_drewN] at z_hB8); have X8 : Below w6.heap.size w6 w8 := (by repeat (first | ((with_reducible refine Below.setc ?_ ?_ _); focus (first | omega | (simp; done) | (simp; omega))) | ((with_reducible refine Below.allocc ?_ ?_ _); focus (first | omega | (simp; done) | (simp; omega))) | (with_reducible refine Below.drew ?_) | (with_reducible refine Below.drewn ?_) | (with_reducible assumption) | (with_reducible exact Below.refl _ _) | ((with_reducible refine Below.stepp (by with_reducible assumption) ?_ ?_); focus (first | omega | (simp; done) | (simp; omega)))))))
    have W8 : Below w.heap.size w w8 := W6.trans (X8.mono W6.size)
    have s_8 : w6.heap.size ≤ w8.heap.size := X8.size
    have zw_8 : w.heap.size < w8.heap.size := by omega
    have zw3_8 : w3.heap.size < w8.heap.size := by omega
    have zw4_8 : w4.heap.size < w8.heap.size := by omega
    have zw5_8 : w5.heap.size < w8.heap.size := by omega
    have A8 := A6.below X8
    have R8 := R6.below X8
    have P8 := P6.below X8
    have G8 := G6.below X8
    have x8 := x6.below X8
    have r8 := r6.below X8
    have g8 := g6.below X8
    clear HS heq hB7 hB8
    have p_0 : w8.cell? ⟨w4.heap.size, 0, none⟩ = some (.slice B4 p.store.cells.length d4) := P8 0 _ rfl
    have p_1 : w8.cell? ⟨w4.heap.size, 1, none⟩ = some (.slice C4 p.store.roots.length e4) := P8 1 _ rfl
    have p_2 : w8.cell? ⟨w4.heap.size, 2, none⟩ = some (.slice E4 p.colours.length g4) := P8 2 _ rfl
    have p_3 : w8.cell? ⟨w4.heap.size, 3, none⟩ = some (.bool p.active) := P8 3 _ rfl
    go_wp2_with fail
    refine (markPaint_law _ _ _ _ p _ (x8.below (by repeat (first | ((with_reducible refine Below.setc ?_ ?_ _); focus (first | omega | (simp; done) | (simp; omega))) | ((with_reducible refine Below.allocc ?_ ?_ _); focus (first | omega | (simp; done) | (simp; omega))) | (with_reducible refine Below.drew ?_) | (with_reducible refine Below.drewn ?_) | (with_reducible assumption) | (with_reducible exact Below.refl _ _) | ((with_reducible refine Below.stepp (by with_reducible assumption) ?_ ?_); focus (first | omega | (simp; done) | (simp; omega)))))) s1 s2 (by omega) (by omega)).mono ?_
    rintro e w9 ⟨rfl, -, hS9⟩
    have Z8 := X8.size
    have y9 : w8.heap.size ≤ w9.heap.size := (by have := hS9.size; first | exact this | simpa using this)
    have W9 : Below w.heap.size w w9 := W8.trans (Below.trans (by repeat (first | ((with_reducible refine Below.setc ?_ ?_ _); focus (first | omega | (simp; done) | (simp; omega))) | ((with_reducible refine Below.allocc ?_ ?_ _); focus (first | omega | (simp; done) | (simp; omega))) | (with_reducible refine Below.drew ?_) | (with_reducible refine Below.drewn ?_) | (with_reducible assumption) | (with_reducible exact Below.refl _ _) | ((with_reducible refine Below.stepp (by with_reducible assumption) ?_ ?_); focus (first | omega | (simp; done) | (simp; omega))))) (hS9.below (by have := W3.size; first | omega | (simp; done) | (simp; omega)) (by have := W8.size; first | omega | (simp; done) | (simp; omega))))
    have s_9 : w8.heap.size ≤ w9.heap.size := y9
    have zw_9 : w.heap.size < w9.heap.size := by omega
    have zw3_9 : w3.heap.size < w9.heap.size := by omega
    have zw4_9 : w4.heap.size < w9.heap.size := by omega
    have zw5_9 : w5.heap.size < w9.heap.size := by omega
    have A9 := (A8.below (show Below w8.heap.size w8 _ from (by repeat (first | ((with_reducible refine Below.setc ?_ ?_ _); focus (first | omega | (simp; done) | (simp; omega))) | ((with_reducible refine Below.allocc ?_ ?_ _); focus (first | omega | (simp; done) | (simp; omega))) | (with_reducible refine Below.drew ?_) | (with_reducible refine Below.drewn ?_) | (with_reducible assumption) | (with_reducible exact Below.refl _ _) | ((with_reducible refine Below.stepp (by with_reducible assumption) ?_ ?_); focus (first | omega | (simp; done) | (simp; omega))))))).span hS9 (by have := W3.size; first | omega | (simp; done) | (simp; omega))
    have R9 := (R8.below (show Below w8.heap.size w8 _ from (by repeat (first | ((with_reducible refine Below.setc ?_ ?_ _); focus (first | omega | (simp; done) | (simp; omega))) | ((with_reducible refine Below.allocc ?_ ?_ _); focus (first | omega | (simp; done) | (simp; omega))) | (with_reducible refine Below.drew ?_) | (with_reducible refine Below.drewn ?_) | (with_reducible assumption) | (with_reducible exact Below.refl _ _) | ((with_reducible refine Below.stepp (by with_reducible assumption) ?_ ?_); focus (first | omega | (simp; done) | (simp; omega))))))).span hS9 (by first | omega | (simp; done) | (simp; omega))
    have G9 := (G8.below (show Below w8.heap.size w8 _ from (by repeat (first | ((with_reducible refine Below.setc ?_ ?_ _); focus (first | omega | (simp; done) | (simp; omega))) | ((with_reducible refine Below.allocc ?_ ?_ _); focus (first | omega | (simp; done) | (simp; omega))) | (with_reducible refine Below.drew ?_) | (with_reducible refine Below.drewn ?_) | (with_reducible assumption) | (with_reducible exact Below.refl _ _) | ((with_reducible refine Below.stepp (by with_reducible assumption) ?_ ?_); focus (first | omega | (simp; done) | (simp; omega))))))).span hS9 (by first | omega | (simp; done) | (simp; omega))
    have g9 := (g8.below (show Below w8.heap.size w8 _ from (by repeat (first | ((with_reducible refine Below.setc ?_ ?_ _); focus (first | omega | (simp; done) | (simp; omega))) | ((with_reducible refine Below.allocc ?_ ?_ _); focus (first | omega | (simp; done) | (simp; omega))) | (with_reducible refine Below.drew ?_) | (with_reducible refine Below.drewn ?_) | (with_reducible assumption) | (with_reducible exact Below.refl _ _) | ((with_reducible refine Below.stepp (by with_reducible assumption) ?_ ?_); focus (first | omega | (simp; done) | (simp; omega))))))).span hS9 (by simp)
    have hk0 : (0 : Int) ≤ 1 + (sizeP p : Int) := by omega
    have r9 : RPt w9 _ (paintFinishM p).1 := r3.below (Below.trans (X4.trans ((X5.trans ((X6.trans (X8.mono X6.size)).mono X5.size)).mono X4.size)) (Below.trans (Below.mono (show Below w8.heap.size w8 _ from (by repeat (first | ((with_reducible refine Below.setc ?_ ?_ _); focus (first | omega | (simp; done) | (simp; omega))) | ((with_reducible refine Below.allocc ?_ ?_ _); focus (first | omega | (simp; done) | (simp; omega))) | (with_reducible refine Below.drew ?_) | (with_reducible refine Below.drewn ?_) | (with_reducible assumption) | (with_reducible exact Below.refl _ _) | ((with_reducible refine Below.stepp (by with_reducible assumption) ?_ ?_); focus (first | omega | (simp; done) | (simp; omega)))))) (by first | omega | (simp; done) | (simp; omega))) (hS9.below (by first | omega | (simp; done) | (simp; omega)) (by first | omega | (simp; done) | (simp; omega)))))
    clear p_0 p_1 p_2 p_3
    have r_0 : w9.cell? ⟨w3.heap.size, 0, none⟩ = some (.slice B3 (paintFinishM p).1.store.cells.length d3) := R9 0 _ rfl
    have r_1 : w9.cell? ⟨w3.heap.size, 1, none⟩ = some (.slice C3 (paintFinishM p).1.store.roots.length e3) := R9 1 _ rfl
    have r_2 : w9.cell? ⟨w3.heap.size, 2, none⟩ = some (.slice E3 (paintFinishM p).1.colours.length g3) := R9 2 _ rfl
    have r_3 : w9.cell? ⟨w3.heap.size, 3, none⟩ = some (.bool (paintFinishM p).1.active) := R9 3 _ rfl
    have g_0 : w9.cell? ⟨w5.heap.size, 0, none⟩ = some (.slice B5 (paintFinishM p).1.store.cells.length d5) := G9 0 _ rfl
    have g_1 : w9.cell? ⟨w5.heap.size, 1, none⟩ = some (.slice C5 (paintFinishM p).1.store.roots.length e5) := G9 1 _ rfl
    have g_2 : w9.cell? ⟨w5.heap.size, 2, none⟩ = some (.slice E5 (paintFinishM p).1.colours.length g5) := G9 2 _ rfl
    have g_3 : w9.cell? ⟨w5.heap.size, 3, none⟩ = some (.bool (paintFinishM p).1.active) := G9 3 _ rfl
    have heq : eqB (paintFinishM p).1 (paintFinishM p).1 = true := eqB_of rfl
    go_wp2_with fail
    refine (eqPaint_any _ _ (paintFinishM p).1 (paintFinishM p).1 _ g9.rd r9).mono ?_
    rw [heq]
    rintro e w10 ⟨rfl, hB10⟩
    have W10 : Below w.heap.size w w10 := W9.trans (hB10.mono W9.size)
    have s_10 : w9.heap.size ≤ w10.heap.size := hB10.size
    have zw_10 : w.heap.size < w10.heap.size := by omega
    have zw3_10 : w3.heap.size < w10.heap.size := by omega
    have zw4_10 : w4.heap.size < w10.heap.size := by omega
    have zw5_10 : w5.heap.size < w10.heap.size := by omega
    have A10 := A9.below hB10
    have R10 := R9.below hB10
    have G10 := G9.below hB10
    have g10 := g9.below hB10
    have r10 := r9.below hB10
    have hm := HSR.out
    clear r_0 r_1 r_2 r_3 g_0 g_1 g_2 g_3 heq
    have g_0 : w10.cell? ⟨w5.heap.size, 0, none⟩ = some (.slice B5 (paintFinishM p).1.store.cells.length d5) := G10 0 _ rfl
    have g_1 : w10.cell? ⟨w5.heap.size, 1, none⟩ = some (.slice C5 (paintFinishM p).1.store.roots.length e5) := G10 1 _ rfl
    have g_2 : w10.cell? ⟨w5.heap.size, 2, none⟩ = some (.slice E5 (paintFinishM p).1.colours.length g5) := G10 2 _ rfl
    have g_3 : w10.cell? ⟨w5.heap.size, 3, none⟩ = some (.bool (paintFinishM p).1.active) := G10 3 _ rfl
    go_wp2_with fail
    refine (markPaint_law _ _ _ _ (paintFinishM p).1 _ g10 hm.1 hm.2 (by omega) (by omega)).mono ?_
    rintro e w11 ⟨rfl, g11, hS11⟩
    have y10 := hB10.size
    have y11 := hS11.size
    have W11 : Below w.heap.size w w11 := W10.trans (hS11.below (by have := W3.size; first | omega | (simp; done) | (simp; omega)) W10.size)
    have s_11 : w10.heap.size ≤ w11.heap.size := hS11.size
    have zw_11 : w.heap.size < w11.heap.size := by omega
    have zw3_11 : w3.heap.size < w11.heap.size := by omega
    have zw4_11 : w4.heap.size < w11.heap.size := by omega
    have zw5_11 : w5.heap.size < w11.heap.size := by omega
    have A11 := A10.span hS11 (by have := W3.size; first | omega | (simp; done) | (simp; omega))
    have R11 := R10.span hS11 (by first | omega | (simp; done) | (simp; omega))
    have G11 := G10.span hS11 (by omega)
    have r11 : RPt w11 _ (paintFinishM p).1 := r3.below (Below.trans (X4.trans ((X5.trans ((X6.trans (X8.mono X6.size)).mono X5.size)).mono X4.size)) (Below.trans (Below.trans (Below.mono (show Below w8.heap.size w8 _ from (by repeat (first | ((with_reducible refine Below.setc ?_ ?_ _); focus (first | omega | (simp; done) | (simp; omega))) | ((with_reducible refine Below.allocc ?_ ?_ _); focus (first | omega | (simp; done) | (simp; omega))) | (with_reducible refine Below.drew ?_) | (with_reducible refine Below.drewn ?_) | (with_reducible assumption) | (with_reducible exact Below.refl _ _) | ((with_reducible refine Below.stepp (by with_reducible assumption) ?_ ?_); focus (first | omega | (simp; done) | (simp; omega)))))) (by first | omega | (simp; done) | (simp; omega))) (hS9.below (by first | omega | (simp; done) | (simp; omega)) (by first | omega | (simp; done) | (simp; omega)))) (Below.trans (hB10.mono (by first | omega | (simp; done) | (simp; omega))) (hS11.below (by first | omega | (simp; done) | (simp; omega)) (by omega)))))
    clear g_0 g_1 g_2 g_3
    have g_0 : w11.cell? ⟨w5.heap.size, 0, none⟩ = some (.slice B5 (paintFinishM p).1.store.cells.length d5) := G11 0 _ rfl
    have g_1 : w11.cell? ⟨w5.heap.size, 1, none⟩ = some (.slice C5 (paintFinishM p).1.store.roots.length e5) := G11 1 _ rfl
    have g_2 : w11.cell? ⟨w5.heap.size, 2, none⟩ = some (.slice E5 (paintFinishM p).1.colours.length g5) := G11 2 _ rfl
    have g_3 : w11.cell? ⟨w5.heap.size, 3, none⟩ = some (.bool (paintFinishM p).1.active) := G11 3 _ rfl
    go_wp2_with fail
    refine (heldPaint_any _ (paintFinishM p).1 _ _ g11 hm.1 hm.2 (by omega) (by omega)).mono ?_
    rintro e w12 ⟨rfl, hB12⟩
    have hk1 : (0 : Int) ≤ 1 + (sizeP (paintFinishM p).1 : Int) := by omega
    have A12 := A11.below hB12
    have R12 := R11.below hB12
    have G12 := G11.below hB12
    have g12 := g11.below hB12
    have r12 := r11.below hB12
    have W12 : Below w.heap.size w w12 := W11.trans (hB12.mono W11.size)
    have s_12 : w11.heap.size ≤ w12.heap.size := hB12.size
    have zw_12 : w.heap.size < w12.heap.size := by omega
    have zw3_12 : w3.heap.size < w12.heap.size := by omega
    have zw4_12 : w4.heap.size < w12.heap.size := by omega
    have zw5_12 : w5.heap.size < w12.heap.size := by omega
    clear g_0 g_1 g_2 g_3
    have a0 : w12.cell? ⟨w.heap.size, 0, none⟩ = some (.slice B0 p.store.cells.length d0) := A12 0 _ rfl
    have a1 : w12.cell? ⟨w.heap.size, 1, none⟩ = some (.slice C0 p.store.roots.length e0) := A12 1 _ rfl
    have a2 : w12.cell? ⟨w.heap.size, 2, none⟩ = some (.slice E0 p.colours.length g0) := A12 2 _ rfl
    have a3 : w12.cell? ⟨w.heap.size, 3, none⟩ = some (.bool p.active) := A12 3 _ rfl
    go_wp2_with fail
    refine (toPaint_any _ p _ (hv0.below W12) s1.cells s1.refs s1.roots s2).mono ?_
    rintro e w13 ⟨v13, rfl, o13, hB13⟩
    go_wp2_with fail
    refine (implPaintFinish_any _ p _ o13.rp).mono ?_
    rintro e w14 ⟨v14, rfl, o14, hB14⟩
    obtain ⟨B14, d14, C14, e14, E14, g14, rfl, -⟩ := o14.rp
    have X14 : Below w12.heap.size w12 w14 := hB13.trans (hB14.mono hB13.size)
    have W14 : Below w.heap.size w w14 := W12.trans (X14.mono W12.size)
    have s_14 : w12.heap.size ≤ w14.heap.size := X14.size
    have zw_14 : w.heap.size < w14.heap.size := by omega
    have zw3_14 : w3.heap.size < w14.heap.size := by omega
    have zw4_14 : w4.heap.size < w14.heap.size := by omega
    have zw5_14 : w5.heap.size < w14.heap.size := by omega
    have R14 := R12.below X14
    have G14 := G12.below X14
    have g14 := g12.below X14
    have r14 := r12.below X14
    clear a0 a1 a2 a3
    have r_0 : w14.cell? ⟨w3.heap.size, 0, none⟩ = some (.slice B3 (paintFinishM p).1.store.cells.length d3) := R14 0 _ rfl
    have r_1 : w14.cell? ⟨w3.heap.size, 1, none⟩ = some (.slice C3 (paintFinishM p).1.store.roots.length e3) := R14 1 _ rfl
    have r_2 : w14.cell? ⟨w3.heap.size, 2, none⟩ = some (.slice E3 (paintFinishM p).1.colours.length g3) := R14 2 _ rfl
    have r_3 : w14.cell? ⟨w3.heap.size, 3, none⟩ = some (.bool (paintFinishM p).1.active) := R14 3 _ rfl
    have g_0 : w14.cell? ⟨w5.heap.size, 0, none⟩ = some (.slice B5 (paintFinishM p).1.store.cells.length d5) := G14 0 _ rfl
    have g_1 : w14.cell? ⟨w5.heap.size, 1, none⟩ = some (.slice C5 (paintFinishM p).1.store.roots.length e5) := G14 1 _ rfl
    have g_2 : w14.cell? ⟨w5.heap.size, 2, none⟩ = some (.slice E5 (paintFinishM p).1.colours.length g5) := G14 2 _ rfl
    have g_3 : w14.cell? ⟨w5.heap.size, 3, none⟩ = some (.bool (paintFinishM p).1.active) := G14 3 _ rfl
    have heq : eqB (paintFinishM p).1 (paintFinishM p).1 = true := eqB_of rfl
    go_wp2_with fail
    refine (eqPaint_any _ _ (paintFinishM p).1 (paintFinishM p).1 _ (o14.rp.below (by repeat (first | ((with_reducible refine Below.setc ?_ ?_ _); focus (first | omega | (simp; done) | (simp; omega))) | ((with_reducible refine Below.allocc ?_ ?_ _); focus (first | omega | (simp; done) | (simp; omega))) | (with_reducible refine Below.drew ?_) | (with_reducible refine Below.drewn ?_) | (with_reducible assumption) | (with_reducible exact Below.refl _ _) | ((with_reducible refine Below.stepp (by with_reducible assumption) ?_ ?_); focus (first | omega | (simp; done) | (simp; omega)))))) (r14.below (by repeat (first | ((with_reducible refine Below.setc ?_ ?_ _); focus (first | omega | (simp; done) | (simp; omega))) | ((with_reducible refine Below.allocc ?_ ?_ _); focus (first | omega | (simp; done) | (simp; omega))) | (with_reducible refine Below.drew ?_) | (with_reducible refine Below.drewn ?_) | (with_reducible assumption) | (with_reducible exact Below.refl _ _) | ((with_reducible refine Below.stepp (by with_reducible assumption) ?_ ?_); focus (first | omega | (simp; done) | (simp; omega))))))).mono ?_
    rw [heq]
    rintro e w15 ⟨rfl, hB15⟩
    (have z_hB15 := Below.size hB15); (try simp only [World.size_alloc, World.size_setCell, World.size_drew, World.heap_drewN] at z_hB15)
    have X15 : Below w14.heap.size w14 w15 := (by repeat (first | ((with_reducible refine Below.setc ?_ ?_ _); focus (first | omega | (simp; done) | (simp; omega))) | ((with_reducible refine Below.allocc ?_ ?_ _); focus (first | omega | (simp; done) | (simp; omega))) | (with_reducible refine Below.drew ?_) | (with_reducible refine Below.drewn ?_) | (with_reducible assumption) | (with_reducible exact Below.refl _ _) | ((with_reducible refine Below.stepp (by with_reducible assumption) ?_ ?_); focus (first | omega | (simp; done) | (simp; omega)))))
    have W15 : Below w.heap.size w w15 := W14.trans (X15.mono W14.size)
    have s_15 : w14.heap.size ≤ w15.heap.size := X15.size
    have zw_15 : w.heap.size < w15.heap.size := by omega
    have zw3_15 : w3.heap.size < w15.heap.size := by omega
    have zw4_15 : w4.heap.size < w15.heap.size := by omega
    have zw5_15 : w5.heap.size < w15.heap.size := by omega
    have G15 := G14.below X15
    have g15 := g14.below X15
    clear r_0 r_1 r_2 r_3 g_0 g_1 g_2 g_3 heq
    have g_0 : w15.cell? ⟨w5.heap.size, 0, none⟩ = some (.slice B5 (paintFinishM p).1.store.cells.length d5) := G15 0 _ rfl
    have g_1 : w15.cell? ⟨w5.heap.size, 1, none⟩ = some (.slice C5 (paintFinishM p).1.store.roots.length e5) := G15 1 _ rfl
    have g_2 : w15.cell? ⟨w5.heap.size, 2, none⟩ = some (.slice E5 (paintFinishM p).1.colours.length g5) := G15 2 _ rfl
    have g_3 : w15.cell? ⟨w5.heap.size, 3, none⟩ = some (.bool (paintFinishM p).1.active) := G15 3 _ rfl
    go_wp2_with fail
    refine (heldPaint_any _ (paintFinishM p).1 _ _ g15 hm.1 hm.2 (by omega) (by omega)).mono ?_
    rintro e w16 ⟨rfl, hB16⟩
    clear g_0 g_1 g_2 g_3
    go_wp2
    go_ret
    exact ⟨rfl, W15.trans (hB16.mono W15.size)⟩
end Go.Proofs.Ytdkhpmlimnfgpaa
