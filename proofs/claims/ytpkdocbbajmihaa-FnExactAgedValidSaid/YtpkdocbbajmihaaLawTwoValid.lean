/- FnExactSnapValid, FnExactAgedValid: the program's SnapValid and AgedValid return what the reference's returns, for every argument. No condition. -/
import Derived.Test.YtpkdocbbajmihaaChecked
import Derived.Deep.RegionHeld3
import Derived.Test.YtpkdocbbajmihaaSzP
import Derived.Test.YtpkdocbbajmihaaTo
import Derived.Test.YtpkdocbbajmihaaEq
import Derived.Test.YtpkdocbbajmihaaSnapV
import Derived.Test.YtpkdocbbajmihaaAgedVS
namespace Go.Proofs.Ytpkdocbbajmihaa
open Go.RowKit
set_option linter.unusedSimpArgs false
set_option linter.unusedVariables false
set_option maxHeartbeats 400000 in
theorem walkExactSnapValid (v : Value) (p : TwoM) (w : World) (hv : RTw w v p) :
    Calls Try.prog 4 #[v] w fun e w' => e = .returned (.bool true) ∧ Below w.heap.size w w' := by
  have hv' := hv
  obtain ⟨A, c, A', c', A2, c2, A3, c3, rfl, hh, hc, hcl, -⟩ := hv
  have hle := szH2_le p.store p.x.length p.y.length 1048576
  by_cases hneg : szH2 p.store p.x.length p.y.length 1048576 < 0
  · go_enter Try.func4, Try.ntmps4
    go_wp2_with (go_at_call 11; refine (szSnap_any _ p _ _ (hv'.below (by repeat (first | ((with_reducible refine Below.setc ?_ ?_ _); focus (first | omega | (simp; done) | (simp; omega))) | ((with_reducible refine Below.allocc ?_ ?_ _); focus (first | omega | (simp; done) | (simp; omega))) | (with_reducible refine Below.drew ?_) | (with_reducible refine Below.drewn ?_) | (with_reducible assumption) | (with_reducible exact Below.refl _ _) | ((with_reducible refine Below.stepp (by with_reducible assumption) ?_ ?_); focus (first | omega | (simp; done) | (simp; omega)))))) (by omega) (by omega)).mono ?_; rintro e w1 ⟨rfl, hB1⟩; obtain ⟨hbc, hbf, hbz⟩ := bcell hB1; have z0w1 : w.heap.size < w1.heap.size := (by (try simp at hbz); omega))
    go_ret
    exact ⟨rfl, (by repeat (first | ((with_reducible refine Below.setc ?_ ?_ _); focus (first | omega | (simp; done) | (simp; omega))) | ((with_reducible refine Below.allocc ?_ ?_ _); focus (first | omega | (simp; done) | (simp; omega))) | (with_reducible refine Below.drew ?_) | (with_reducible refine Below.drewn ?_) | (with_reducible assumption) | (with_reducible exact Below.refl _ _) | ((with_reducible refine Below.stepp (by with_reducible assumption) ?_ ?_); focus (first | omega | (simp; done) | (simp; omega)))))⟩
  · obtain ⟨⟨s1, s2, s3⟩, s4, s5⟩ := szH2_small hneg
    go_enter Try.func4, Try.ntmps4
    go_wp2_with (go_at_call 11; refine (szSnap_any _ p _ _ (hv'.below (by repeat (first | ((with_reducible refine Below.setc ?_ ?_ _); focus (first | omega | (simp; done) | (simp; omega))) | ((with_reducible refine Below.allocc ?_ ?_ _); focus (first | omega | (simp; done) | (simp; omega))) | (with_reducible refine Below.drew ?_) | (with_reducible refine Below.drewn ?_) | (with_reducible assumption) | (with_reducible exact Below.refl _ _) | ((with_reducible refine Below.stepp (by with_reducible assumption) ?_ ?_); focus (first | omega | (simp; done) | (simp; omega)))))) (by omega) (by omega)).mono ?_; rintro e w1 ⟨rfl, hB1⟩; obtain ⟨hbc, hbf, hbz⟩ := bcell hB1; have z0w1 : w.heap.size < w1.heap.size := (by (try simp at hbz); omega))
    refine (toSnap_any _ p _ (hv'.below (by repeat (first | ((with_reducible refine Below.setc ?_ ?_ _); focus (first | omega | (simp; done) | (simp; omega))) | ((with_reducible refine Below.allocc ?_ ?_ _); focus (first | omega | (simp; done) | (simp; omega))) | (with_reducible refine Below.drew ?_) | (with_reducible refine Below.drewn ?_) | (with_reducible assumption) | (with_reducible exact Below.refl _ _) | ((with_reducible refine Below.stepp (by with_reducible assumption) ?_ ?_); focus (first | omega | (simp; done) | (simp; omega)))))) s1 s2 s3 s4 s5).mono ?_
    rintro e w2 ⟨v2, rfl, ho2, hB2⟩
    obtain ⟨hbc2, hbf2, hbz2⟩ := bcell hB2
    have z0w2 : w.heap.size < w2.heap.size := (by (try simp at hbz2); omega)
    go_wp2_with fail
    refine (specSnapValid_any _ p _ ho2.rt).mono ?_
    rintro e w3 ⟨rfl, hB3⟩
    obtain ⟨hbc3, hbf3, hbz3⟩ := bcell hB3
    have z0w3 : w.heap.size < w3.heap.size := (by (try simp at hbz3); omega)
    go_wp2_with fail
    refine (toSnap_any _ p _ (hv'.below (by repeat (first | ((with_reducible refine Below.setc ?_ ?_ _); focus (first | omega | (simp; done) | (simp; omega))) | ((with_reducible refine Below.allocc ?_ ?_ _); focus (first | omega | (simp; done) | (simp; omega))) | (with_reducible refine Below.drew ?_) | (with_reducible refine Below.drewn ?_) | (with_reducible assumption) | (with_reducible exact Below.refl _ _) | ((with_reducible refine Below.stepp (by with_reducible assumption) ?_ ?_); focus (first | omega | (simp; done) | (simp; omega)))))) s1 s2 s3 s4 s5).mono ?_
    rintro e w4 ⟨v4, rfl, ho4, hB4⟩
    obtain ⟨hbc4, hbf4, hbz4⟩ := bcell hB4
    have z0w4 : w.heap.size < w4.heap.size := (by (try simp at hbz4); omega)
    have hr4 := ho4.rt
    obtain ⟨B, d, B', d', B2, d2, B3, d3, rfl, -⟩ := ho4.rt
    go_wp2_with fail
    refine (implSnapValid_any _ p _ (hr4.below (by repeat (first | ((with_reducible refine Below.setc ?_ ?_ _); focus (first | omega | (simp; done) | (simp; omega))) | ((with_reducible refine Below.allocc ?_ ?_ _); focus (first | omega | (simp; done) | (simp; omega))) | (with_reducible refine Below.drew ?_) | (with_reducible refine Below.drewn ?_) | (with_reducible assumption) | (with_reducible exact Below.refl _ _) | ((with_reducible refine Below.stepp (by with_reducible assumption) ?_ ?_); focus (first | omega | (simp; done) | (simp; omega))))))).mono ?_
    rintro e w5 ⟨rfl, hB5⟩
    obtain ⟨hbc5, hbf5, hbz5⟩ := bcell hB5
    have z0w5 : w.heap.size < w5.heap.size := (by (try simp at hbz5); omega)
    have y0 : w4.heap.size < w5.heap.size := by simp at hbz5; omega
    go_wp2_with fail
    have k0 : w5.cell? ⟨w4.heap.size, 0, none⟩ = some (.slice B p.store.cells.length d) := by rw [hbc5 _ _ (by simp)]; simp
    have k1 : w5.cell? ⟨w4.heap.size, 1, none⟩ = some (.slice B' p.store.roots.length d') := by rw [hbc5 _ _ (by simp)]; simp
    have k2 : w5.cell? ⟨w4.heap.size, 2, none⟩ = some (.slice B2 p.x.length d2) := by rw [hbc5 _ _ (by simp)]; simp
    have k3 : w5.cell? ⟨w4.heap.size, 3, none⟩ = some (.slice B3 p.y.length d3) := by rw [hbc5 _ _ (by simp)]; simp
    have hA : Below w.heap.size w w5 := (by repeat (first | ((with_reducible refine Below.setc ?_ ?_ _); focus (first | omega | (simp; done) | (simp; omega))) | ((with_reducible refine Below.allocc ?_ ?_ _); focus (first | omega | (simp; done) | (simp; omega))) | (with_reducible refine Below.drew ?_) | (with_reducible refine Below.drewn ?_) | (with_reducible assumption) | (with_reducible exact Below.refl _ _) | ((with_reducible refine Below.stepp (by with_reducible assumption) ?_ ?_); focus (first | omega | (simp; done) | (simp; omega)))))
    have hr5 := hr4.below (show Below w4.heap.size w4 w5 from (by repeat (first | ((with_reducible refine Below.setc ?_ ?_ _); focus (first | omega | (simp; done) | (simp; omega))) | ((with_reducible refine Below.allocc ?_ ?_ _); focus (first | omega | (simp; done) | (simp; omega))) | (with_reducible refine Below.drew ?_) | (with_reducible refine Below.drewn ?_) | (with_reducible exact Below.refl _ _) | ((with_reducible refine Below.stepp hB5 ?_ ?_); focus (first | omega | (simp; done) | (simp; omega))))))
    have hB0 : Below (w.heap.size + 1) (w.alloc (.cells #[.slice A p.store.cells.length c, .slice A' p.store.roots.length c', .slice A2 p.x.length c2, .slice A3 p.y.length c3] 40)) w5 := by
      have e1 := hB1.mono (show w.heap.size + 1 ≤ _ by simp)
      have e2 : Below (w.heap.size + 1) w1 w5 := (by repeat (first | ((with_reducible refine Below.setc ?_ ?_ _); focus (first | omega | (simp; done) | (simp; omega))) | ((with_reducible refine Below.allocc ?_ ?_ _); focus (first | omega | (simp; done) | (simp; omega))) | (with_reducible refine Below.drew ?_) | (with_reducible refine Below.drewn ?_) | (with_reducible exact Below.refl _ _) | ((with_reducible refine Below.stepp hB5 ?_ ?_); focus (first | omega | (simp; done) | (simp; omega))) | ((with_reducible refine Below.stepp hB4 ?_ ?_); focus (first | omega | (simp; done) | (simp; omega))) | ((with_reducible refine Below.stepp hB3 ?_ ?_); focus (first | omega | (simp; done) | (simp; omega))) | ((with_reducible refine Below.stepp hB2 ?_ ?_); focus (first | omega | (simp; done) | (simp; omega)))))
      exact e1.trans e2
    have j0 : w5.cell? ⟨w.heap.size, 0, none⟩ = some (.slice A p.store.cells.length c) := by rw [hB0.cell (p := ⟨_, 0, none⟩) (by simp)]; simp
    have j1 : w5.cell? ⟨w.heap.size, 1, none⟩ = some (.slice A' p.store.roots.length c') := by rw [hB0.cell (p := ⟨_, 1, none⟩) (by simp)]; simp
    have j2 : w5.cell? ⟨w.heap.size, 2, none⟩ = some (.slice A2 p.x.length c2) := by rw [hB0.cell (p := ⟨_, 2, none⟩) (by simp)]; simp
    have j3 : w5.cell? ⟨w.heap.size, 3, none⟩ = some (.slice A3 p.y.length c3) := by rw [hB0.cell (p := ⟨_, 3, none⟩) (by simp)]; simp
    have hv5 := hv'.below hA
    have hz5 := hA.size
    clear hbc hbf hbz hbc2 hbf2 hbz2 hbc3 hbf3 hbz3 hbc4 hbf4 hbz4 hbc5 hbf5 hbz5 hB1 hB2 hB3 hB4 hB5 hB0 ho2 ho4 hv' hr4 hh hc
    have heq : eqB p p = true := eqB_of rfl
    go_region_held3 (fun w' => w'.cell? ⟨w4.heap.size, 0, none⟩ = some (.slice B p.store.cells.length d) ∧ w'.cell? ⟨w4.heap.size, 1, none⟩ = some (.slice B' p.store.roots.length d') ∧ w'.cell? ⟨w4.heap.size, 2, none⟩ = some (.slice B2 p.x.length d2) ∧ w'.cell? ⟨w4.heap.size, 3, none⟩ = some (.slice B3 p.y.length d3) ∧
        w'.cell? ⟨w.heap.size, 0, none⟩ = some (.slice A p.store.cells.length c) ∧ w'.cell? ⟨w.heap.size, 1, none⟩ = some (.slice A' p.store.roots.length c') ∧ w'.cell? ⟨w.heap.size, 2, none⟩ = some (.slice A2 p.x.length c2) ∧ w'.cell? ⟨w.heap.size, 3, none⟩ = some (.slice A3 p.y.length c3))
      (first | exact ⟨k0, k1, k2, k3, j0, j1, j2, j3⟩ | exact ⟨cell_below k0 hC7, cell_below k1 hC7, cell_below k2 hC7, cell_below k3 hC7, cell_below j0 hC7, cell_below j1 hC7, cell_below j2 hC7, cell_below j3 hC7⟩ | exact ⟨cell_below k0 hC6, cell_below k1 hC6, cell_below k2 hC6, cell_below k3 hC6, cell_below j0 hC6, cell_below j1 hC6, cell_below j2 hC6, cell_below j3 hC6⟩)
      (first
        | (go_at_call 13; refine (toSnap_any _ p _ (hv5.below (by repeat (first | ((with_reducible refine Below.setc ?_ ?_ _); focus (first | omega | (simp; done) | (simp; omega))) | ((with_reducible refine Below.allocc ?_ ?_ _); focus (first | omega | (simp; done) | (simp; omega))) | (with_reducible refine Below.drew ?_) | (with_reducible refine Below.drewn ?_) | (with_reducible assumption) | (with_reducible exact Below.refl _ _) | ((with_reducible refine Below.stepp (by with_reducible assumption) ?_ ?_); focus (first | omega | (simp; done) | (simp; omega)))))) s1 s2 s3 s4 s5).mono ?_; rintro e w6 ⟨v6, rfl, ho6, hB6⟩; have hC6 : Below w5.heap.size w5 w6 := (by repeat (first | ((with_reducible refine Below.setc ?_ ?_ _); focus (first | omega | (simp; done) | (simp; omega))) | ((with_reducible refine Below.allocc ?_ ?_ _); focus (first | omega | (simp; done) | (simp; omega))) | (with_reducible refine Below.drew ?_) | (with_reducible refine Below.drewn ?_) | (with_reducible exact Below.refl _ _) | ((with_reducible refine Below.stepp hB6 ?_ ?_); focus (first | omega | (simp; done) | (simp; omega))))); have hz6 := hC6.size)
        | (go_at_call 15; refine (eqSnap_any _ _ p p _ (hr5.below (by repeat (first | ((with_reducible refine Below.setc ?_ ?_ _); focus (first | omega | (simp; done) | (simp; omega))) | ((with_reducible refine Below.allocc ?_ ?_ _); focus (first | omega | (simp; done) | (simp; omega))) | (with_reducible refine Below.drew ?_) | (with_reducible refine Below.drewn ?_) | (with_reducible assumption) | (with_reducible exact Below.refl _ _) | ((with_reducible refine Below.stepp (by with_reducible assumption) ?_ ?_); focus (first | omega | (simp; done) | (simp; omega)))))) (ho6.rt.below (by repeat (first | ((with_reducible refine Below.setc ?_ ?_ _); focus (first | omega | (simp; done) | (simp; omega))) | ((with_reducible refine Below.allocc ?_ ?_ _); focus (first | omega | (simp; done) | (simp; omega))) | (with_reducible refine Below.drew ?_) | (with_reducible refine Below.drewn ?_) | (with_reducible assumption) | (with_reducible exact Below.refl _ _) | ((with_reducible refine Below.stepp (by with_reducible assumption) ?_ ?_); focus (first | omega | (simp; done) | (simp; omega))))))).mono ?_; rintro e w7 ⟨rfl, hB7⟩; have hC7 : Below w5.heap.size w5 w7 := (by repeat (first | ((with_reducible refine Below.setc ?_ ?_ _); focus (first | omega | (simp; done) | (simp; omega))) | ((with_reducible refine Below.allocc ?_ ?_ _); focus (first | omega | (simp; done) | (simp; omega))) | (with_reducible refine Below.drew ?_) | (with_reducible refine Below.drewn ?_) | (with_reducible exact Below.refl _ _) | ((with_reducible refine Below.stepp hB7 ?_ ?_); focus (first | omega | (simp; done) | (simp; omega))) | ((with_reducible refine Below.stepp hC6 ?_ ?_); focus (first | omega | (simp; done) | (simp; omega)))))))
    go_wp2
    go_ret
    exact ⟨rfl, hA.trans (hC7.mono hz5)⟩
set_option maxHeartbeats 400000 in
theorem walkExactAgedValid (v : Value) (p : TwoM) (w : World) (hv : RTw w v p) :
    Calls Try.prog 5 #[v] w fun e w' => e = .returned (.bool true) ∧ Below w.heap.size w w' := by
  have hv' := hv
  obtain ⟨A, c, A', c', A2, c2, A3, c3, rfl, hh, hc, hcl, -⟩ := hv
  have hle := szH2_le p.store p.x.length p.y.length 1048576
  by_cases hneg : szH2 p.store p.x.length p.y.length 1048576 < 0
  · go_enter Try.func5, Try.ntmps5
    go_wp2_with (go_at_call 16; refine (szAged_any _ p _ _ (hv'.below (by repeat (first | ((with_reducible refine Below.setc ?_ ?_ _); focus (first | omega | (simp; done) | (simp; omega))) | ((with_reducible refine Below.allocc ?_ ?_ _); focus (first | omega | (simp; done) | (simp; omega))) | (with_reducible refine Below.drew ?_) | (with_reducible refine Below.drewn ?_) | (with_reducible assumption) | (with_reducible exact Below.refl _ _) | ((with_reducible refine Below.stepp (by with_reducible assumption) ?_ ?_); focus (first | omega | (simp; done) | (simp; omega)))))) (by omega) (by omega)).mono ?_; rintro e w1 ⟨rfl, hB1⟩; obtain ⟨hbc, hbf, hbz⟩ := bcell hB1; have z0w1 : w.heap.size < w1.heap.size := (by (try simp at hbz); omega))
    go_ret
    exact ⟨rfl, (by repeat (first | ((with_reducible refine Below.setc ?_ ?_ _); focus (first | omega | (simp; done) | (simp; omega))) | ((with_reducible refine Below.allocc ?_ ?_ _); focus (first | omega | (simp; done) | (simp; omega))) | (with_reducible refine Below.drew ?_) | (with_reducible refine Below.drewn ?_) | (with_reducible assumption) | (with_reducible exact Below.refl _ _) | ((with_reducible refine Below.stepp (by with_reducible assumption) ?_ ?_); focus (first | omega | (simp; done) | (simp; omega)))))⟩
  · obtain ⟨⟨s1, s2, s3⟩, s4, s5⟩ := szH2_small hneg
    go_enter Try.func5, Try.ntmps5
    go_wp2_with (go_at_call 16; refine (szAged_any _ p _ _ (hv'.below (by repeat (first | ((with_reducible refine Below.setc ?_ ?_ _); focus (first | omega | (simp; done) | (simp; omega))) | ((with_reducible refine Below.allocc ?_ ?_ _); focus (first | omega | (simp; done) | (simp; omega))) | (with_reducible refine Below.drew ?_) | (with_reducible refine Below.drewn ?_) | (with_reducible assumption) | (with_reducible exact Below.refl _ _) | ((with_reducible refine Below.stepp (by with_reducible assumption) ?_ ?_); focus (first | omega | (simp; done) | (simp; omega)))))) (by omega) (by omega)).mono ?_; rintro e w1 ⟨rfl, hB1⟩; obtain ⟨hbc, hbf, hbz⟩ := bcell hB1; have z0w1 : w.heap.size < w1.heap.size := (by (try simp at hbz); omega))
    refine (toAged_any _ p _ (hv'.below (by repeat (first | ((with_reducible refine Below.setc ?_ ?_ _); focus (first | omega | (simp; done) | (simp; omega))) | ((with_reducible refine Below.allocc ?_ ?_ _); focus (first | omega | (simp; done) | (simp; omega))) | (with_reducible refine Below.drew ?_) | (with_reducible refine Below.drewn ?_) | (with_reducible assumption) | (with_reducible exact Below.refl _ _) | ((with_reducible refine Below.stepp (by with_reducible assumption) ?_ ?_); focus (first | omega | (simp; done) | (simp; omega)))))) s1 s2 s3 s4 s5).mono ?_
    rintro e w2 ⟨v2, rfl, ho2, hB2⟩
    obtain ⟨hbc2, hbf2, hbz2⟩ := bcell hB2
    have z0w2 : w.heap.size < w2.heap.size := (by (try simp at hbz2); omega)
    go_wp2_with fail
    refine (specAgedValid_any _ p _ ho2.rt).mono ?_
    rintro e w3 ⟨rfl, hB3⟩
    obtain ⟨hbc3, hbf3, hbz3⟩ := bcell hB3
    have z0w3 : w.heap.size < w3.heap.size := (by (try simp at hbz3); omega)
    go_wp2_with fail
    refine (toAged_any _ p _ (hv'.below (by repeat (first | ((with_reducible refine Below.setc ?_ ?_ _); focus (first | omega | (simp; done) | (simp; omega))) | ((with_reducible refine Below.allocc ?_ ?_ _); focus (first | omega | (simp; done) | (simp; omega))) | (with_reducible refine Below.drew ?_) | (with_reducible refine Below.drewn ?_) | (with_reducible assumption) | (with_reducible exact Below.refl _ _) | ((with_reducible refine Below.stepp (by with_reducible assumption) ?_ ?_); focus (first | omega | (simp; done) | (simp; omega)))))) s1 s2 s3 s4 s5).mono ?_
    rintro e w4 ⟨v4, rfl, ho4, hB4⟩
    obtain ⟨hbc4, hbf4, hbz4⟩ := bcell hB4
    have z0w4 : w.heap.size < w4.heap.size := (by (try simp at hbz4); omega)
    have hr4 := ho4.rt
    obtain ⟨B, d, B', d', B2, d2, B3, d3, rfl, -⟩ := ho4.rt
    go_wp2_with fail
    refine (implAgedValid_any _ p _ (hr4.below (by repeat (first | ((with_reducible refine Below.setc ?_ ?_ _); focus (first | omega | (simp; done) | (simp; omega))) | ((with_reducible refine Below.allocc ?_ ?_ _); focus (first | omega | (simp; done) | (simp; omega))) | (with_reducible refine Below.drew ?_) | (with_reducible refine Below.drewn ?_) | (with_reducible assumption) | (with_reducible exact Below.refl _ _) | ((with_reducible refine Below.stepp (by with_reducible assumption) ?_ ?_); focus (first | omega | (simp; done) | (simp; omega))))))).mono ?_
    rintro e w5 ⟨rfl, hB5⟩
    obtain ⟨hbc5, hbf5, hbz5⟩ := bcell hB5
    have z0w5 : w.heap.size < w5.heap.size := (by (try simp at hbz5); omega)
    have y0 : w4.heap.size < w5.heap.size := by simp at hbz5; omega
    go_wp2_with fail
    have k0 : w5.cell? ⟨w4.heap.size, 0, none⟩ = some (.slice B p.store.cells.length d) := by rw [hbc5 _ _ (by simp)]; simp
    have k1 : w5.cell? ⟨w4.heap.size, 1, none⟩ = some (.slice B' p.store.roots.length d') := by rw [hbc5 _ _ (by simp)]; simp
    have k2 : w5.cell? ⟨w4.heap.size, 2, none⟩ = some (.slice B2 p.x.length d2) := by rw [hbc5 _ _ (by simp)]; simp
    have k3 : w5.cell? ⟨w4.heap.size, 3, none⟩ = some (.slice B3 p.y.length d3) := by rw [hbc5 _ _ (by simp)]; simp
    have hA : Below w.heap.size w w5 := (by repeat (first | ((with_reducible refine Below.setc ?_ ?_ _); focus (first | omega | (simp; done) | (simp; omega))) | ((with_reducible refine Below.allocc ?_ ?_ _); focus (first | omega | (simp; done) | (simp; omega))) | (with_reducible refine Below.drew ?_) | (with_reducible refine Below.drewn ?_) | (with_reducible assumption) | (with_reducible exact Below.refl _ _) | ((with_reducible refine Below.stepp (by with_reducible assumption) ?_ ?_); focus (first | omega | (simp; done) | (simp; omega)))))
    have hr5 := hr4.below (show Below w4.heap.size w4 w5 from (by repeat (first | ((with_reducible refine Below.setc ?_ ?_ _); focus (first | omega | (simp; done) | (simp; omega))) | ((with_reducible refine Below.allocc ?_ ?_ _); focus (first | omega | (simp; done) | (simp; omega))) | (with_reducible refine Below.drew ?_) | (with_reducible refine Below.drewn ?_) | (with_reducible exact Below.refl _ _) | ((with_reducible refine Below.stepp hB5 ?_ ?_); focus (first | omega | (simp; done) | (simp; omega))))))
    have hB0 : Below (w.heap.size + 1) (w.alloc (.cells #[.slice A p.store.cells.length c, .slice A' p.store.roots.length c', .slice A2 p.x.length c2, .slice A3 p.y.length c3] 49)) w5 := by
      have e1 := hB1.mono (show w.heap.size + 1 ≤ _ by simp)
      have e2 : Below (w.heap.size + 1) w1 w5 := (by repeat (first | ((with_reducible refine Below.setc ?_ ?_ _); focus (first | omega | (simp; done) | (simp; omega))) | ((with_reducible refine Below.allocc ?_ ?_ _); focus (first | omega | (simp; done) | (simp; omega))) | (with_reducible refine Below.drew ?_) | (with_reducible refine Below.drewn ?_) | (with_reducible exact Below.refl _ _) | ((with_reducible refine Below.stepp hB5 ?_ ?_); focus (first | omega | (simp; done) | (simp; omega))) | ((with_reducible refine Below.stepp hB4 ?_ ?_); focus (first | omega | (simp; done) | (simp; omega))) | ((with_reducible refine Below.stepp hB3 ?_ ?_); focus (first | omega | (simp; done) | (simp; omega))) | ((with_reducible refine Below.stepp hB2 ?_ ?_); focus (first | omega | (simp; done) | (simp; omega)))))
      exact e1.trans e2
    have j0 : w5.cell? ⟨w.heap.size, 0, none⟩ = some (.slice A p.store.cells.length c) := by rw [hB0.cell (p := ⟨_, 0, none⟩) (by simp)]; simp
    have j1 : w5.cell? ⟨w.heap.size, 1, none⟩ = some (.slice A' p.store.roots.length c') := by rw [hB0.cell (p := ⟨_, 1, none⟩) (by simp)]; simp
    have j2 : w5.cell? ⟨w.heap.size, 2, none⟩ = some (.slice A2 p.x.length c2) := by rw [hB0.cell (p := ⟨_, 2, none⟩) (by simp)]; simp
    have j3 : w5.cell? ⟨w.heap.size, 3, none⟩ = some (.slice A3 p.y.length c3) := by rw [hB0.cell (p := ⟨_, 3, none⟩) (by simp)]; simp
    have hv5 := hv'.below hA
    have hz5 := hA.size
    clear hbc hbf hbz hbc2 hbf2 hbz2 hbc3 hbf3 hbz3 hbc4 hbf4 hbz4 hbc5 hbf5 hbz5 hB1 hB2 hB3 hB4 hB5 hB0 ho2 ho4 hv' hr4 hh hc
    have heq : eqB p p = true := eqB_of rfl
    go_region_held3 (fun w' => w'.cell? ⟨w4.heap.size, 0, none⟩ = some (.slice B p.store.cells.length d) ∧ w'.cell? ⟨w4.heap.size, 1, none⟩ = some (.slice B' p.store.roots.length d') ∧ w'.cell? ⟨w4.heap.size, 2, none⟩ = some (.slice B2 p.x.length d2) ∧ w'.cell? ⟨w4.heap.size, 3, none⟩ = some (.slice B3 p.y.length d3) ∧
        w'.cell? ⟨w.heap.size, 0, none⟩ = some (.slice A p.store.cells.length c) ∧ w'.cell? ⟨w.heap.size, 1, none⟩ = some (.slice A' p.store.roots.length c') ∧ w'.cell? ⟨w.heap.size, 2, none⟩ = some (.slice A2 p.x.length c2) ∧ w'.cell? ⟨w.heap.size, 3, none⟩ = some (.slice A3 p.y.length c3))
      (first | exact ⟨k0, k1, k2, k3, j0, j1, j2, j3⟩ | exact ⟨cell_below k0 hC7, cell_below k1 hC7, cell_below k2 hC7, cell_below k3 hC7, cell_below j0 hC7, cell_below j1 hC7, cell_below j2 hC7, cell_below j3 hC7⟩ | exact ⟨cell_below k0 hC6, cell_below k1 hC6, cell_below k2 hC6, cell_below k3 hC6, cell_below j0 hC6, cell_below j1 hC6, cell_below j2 hC6, cell_below j3 hC6⟩)
      (first
        | (go_at_call 18; refine (toAged_any _ p _ (hv5.below (by repeat (first | ((with_reducible refine Below.setc ?_ ?_ _); focus (first | omega | (simp; done) | (simp; omega))) | ((with_reducible refine Below.allocc ?_ ?_ _); focus (first | omega | (simp; done) | (simp; omega))) | (with_reducible refine Below.drew ?_) | (with_reducible refine Below.drewn ?_) | (with_reducible assumption) | (with_reducible exact Below.refl _ _) | ((with_reducible refine Below.stepp (by with_reducible assumption) ?_ ?_); focus (first | omega | (simp; done) | (simp; omega)))))) s1 s2 s3 s4 s5).mono ?_; rintro e w6 ⟨v6, rfl, ho6, hB6⟩; have hC6 : Below w5.heap.size w5 w6 := (by repeat (first | ((with_reducible refine Below.setc ?_ ?_ _); focus (first | omega | (simp; done) | (simp; omega))) | ((with_reducible refine Below.allocc ?_ ?_ _); focus (first | omega | (simp; done) | (simp; omega))) | (with_reducible refine Below.drew ?_) | (with_reducible refine Below.drewn ?_) | (with_reducible exact Below.refl _ _) | ((with_reducible refine Below.stepp hB6 ?_ ?_); focus (first | omega | (simp; done) | (simp; omega))))); have hz6 := hC6.size)
        | (go_at_call 20; refine (eqAged_any _ _ p p _ (hr5.below (by repeat (first | ((with_reducible refine Below.setc ?_ ?_ _); focus (first | omega | (simp; done) | (simp; omega))) | ((with_reducible refine Below.allocc ?_ ?_ _); focus (first | omega | (simp; done) | (simp; omega))) | (with_reducible refine Below.drew ?_) | (with_reducible refine Below.drewn ?_) | (with_reducible assumption) | (with_reducible exact Below.refl _ _) | ((with_reducible refine Below.stepp (by with_reducible assumption) ?_ ?_); focus (first | omega | (simp; done) | (simp; omega)))))) (ho6.rt.below (by repeat (first | ((with_reducible refine Below.setc ?_ ?_ _); focus (first | omega | (simp; done) | (simp; omega))) | ((with_reducible refine Below.allocc ?_ ?_ _); focus (first | omega | (simp; done) | (simp; omega))) | (with_reducible refine Below.drew ?_) | (with_reducible refine Below.drewn ?_) | (with_reducible assumption) | (with_reducible exact Below.refl _ _) | ((with_reducible refine Below.stepp (by with_reducible assumption) ?_ ?_); focus (first | omega | (simp; done) | (simp; omega))))))).mono ?_; rintro e w7 ⟨rfl, hB7⟩; have hC7 : Below w5.heap.size w5 w7 := (by repeat (first | ((with_reducible refine Below.setc ?_ ?_ _); focus (first | omega | (simp; done) | (simp; omega))) | ((with_reducible refine Below.allocc ?_ ?_ _); focus (first | omega | (simp; done) | (simp; omega))) | (with_reducible refine Below.drew ?_) | (with_reducible refine Below.drewn ?_) | (with_reducible exact Below.refl _ _) | ((with_reducible refine Below.stepp hB7 ?_ ?_); focus (first | omega | (simp; done) | (simp; omega))) | ((with_reducible refine Below.stepp hC6 ?_ ?_); focus (first | omega | (simp; done) | (simp; omega)))))))
    go_wp2
    go_ret
    exact ⟨rfl, hA.trans (hC7.mono hz5)⟩
end Go.Proofs.Ytpkdocbbajmihaa
