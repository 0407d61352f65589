/- Texts of one family, one behind the other: App, Copy, CopyI, CopyS, CopyT. -/
import Derived.Test.YtkikeanpbffpkaaChecked
import Derived.Maps.AppendAt
import Derived.RegionTactic
import Derived.OwnWalk
import Derived.Test.YtkikeanpbffpkaaGrTo
import Derived.Deep.RegionHeld3
import Derived.Deep.DeepCutAuto
import Derived.IntWalk
/- append onto rows of the call's own: of a list that reads as such (nil, empty or not), and of one cell. -/
namespace Go.Proofs.Ytkikeanpbffpkaa
open Go.RowKit
set_option maxRecDepth 100000
set_option linter.unusedSimpArgs false
set_option linter.unusedVariables false

section
variable {P : Program} {w : World}
theorem run_append_of_nil (t ty e : TypeId) (i : TypeInfo) (ht : P.underlying t = some (.slice e)) (hi : P.info? e = some i)
    (v : Value) (n size : Nat) (xs : List Value) (hown : w.ownsRow 0 e size v n xs) (c : Nat) : (Builtin.append_ #[t, t] ty #[v, .slice none 0 c]).run P w = .ok v w := by
  rcases hown.2 with ⟨rfl, rfl⟩ | ⟨g, cap, cur, rfl, _, _, hnc, _⟩
  · simp [Builtin.append_, run_underlying ht, sizeOf, typeInfo, hi, Builtin.lenOf, Builtin.firstCells]
  · simp [Builtin.append_, run_underlying ht, sizeOf, typeInfo, hi, Builtin.lenOf, Builtin.firstCells, hnc, storeCells]
theorem ownBlock_blk (S : Option Addr) (n c : Nat) : (Value.slice S n c).ownBlock = S.map (·.block) := by cases S <;> rfl
theorem blk_of_map {S : Option Addr} {g : Nat} (h : S.map (·.block) = some g) : blk S = [g] := by
  cases S with
  | none => simp at h
  | some a => simp at h; simp [blk, h]
theorem only_of_grown {w w' : World} {S : Option Addr} {n c : Nat} (h : w.grownBy w' (Value.slice S n c).ownBlock) : Only (blk S) w w' :=
  ⟨h.os, h.tape, h.output, h.size, fun k hk hs => h.block k hk (fun e => by
    rw [ownBlock_blk] at e
    exact hs (by rw [blk_of_map e.symm]; simp))⟩
/-- append of a list onto a row of the call's own. -/
theorem run_app {α : Type} {T : TypeId} {f : α → Value} (t ty : TypeId) (i : TypeInfo) (z : Value) (bytes : Nat) (ht : P.underlying t = some (.slice T)) (hi : P.info? T = some i) (hz : i.zero = some z)
    (hsize : i.size = 1) (hby : i.bytes = bytes) (hzs : z.cells.size = 1) (h1 : ∀ x, (f x).oneCell' = true)
    {S : Option Addr} {c : Nat} {xs : List α} (hown : OF T f w S c xs) {A : Option Addr} {ys : List α} (c2 : Nat) (hr : RF f w A ys)
    (h63 : xs.length + ys.length ≤ 9223372036854775807) (hbytes : (xs.length + ys.length) * bytes ≤ 140737488355328) (hnil : A = none → ys.length = 0) :
    ∃ S' c' w', (Builtin.append_ #[t, t] ty #[.slice S xs.length c, .slice A ys.length c2]).run P w = .ok (.slice S' (xs ++ ys).length c') w' ∧ OF T f w' S' c' (xs ++ ys) ∧ Only (blk S) w w' ∧
      (∀ g ∈ blk S', g ∈ blk S ∨ w.heap.size ≤ g) := by
  cases A with
  | none =>
    have h0 := hnil rfl
    have hn : ys = [] := List.eq_nil_of_length_eq_zero h0
    subst hn
    refine ⟨S, c, w, ?_, by simpa using hown, Only.refl _ _, fun g hg => .inl hg⟩
    have := run_append_of_nil (P := P) t ty T i ht hi _ _ 1 _ hown c2
    simpa using this
  | some ad =>
    have hcells : ∀ j u, (ys.map f)[j]? = some u → w.cell? (ad.add j) = some u := by
      intro j u hu
      rw [List.getElem?_map, Option.map_eq_some_iff] at hu
      obtain ⟨x, hx, rfl⟩ := hu
      obtain ⟨b, o, x', hA, hx', hc⟩ := hr j (List.getElem?_eq_some_iff.1 hx).1
      injection hA with hA
      subst hA
      rw [hx] at hx'
      injection hx' with hx'
      subst hx'
      have : (⟨b, o, none⟩ : Addr).add j = ⟨b, o + j, none⟩ := by unfold Addr.add; split <;> simp_all
      rw [this]; exact hc
    have h1' : ∀ u ∈ ys.map f, u.oneCell' = true := by
      intro u hu
      obtain ⟨x, _, rfl⟩ := List.mem_map.1 hu
      exact h1 x
    obtain ⟨v', w', hrun, h2, h3, _, h5⟩ := run_append_own_at (P := P) w 0 t ty T i z 1 bytes ht hi hz hsize hby hzs (by omega) _ xs.length _ hown ad ys.length c2 (ys.map f) (by simp) hcells h1' (by simp only [maxLen]; omega) hbytes (Nat.zero_le _)
    have hv : ∃ S' c', v' = .slice S' (xs.length + ys.length) c' := by
      rcases h2.2 with ⟨h, h0⟩ | ⟨g, cap, cur, h, _⟩
      · exact ⟨none, 0, by rw [h, h0]⟩
      · exact ⟨_, cap, h⟩
    obtain ⟨S', c', rfl⟩ := hv
    refine ⟨S', c', w', by rw [List.length_append]; exact hrun, ?_, only_of_grown h3, fun g hg => ?_⟩
    · unfold OF; rw [List.length_append, List.map_append]; exact h2
    · rw [ownBlock_blk, ownBlock_blk] at h5
      have hg' : S'.map (·.block) = some g := by
        cases S' with
        | none => simp [blk] at hg
        | some a => simp [blk] at hg; simp [hg]
      rcases h5 with h5 | h5
      · left; rw [hg'] at h5; rw [blk_of_map h5.symm]; simp
      · right; rw [hg'] at h5; injection h5 with h5; omega
/-- append of one cell onto a row of cells of the call's own. -/
theorem run_appc (t ty : TypeId) (i : TypeInfo) (z : Value) (bytes : Nat) (ht : P.underlying t = some (.slice 38)) (hi : P.info? 38 = some i) (hz : i.zero = some z)
    (hsize : i.size = 3) (hby : i.bytes = bytes) (hzs : z.cells.size = 3)
    {S : Option Addr} {c : Nat} {os : List OCell} (hown : OC w S c os) (o : OCell) (ho : OF 3 fi w o.A o.cap o.c.refs) (hol : o.c.refs.length ≤ 9223372036854775807) (b c2 : Nat)
    (k0 : w.cell? ⟨b, 0, none⟩ = some (.bool o.c.used)) (k1 : w.cell? ⟨b, 1, none⟩ = some (.int .i64 o.c.data)) (k2 : w.cell? ⟨b, 2, none⟩ = some (.slice o.A o.c.refs.length o.cap))
    (h63 : os.length + 1 ≤ 9223372036854775807) (hbytes : (os.length + 1) * bytes ≤ 140737488355328) :
    ∃ S' c' w', (Builtin.append_ #[t, t] ty #[.slice S os.length c, .slice (some ⟨b, 0, none⟩) 1 c2]).run P w = .ok (.slice S' (os ++ [o]).length c') w' ∧ OC w' S' c' (os ++ [o]) ∧ Only (blk S) w w' ∧
      (∀ g ∈ blk S', g ∈ blk S ∨ w.heap.size ≤ g) := by
  have hcells : ∀ j u, (cellVals o)[j]? = some u → w.cell? ((⟨b, 0, none⟩ : Addr).add j) = some u := by
    intro j u hu
    have hj := (List.getElem?_eq_some_iff.1 hu).1
    simp [cellVals] at hj
    rcases (by omega : j = 0 ∨ j = 1 ∨ j = 2) with rfl | rfl | rfl
    all_goals
      simp [cellVals] at hu
      subst hu
      simp [Addr.add, *]
  have h1' : ∀ u ∈ cellVals o, u.oneCell' = true := by
    intro u hu
    simp [cellVals] at hu
    rcases hu with rfl | rfl | rfl <;> rfl
  obtain ⟨v', w', hrun, h2, h3, _, h5⟩ := run_append_own_at (P := P) w 0 t ty 38 i z 3 bytes ht hi hz hsize hby hzs (by omega) _ os.length _ hown.1 ⟨b, 0, none⟩ 1 c2 (cellVals o) (by simp [cellVals]) hcells h1' (by simp only [maxLen]; omega) hbytes (Nat.zero_le _)
  have hv : ∃ S' c', v' = .slice S' (os.length + 1) c' := by
    rcases h2.2 with ⟨h, h0⟩ | ⟨g, cap, cur, h, _⟩
    · omega
    · exact ⟨_, cap, h⟩
  obtain ⟨S', c', rfl⟩ := hv
  have hO := only_of_grown h3
  refine ⟨S', c', w', by rw [List.length_append]; exact hrun, ⟨?_, fun q hq => ?_⟩, hO, fun g hg => ?_⟩
  · rw [List.length_append, List.flatMap_append]; simpa using h2
  · have key : OF 3 fi w q.A q.cap q.c.refs ∧ q.c.refs.length ≤ 9223372036854775807 := by
      rcases List.mem_append.1 hq with hq | hq
      · exact hown.2 q hq
      · simp at hq; subst hq; exact ⟨ho, hol⟩
    exact ⟨key.1.only hO fun g hg => hown.apart key.1 g hg, key.2⟩
  · rw [ownBlock_blk, ownBlock_blk] at h5
    have hg' : S'.map (·.block) = some g := by
      cases S' with
      | none => simp [blk] at hg
      | some a => simp [blk] at hg; simp [hg]
    rcases h5 with h5 | h5
    · left; rw [hg'] at h5; rw [blk_of_map h5.symm]; simp
    · right; rw [hg'] at h5; injection h5 with h5; omega

/-- An append whose run is known, at a plain region's list and at a drawn region's step. -/
theorem wpList_ran {ops : Array Oper} {rest : List Oper} {o : Oper} {a : Act} {Q : Exit → Act → World → Prop} (hgd : o.guard = none) (s x : Operand) (t : TypeId)
    (ho : o.op = .call { callee := .builtin .append, args := #[s, x], argTypes := #[t, t] }) {v u v' : Value} {w' : World} (hs : a.eval s = v) (hx : a.eval x = u)
    (hrun : (Builtin.append_ #[t, t] o.type #[v, u]).run P w = .ok v' w') (h : wpList P ops Q rest (a.put o.dst v') w') : wpList P ops Q (o :: rest) a w :=
  wpList_plain hgd fun _ hK => by
    unfold Oper.wp execOp
    simp only [ho, resolve, invoke, builtin, Sem.run_bind, Sem.run_pure, Result.andThen_ok, List.map_toArray, List.map_cons, List.map_nil, hs, hx, hrun]
    exact hK _ _ h
theorem step_ran {ops : Array Oper} {o : Oper} {a : Act} {K : Act → World → Prop} {Q : Exit → Act → World → Prop} {E : Prop} (hgd : o.guard = none) (s x : Operand) (t : TypeId)
    (ho : o.op = .call { callee := .builtin .append, args := #[s, x], argTypes := #[t, t] }) {v u v' : Value} {w' : World} (hs : a.eval s = v) (hx : a.eval x = u)
    (hrun : (Builtin.append_ #[t, t] o.type #[v, u]).run P w = .ok v' w') (h : K (a.put o.dst v') w') : if Region.wanted o (yielded ops a.tmps) = true then Oper.wp P o a w K Q else E := by
  have hw : Region.wanted o (yielded ops a.tmps) = true := by simp [Region.wanted, hgd]
  rw [if_pos hw]
  unfold Oper.wp execOp
  simp only [ho, resolve, invoke, builtin, Sem.run_bind, Sem.run_pure, Result.andThen_ok, List.map_toArray, List.map_cons, List.map_nil, hs, hx, hrun]
  exact h
end
theorem RF.nil_len {α : Type} {f : α → Value} {w : World} {A : Option Addr} {xs : List α} (h : RF f w A xs) : A = none → xs.length = 0 := by
  intro hA
  rcases Nat.eq_zero_or_pos xs.length with h0 | h0
  · exact h0
  · obtain ⟨b, o, x, h1, _⟩ := h 0 h0
    rw [hA] at h1; cases h1
theorem app_ints {w : World} (ty : TypeId) {S : Option Addr} {c : Nat} {xs : List Int} (hown : OF 3 fi w S c xs) {A : Option Addr} {ys : List Int} (c2 : Nat) (hr : RF fi w A ys) (h : xs.length + ys.length ≤ 1099511627776) :
    ∃ S' c' w', (Builtin.append_ #[24, 24] ty #[.slice S xs.length c, .slice A ys.length c2]).run Try.prog w = .ok (.slice S' (xs ++ ys).length c') w' ∧ OF 3 fi w' S' c' (xs ++ ys) ∧ Only (blk S) w w' ∧ (∀ g ∈ blk S', g ∈ blk S ∨ w.heap.size ≤ g) := by
  obtain ⟨i0, hi, hz0, hz1, hz2⟩ := info_parts info_int
  exact run_app 24 ty i0 _ 8 Try.underlying24 hi hz0 hz1 hz2 rfl (fun _ => rfl) hown c2 hr (by omega) (by omega) hr.nil_len
theorem app_bools {w : World} (ty : TypeId) {S : Option Addr} {c : Nat} {xs : List Bool} (hown : OF 4 fb w S c xs) {A : Option Addr} {ys : List Bool} (c2 : Nat) (hr : RF fb w A ys) (h : xs.length + ys.length ≤ 1099511627776) :
    ∃ S' c' w', (Builtin.append_ #[82, 82] ty #[.slice S xs.length c, .slice A ys.length c2]).run Try.prog w = .ok (.slice S' (xs ++ ys).length c') w' ∧ OF 4 fb w' S' c' (xs ++ ys) ∧ Only (blk S) w w' ∧ (∀ g ∈ blk S', g ∈ blk S ∨ w.heap.size ≤ g) := by
  obtain ⟨i0, hi, hz0, hz1, hz2⟩ := info_parts info_bool
  exact run_app 82 ty i0 _ 1 Try.underlying82 hi hz0 hz1 hz2 rfl (fun _ => rfl) hown c2 hr (by omega) (by omega) hr.nil_len
theorem app_cell {w : World} (ty : TypeId) {S : Option Addr} {c : Nat} {os : List OCell} (hown : OC w S c os) (o : OCell) (ho : OF 3 fi w o.A o.cap o.c.refs) (hol : o.c.refs.length ≤ 9223372036854775807) (b c2 : Nat)
    (k0 : w.cell? ⟨b, 0, none⟩ = some (.bool o.c.used)) (k1 : w.cell? ⟨b, 1, none⟩ = some (.int .i64 o.c.data)) (k2 : w.cell? ⟨b, 2, none⟩ = some (.slice o.A o.c.refs.length o.cap)) (h : os.length ≤ 1099511627776) :
    ∃ S' c' w', (Builtin.append_ #[23, 23] ty #[.slice S os.length c, .slice (some ⟨b, 0, none⟩) 1 c2]).run Try.prog w = .ok (.slice S' (os ++ [o]).length c') w' ∧ OC w' S' c' (os ++ [o]) ∧ Only (blk S) w w' ∧ (∀ g ∈ blk S', g ∈ blk S ∨ w.heap.size ≤ g) := by
  obtain ⟨i0, hi, hz0, hz1, hz2⟩ := info_parts info_cell
  exact run_appc 23 ty i0 _ 40 Try.underlying23 hi hz0 hz1 hz2 rfl hown o ho hol b c2 k0 k1 k2 (by omega) (by omega)

section
variable {w w' : World}
theorem Only.cellAt {S : List Nat} (h : Only S w w') : ∀ b o, b < w.heap.size → b ∉ S → w'.cell? ⟨b, o, none⟩ = w.cell? ⟨b, o, none⟩ := fun b o hb hs => World.cell?_of_block (a := ⟨b, o, none⟩) (h.block b hb hs)
theorem Only.frozenAt {S : List Nat} (h : Only S w w') : ∀ b o, b < w.heap.size → b ∉ S → w'.frozen? ⟨b, o, none⟩ = w.frozen? ⟨b, o, none⟩ := fun b o hb hs => World.frozen?_of_block (a := ⟨b, o, none⟩) (h.block b hb hs)
theorem blk_nodup (S : Option Addr) : (blk S).Nodup := by cases S <;> simp [blk]
theorem nd_push {A B C A' D : List Nat} {n n5 : Nat} (h : (A ++ B ++ C).Nodup) (hl : ∀ g ∈ A ++ B ++ C, g < n) (h5 : ∀ g ∈ A', g ∈ A ∨ n5 ≤ g) (h2 : ∀ g ∈ D, n ≤ g ∧ g < n5) (hn : n ≤ n5) (hA : A'.Nodup) (hD : D.Nodup) : (A' ++ (B ++ D) ++ C).Nodup := by
  simp only [List.nodup_append, List.mem_append] at *
  grind
/-- A cell more in a heap of the call's own. -/
theorem OHs.push {SA S5 S : Option Addr} {c1 c5 k n n5 : Nat} {os : List OCell} {o : OCell} {rs : List Int} (hO : OHs w SA c1 S k os rs) (hC : OC w' S5 c5 (os ++ [o])) (hR : OF 3 fi w' S k rs)
    (h5 : ∀ g ∈ blk S5, g ∈ blk SA ∨ n5 ≤ g) (h2 : ∀ g ∈ blk o.A, n ≤ g ∧ g < n5) (hw : w.heap.size ≤ n) (hn : n ≤ n5) (hl : os.length ≤ 1099511627776) : OHs w' S5 c5 S k (os ++ [o]) rs :=
  ⟨hC, hR, by rw [blks_append]; exact nd_push hO.nodup (fun g hg => Nat.lt_of_lt_of_le (hO.lt g hg) hw) h5 (by simpa [blks] using h2) hn (blk_nodup _) (by simpa [blks] using blk_nodup _), by rw [List.length_append, List.length_singleton]; omega, hO.rlen⟩
variable {ops : Array Oper} {o : Oper} {a : Act} {K : Act → World → Prop} {Q : Exit → Act → World → Prop} {E : Prop}
/-- append of one cell, as a drawn region's step. -/
theorem step_appc (hgd : o.guard = none) (s x : Operand) (ho : o.op = .call { callee := .builtin .append, args := #[s, x], argTypes := #[23, 23] })
    {S : Option Addr} {c b c2 : Nat} {os : List OCell} (hs : a.eval s = .slice S os.length c) (hx : a.eval x = .slice (some ⟨b, 0, none⟩) 1 c2)
    (hown : OC w S c os) (oc : OCell) (hoc : OF 3 fi w oc.A oc.cap oc.c.refs) (hol : oc.c.refs.length ≤ 9223372036854775807)
    (k0 : w.cell? ⟨b, 0, none⟩ = some (.bool oc.c.used)) (k1 : w.cell? ⟨b, 1, none⟩ = some (.int .i64 oc.c.data)) (k2 : w.cell? ⟨b, 2, none⟩ = some (.slice oc.A oc.c.refs.length oc.cap)) (h : os.length ≤ 1099511627776)
    (hK : ∀ S' c' w', OC w' S' c' (os ++ [oc]) → Only (blk S) w w' → (∀ g ∈ blk S', g ∈ blk S ∨ w.heap.size ≤ g) → K (a.put o.dst (.slice S' (os ++ [oc]).length c')) w') :
    if Region.wanted o (yielded ops a.tmps) = true then Oper.wp Try.prog o a w K Q else E := by
  obtain ⟨S', c', w', hrun, h1, h2, h3⟩ := app_cell o.type hown oc hoc hol b c2 k0 k1 k2 h
  exact step_ran hgd s x _ ho hs hx hrun (hK _ _ _ h1 h2 h3)
end
section
variable {w : World} {ops : Array Oper} {o : Oper} {a : Act} {K : Act → World → Prop} {Q : Exit → Act → World → Prop} {E : Prop}
/-- append of a list of Int: at a plain region's list, and as a drawn region's step. -/
theorem wpList_appi {rest : List Oper} {Q : Exit → Act → World → Prop} (hgd : o.guard = none) (s x : Operand) (ho : o.op = .call { callee := .builtin .append, args := #[s, x], argTypes := #[24, 24] })
    {S A : Option Addr} {c c2 : Nat} (xs : List Int) {ys : List Int} (hs : a.eval s = .slice S xs.length c) (hx : a.eval x = .slice A ys.length c2)
    (hown : OF 3 fi w S c xs) (hr : RF fi w A ys) (h : xs.length + ys.length ≤ 1099511627776)
    (hK : ∀ S' c' w', OF 3 fi w' S' c' (xs ++ ys) → Only (blk S) w w' → (∀ g ∈ blk S', g ∈ blk S ∨ w.heap.size ≤ g) → wpList Try.prog ops Q rest (a.put o.dst (.slice S' (xs ++ ys).length c')) w') :
    wpList Try.prog ops Q (o :: rest) a w := by
  obtain ⟨S', c', w', hrun, h1, h2, h3⟩ := app_ints o.type hown c2 hr h
  exact wpList_ran hgd s x _ ho hs hx hrun (hK _ _ _ h1 h2 h3)
theorem step_appi (hgd : o.guard = none) (s x : Operand) (ho : o.op = .call { callee := .builtin .append, args := #[s, x], argTypes := #[24, 24] })
    {S A : Option Addr} {c c2 : Nat} (xs : List Int) {ys : List Int} (hs : a.eval s = .slice S xs.length c) (hx : a.eval x = .slice A ys.length c2)
    (hown : OF 3 fi w S c xs) (hr : RF fi w A ys) (h : xs.length + ys.length ≤ 1099511627776)
    (hK : ∀ S' c' w', OF 3 fi w' S' c' (xs ++ ys) → Only (blk S) w w' → (∀ g ∈ blk S', g ∈ blk S ∨ w.heap.size ≤ g) → K (a.put o.dst (.slice S' (xs ++ ys).length c')) w') :
    if Region.wanted o (yielded ops a.tmps) = true then Oper.wp Try.prog o a w K Q else E := by
  obtain ⟨S', c', w', hrun, h1, h2, h3⟩ := app_ints o.type hown c2 hr h
  exact step_ran hgd s x _ ho hs hx hrun (hK _ _ _ h1 h2 h3)
/-- append of a list of Bool: at a plain region's list, and as a drawn region's step. -/
theorem wpList_appb {rest : List Oper} {Q : Exit → Act → World → Prop} (hgd : o.guard = none) (s x : Operand) (ho : o.op = .call { callee := .builtin .append, args := #[s, x], argTypes := #[82, 82] })
    {S A : Option Addr} {c c2 : Nat} (xs : List Bool) {ys : List Bool} (hs : a.eval s = .slice S xs.length c) (hx : a.eval x = .slice A ys.length c2)
    (hown : OF 4 fb w S c xs) (hr : RF fb w A ys) (h : xs.length + ys.length ≤ 1099511627776)
    (hK : ∀ S' c' w', OF 4 fb w' S' c' (xs ++ ys) → Only (blk S) w w' → (∀ g ∈ blk S', g ∈ blk S ∨ w.heap.size ≤ g) → wpList Try.prog ops Q rest (a.put o.dst (.slice S' (xs ++ ys).length c')) w') :
    wpList Try.prog ops Q (o :: rest) a w := by
  obtain ⟨S', c', w', hrun, h1, h2, h3⟩ := app_bools o.type hown c2 hr h
  exact wpList_ran hgd s x _ ho hs hx hrun (hK _ _ _ h1 h2 h3)
end
end Go.Proofs.Ytkikeanpbffpkaa

/- Copies: clone, copyHeap, l7Copy and their kin return new memory that reads as the argument does. -/
namespace Go.Proofs.Ytkikeanpbffpkaa
open Go.RowKit
set_option maxRecDepth 100000
set_option linter.unusedSimpArgs false
set_option linter.unusedVariables false

theorem OF.empty {α : Type} {T : TypeId} {f : α → Value} {w : World} {n : Nat} {zs : List α} (hz : zs.length = n) (hn : n ≤ maxLen) :
    OF T f (w.alloc (.cells (rowF f zs) T)) (some ⟨w.heap.size, 0, none⟩) n ([] : List α) :=
  World.ownsRow_made w _ n (Nat.zero_le _) hn (by rw [rowF_size, hz, Nat.mul_one])
theorem mk0_ints (n : Nat) (hn : n ≤ 1099511627776) (W : World) :
    (Instr.makeSlice 24 (.int .i64 0) (.int .i64 (n : Int))).run Try.prog W = .ok (.slice (some ⟨W.heap.size, 0, none⟩) 0 n) (W.alloc (.cells (rowF fi (List.replicate n 0)) 3)) := by
  obtain ⟨i0, hi, hz0, hz1, hz2⟩ := info_parts info_int
  have h := run_make (P := Try.prog) W 24 3 i0 _ Try.underlying24 hi hz0 .i64 .i64 0 n (by omega) (by omega) (by rw [hz2]; omega) (by omega)
  simp only [Int.toNat_natCast, Int.toNat_zero] at h
  rw [h, hz1, Nat.mul_one, ← rowF_made fi 0 n rfl]
  rfl
set_option maxHeartbeats 400000 in
theorem cloneInt_any (A : Option Addr) (xs : List Int) (c : Nat) (w : World) (hr : RF fi w A xs) (hn : xs.length ≤ 1099511627776) :
    Calls Try.prog 65 #[.slice A xs.length c] w fun e w' => ∃ S k, e = .returned (.slice S xs.length k) ∧ OF 3 fi w' S k xs ∧ (∀ g ∈ blk S, w.heap.size ≤ g) ∧ Below w.heap.size w w' := by
  have hmk := mk0_ints xs.length hn
  have h0 := OF.empty (T := 3) (f := fi) (w := w) (n := xs.length) (zs := List.replicate xs.length 0) (by simp) (by simp only [maxLen]; omega)
  obtain ⟨S, k, w', hrun, ho, hO, hg⟩ := app_ints 24 h0 c (hr.below blw_) (by simp; omega)
  have hB : Below w.heap.size w w' := Below.trans blw_ (hO.below (by simp) (fun g hg => by rw [mem_blk_some hg]; exact Nat.le_refl _))
  have hg' : ∀ g ∈ blk S, w.heap.size ≤ g := fun g h => by
    rcases hg g h with h | h
    · rw [mem_blk_some h]; exact Nat.le_refl _
    · simp at h; omega
  clear hO hg
  go_enter Try.func65, Try.ntmps65
  go_wp2_with (at_builtin; refine wpList_ran rfl (.tmp 5) (.tmp 6) _ rfl rfl rfl hrun ?_)
  go_ret
  exact ⟨S, k, by simp, by simpa using ho, hg', hB⟩
theorem mk0_cells (n : Nat) (hn : n ≤ 1099511627776) (W : World) :
    (Instr.makeSlice 23 (.int .i64 0) (.int .i64 ((n : Int) + 1))).run Try.prog W = .ok (.slice (some ⟨W.heap.size, 0, none⟩) 0 (n + 1)) (W.alloc (.cells (rowC (List.replicate (n + 1) zc)) 38)) := by
  obtain ⟨i0, hi, hz0, hz1, hz2⟩ := info_parts info_cell
  have h := run_make (P := Try.prog) W 23 38 i0 _ Try.underlying23 hi hz0 .i64 .i64 0 (n + 1) (by omega) (by omega) (by rw [hz2]; omega) (by omega)
  simp only [Int.toNat_zero] at h
  rw [show ((n : Int) + 1).toNat = n + 1 by omega] at h
  rw [h, hz1, ← rowC_made (n + 1)]
  rfl
theorem OC.empty {w : World} {n : Nat} (hn : n ≤ maxLen) : OC (w.alloc (.cells (rowC (List.replicate n zc)) 38)) (some ⟨w.heap.size, 0, none⟩) n [] :=
  ⟨World.ownsRow_made w _ n (Nat.zero_le _) hn (by simp only [rowC, List.size_toArray, flat3_len, List.length_replicate]), fun o ho => by cases ho⟩
theorem heap_drew_ (w : World) : w.drew.heap = w.heap := rfl
theorem heap_alloc_at (w : World) (o : Obj) (n : Nat) (hn : n = w.heap.size) : (w.alloc o).heap[n]? = some o := by subst hn; exact heap_alloc_new w o
theorem OC.zero_ {w : World} {g n : Nat} (h : w.heap[g]? = some (.cells (rowC (List.replicate n zc)) 38)) (hn : n ≤ maxLen) : OC w (some ⟨g, 0, none⟩) n [] :=
  ⟨⟨by simp, .inr ⟨g, n, _, rfl, Nat.zero_le _, h, Nat.zero_le _, hn, by simp only [rowC, List.size_toArray, flat3_len, List.length_replicate], by simp⟩⟩, fun o ho => by cases ho⟩
theorem OC_OF_apart {w : World} {A A' : Option Addr} {c c' : Nat} {os : List OCell} {xs : List Int} (h : OC w A c os) (h' : OF 3 fi w A' c' xs) : ∀ g ∈ blk A', g ∉ blk A := h.apart h'
set_option maxHeartbeats 4000000 in
theorem copyHeap_any (v : Value) (h : HeapM) (w : World) (hv : RH w v h) (hn : h.cells.length ≤ 1048576) (hr : ∀ d ∈ h.cells, d.refs.length ≤ 1048576) (hn2 : h.roots.length ≤ 1048576) :
    Calls Try.prog 43 #[v] w fun e w' => ∃ v', e = .returned v' ∧ OH w.heap.size w' v' h ∧ Below w.heap.size w w' := by
  obtain ⟨A, c, A', c', rfl, hc, hrr, -, -⟩ := hv
  have hmk := mk0_cells h.cells.length (by omega)
  have k0 : ((w.alloc (.cells #[.slice A h.cells.length c, .slice A' h.roots.length c'] 26)).alloc (.cells #[.slice none 0 0, .slice none 0 0] 26)).cell? ⟨w.heap.size, 0, none⟩ = some (.slice A h.cells.length c) := by simp [go_sem]
  have k1 : ((w.alloc (.cells #[.slice A h.cells.length c, .slice A' h.roots.length c'] 26)).alloc (.cells #[.slice none 0 0, .slice none 0 0] 26)).cell? ⟨w.heap.size, 1, none⟩ = some (.slice A' h.roots.length c') := by simp [go_sem]
  have k2 : ((w.alloc (.cells #[.slice A h.cells.length c, .slice A' h.roots.length c'] 26)).alloc (.cells #[.slice none 0 0, .slice none 0 0] 26)).cell? ⟨w.heap.size + 1, 0, none⟩ = some (.slice none 0 0) := by simp [go_sem]
  have k3 : ((w.alloc (.cells #[.slice A h.cells.length c, .slice A' h.roots.length c'] 26)).alloc (.cells #[.slice none 0 0, .slice none 0 0] 26)).cell? ⟨w.heap.size + 1, 1, none⟩ = some (.slice none 0 0) := by simp [go_sem]
  have k4 : ((w.alloc (.cells #[.slice A h.cells.length c, .slice A' h.roots.length c'] 26)).alloc (.cells #[.slice none 0 0, .slice none 0 0] 26)).frozen? ⟨w.heap.size + 1, 0, none⟩ = false := by simp [go_sem]
  have k5 : ((w.alloc (.cells #[.slice A h.cells.length c, .slice A' h.roots.length c'] 26)).alloc (.cells #[.slice none 0 0, .slice none 0 0] 26)).frozen? ⟨w.heap.size + 1, 1, none⟩ = false := by simp [go_sem]
  go_enter Try.func43, Try.ntmps43
  go_upto_region 1 with fail
  go_cut [3, 10, 13] (fun s3 s10 s13 wx => ∃ b3 g S k, s3 = .pointer (some ⟨b3, 0, none⟩) ∧ s10 = .slice (some ⟨g, 0, none⟩) 0 (h.cells.length + 1) ∧ s13 = .slice S h.roots.length k ∧ w.heap.size + 2 ≤ b3 ∧ wx.cell? ⟨b3, 0, none⟩ = some (.slice (some ⟨g, 0, none⟩) 0 (h.cells.length + 1)) ∧ wx.cell? ⟨b3, 1, none⟩ = some (.slice S h.roots.length k) ∧
    wx.frozen? ⟨b3, 0, none⟩ = false ∧ OC wx (some ⟨g, 0, none⟩) (h.cells.length + 1) [] ∧ OF 3 fi wx S k h.roots ∧ (∀ x ∈ blk S, w.heap.size + 2 ≤ x) ∧ w.heap.size + 2 ≤ g ∧ b3 < wx.heap.size ∧ g ≠ b3 ∧ b3 ∉ blk S ∧ Below (w.heap.size + 2) ((w.alloc (.cells #[.slice A h.cells.length c, .slice A' h.roots.length c'] 26)).alloc (.cells #[.slice none 0 0, .slice none 0 0] 26)) wx)
  case first =>
    have hwr : IntKind.i64.wrap ((h.cells.length : Int) + 1) = (h.cells.length : Int) + 1 := IntWalk.i64_in _ (by omega)
    go_region_held3 (fun w' => w'.cell? ⟨w.heap.size, 0, none⟩ = some (.slice A h.cells.length c) ∧ w'.cell? ⟨w.heap.size, 1, none⟩ = some (.slice A' h.roots.length c'))
      (first | exact ⟨cell_below k0 blw_, cell_below k1 blw_⟩)
      (first | (go_at_call 65; refine (cloneInt_any _ h.roots _ _ (hrr.below blw_) (by omega)).mono ?_; rintro e wb ⟨S, k, rfl, hS, hgS, hBb⟩; (have z_hBb := Below.size hBb); (try simp only [World.size_alloc, World.size_setCell, World.size_drew, World.heap_drewN] at z_hBb); obtain ⟨hbc, hbf, -⟩ := bcell hBb; try (have u2 : w.heap.size + 1 + 1 < wb.heap.size := (by omega))))
    all_goals
      clear hwr
      go_wp2_with fail
      go_meet
      refine ⟨_, _, S, k, rfl, rfl, rfl, by omega, ?_, ?_, ?_, OC.zero_ ?_ (by simp only [maxLen]; omega), ?_, ?_, by omega, by first | omega | (simp; done) | (simp; omega), by omega, ?_, ?_⟩
      · first | (simp [go_sem, hbc]; done) | (simp [go_sem, hbc, u2]; done) | (simp [go_sem, hbc, Nat.ne_of_lt u2]; done)
      · first | (simp [go_sem, hbc]; done) | (simp [go_sem, hbc, u2]; done) | (simp [go_sem, hbc, Nat.ne_of_lt u2]; done)
      · first | (simp [go_sem, hbf]; done) | (simp [go_sem, hbf, u2]; done) | (simp [go_sem, hbf, Nat.ne_of_lt u2]; done)
      · (repeat (first | rw [heap_drew_] | exact heap_alloc_at _ _ _ (by first | rfl | (simp; done) | (simp; omega)) | rw [heap_setCell_ne _ _ _ (by first | omega | (simp; done) | (simp; omega))] | rw [Below.block hBb _ (by first | omega | (simp; done) | (simp; omega))] | rw [Below.heap_alloc _ _ _ (by first | omega | (simp; done) | (simp; omega))]))
      · refine hS.keep fun b hb => ?_
        have h1 := hS.lt b hb
        have h2 := hgS b hb
        simp at h2
        (repeat (first | rw [heap_setCell_ne _ _ _ (by first | omega | (simp; done) | (simp; omega))] | rw [Below.block hBb _ (by first | omega | (simp; done) | (simp; omega))] | rw [Below.heap_alloc _ _ _ (by first | omega | (simp; done) | (simp; omega))]))
      · intro x hx
        have h2 := hgS x hx
        simp at h2
        omega
      · intro hx
        have h1 := hS.lt _ hx
        have h2 := hgS _ hx
        simp at h2
        omega
      · exact blw_
  case rest =>
    obtain ⟨b3, g, S, k, rfl, rfl, rfl, hb3, q0, q1, q2, hO, hR, hSl, hg, hb3w, hne, hnS, hB⟩ := hcut
    have k0c := cell_below k0 (hB.mono (by simp))
    have hO0 : OHs wc (some ⟨g, 0, none⟩) (h.cells.length + 1) S k [] h.roots := ⟨hO, hR, by
      have := OC_OF_apart hO hR
      simp only [List.nodup_append, List.mem_append, blks, List.flatMap_nil, List.append_nil]
      exact ⟨blk_nodup _, blk_nodup _, fun a ha b hb e => this b hb (e ▸ ha)⟩, by simp, by omega⟩
    have hlo : ∀ x ∈ hblks (some ⟨g, 0, none⟩) [] S, w.heap.size + 2 ≤ x ∧ x ≠ b3 := by
      intro x hx
      simp only [hblks, blks, List.flatMap_nil, List.append_nil, List.mem_append] at hx
      rcases hx with hx | hx
      · obtain rfl := mem_blk_some hx
        exact ⟨hg, hne⟩
      · exact ⟨hSl x hx, fun e => hnS (e ▸ hx)⟩
    clear hO hR hSl hg hne hnS
    go_wp2
    go_loopw [18] (fun i wr => ∃ (j : Nat) (os : List OCell) (SA : Option Addr) (c1 : Nat), j ≤ h.cells.length ∧ i = .int .i64 j ∧ Hid (os.map (·.c) = h.cells.take j) ∧ wr.cell? ⟨b3, 0, none⟩ = some (.slice SA os.length c1) ∧ wr.cell? ⟨b3, 1, none⟩ = some (.slice S h.roots.length k) ∧
      wr.frozen? ⟨b3, 0, none⟩ = false ∧ OHs wr SA c1 S k os h.roots ∧ (∀ x ∈ hblks SA os S, w.heap.size + 2 ≤ x ∧ x ≠ b3) ∧ b3 < wr.heap.size ∧ Below (w.heap.size + 2) ((w.alloc (.cells #[.slice A h.cells.length c, .slice A' h.roots.length c'] 26)).alloc (.cells #[.slice none 0 0, .slice none 0 0] 26)) wr) (fun i _ => h.cells.length - (intOf i).toNat)
    case atStart => exact ⟨0, [], _, _, by omega, rfl, rfl, q0, q1, q2, hO0, hlo, hb3w, hB⟩
    case round =>
      clear hB q0 q1 q2 hO0 hlo hb3w k0c
      obtain ⟨j, os, SA, c1, hj, rfl, HM, q0, q1, q2, hO, hlo, hb3w, hB⟩ := hrel
      have hBw : Below w.heap.size w wr := Below.trans blw_ (hB.mono (by omega))
      have hzw : w.heap.size + 1 < wr.heap.size := by have := hB.size; simp at this; omega
      have hjl : os.length = j := by have := congrArg List.length HM.out; simp at this; omega
      by_cases hlt : j < h.cells.length
      · obtain ⟨b, o, x, Ar, cr, rfl, gx, x0, x1, x2, hrx, hlx, hb⟩ := (hc.below hBw).at_ hlt
        have hrl := hr x (List.mem_of_getElem? gx)
        have GX := Lib.hid gx
        have HB := Lib.hid hB
        have HW := Lib.hid hBw
        have hol : os.length ≤ 1099511627776 := by omega
        have HJ := Lib.hid hjl
        clear gx hB hBw hmk k0 k1 k2 k3 k4 k5 hc hrr hjl
        have u0 : wr.heap.size ∉ blk SA := fun hx => absurd (hO.cells.lt _ (List.mem_append.2 (.inl hx))) (by omega)
        have u1 : b3 ∉ blk SA := fun hx => (hlo b3 (List.mem_append.2 (.inl (List.mem_append.2 (.inl hx))))).2 rfl
        have p0 : (wr.alloc (.cells #[.bool x.used, .int .i64 x.data, .slice Ar x.refs.length cr] 38)).cell? ⟨wr.heap.size, 0, none⟩ = some (.bool x.used) := by simp [go_sem]
        have p1 : (wr.alloc (.cells #[.bool x.used, .int .i64 x.data, .slice Ar x.refs.length cr] 38)).cell? ⟨wr.heap.size, 1, none⟩ = some (.int .i64 x.data) := by simp [go_sem]
        have p2 : (wr.alloc (.cells #[.bool x.used, .int .i64 x.data, .slice Ar x.refs.length cr] 38)).cell? ⟨wr.heap.size, 2, none⟩ = some (.slice Ar x.refs.length cr) := by simp [go_sem]
        go_upto_region 5 with fail
        change Code.wp _ (Code.region _ #[_, id _, _, _, _, _, _, _, _, _, _, _, _, _] true) _ _ _
        go_region_held3 (fun w' => w'.cell? ⟨wr.heap.size, 0, none⟩ = some (.bool x.used) ∧ w'.cell? ⟨wr.heap.size, 1, none⟩ = some (.int .i64 x.data) ∧ w'.cell? ⟨wr.heap.size, 2, none⟩ = some (.slice Ar x.refs.length cr))
          (first | exact ⟨v3 _, v4 _, v5 _⟩ | exact ⟨r0, r1, r2⟩ | exact ⟨cell_below p0 blw_, cell_below p1 blw_, cell_below p2 blw_⟩)
          (first
            | (go_at_call 65; refine (cloneInt_any _ x.refs _ _ (hrx.below blw_) (by omega)).mono ?_; rintro e wb ⟨S2, k2, rfl, hS2, hgS2, hBb⟩; (have z_hBb := Below.size hBb); (try simp only [World.size_alloc, World.size_setCell, World.size_drew, World.heap_drewN] at z_hBb); have u9 : b3 < wb.heap.size := (by omega); have u8 : wr.heap.size < wb.heap.size := (by omega); have v0 := cell_below q0 (w' := wb) blw_; have v1 : wb.frozen? ⟨b3, 0, none⟩ = false := ((bcell (w := wr) (w' := wb) blw_).2.1 _ _ hb3w).trans q2)
            | (refine step_appc rfl (.tmp 23) (.tmp 32) rfl rfl rfl (hO.cells.below blw_) ⟨⟨x.used, x.data, x.refs⟩, S2, k2⟩ (hS2.below blw_) (by omega) (by simp [go_sem]) (by simp [go_sem]) (by simp [go_sem]) hol ?_
               intro S5 c5 w5 hC5 hOn5 hg5
               have r0 : w5.cell? ⟨wr.heap.size, 0, none⟩ = some (.bool x.used) := hOn5.cell (cell_below p0 blw_) u0
               have r1 : w5.cell? ⟨wr.heap.size, 1, none⟩ = some (.int .i64 x.data) := hOn5.cell (cell_below p1 blw_) u0
               have r2 : w5.cell? ⟨wr.heap.size, 2, none⟩ = some (.slice Ar x.refs.length cr) := hOn5.cell (cell_below p2 blw_) u0
               have v2 : w5.cell? ⟨b3, 0, none⟩ = some (.slice SA os.length c1) := hOn5.cell (cell_below q0 blw_) u1
               have v6 : w5.frozen? ⟨b3, 0, none⟩ = false := (hOn5.frozenAt b3 0 (by first | omega | (simp; done) | (simp; omega)) u1).trans (((bcell (w := wr) blw_).2.1 b3 0 hb3w).trans q2)
               have v7 : w5.cell? ⟨b3, 1, none⟩ = some (.slice S h.roots.length k) := hOn5.cell (cell_below q1 blw_) u1
               have hB5 : Below (w.heap.size + 2) wr w5 := Below.trans blw_ (hOn5.below (by first | omega | (simp; done) | (simp; omega)) (fun g hg => (hlo g (List.mem_append.2 (.inl (List.mem_append.2 (.inl hg))))).1))
               have hR5 : OF 3 fi w5 S k h.roots := (hO.roots.below blw_).only hOn5 (hO.cells.apart hO.roots)
               have g5 : ∀ g ∈ blk S5, g ∈ blk SA ∨ wb.heap.size ≤ g := fun g hg => (hg5 g hg).imp_right fun hh => by (first | omega | (simp at hh; omega))
               have hne3 : wr.heap.size ≠ b3 := by omega
               have v3 : ∀ u, (w5.setCell ⟨b3, 0, none⟩ u).cell? ⟨wr.heap.size, 0, none⟩ = some (.bool x.used) := fun u => by simp [go_sem, r0, hne3]
               have v4 : ∀ u, (w5.setCell ⟨b3, 0, none⟩ u).cell? ⟨wr.heap.size, 1, none⟩ = some (.int .i64 x.data) := fun u => by simp [go_sem, r1, hne3]
               have v5 : ∀ u, (w5.setCell ⟨b3, 0, none⟩ u).cell? ⟨wr.heap.size, 2, none⟩ = some (.slice Ar x.refs.length cr) := fun u => by simp [go_sem, r2, hne3]))
        all_goals
          have g2 : ∀ g ∈ blk S2, wr.heap.size + 1 ≤ g ∧ g < wb.heap.size := fun g hg => ⟨by have := hgS2 g hg; simp at this; omega, hS2.lt g hg⟩
          have hlo' : ∀ g ∈ hblks S5 (os ++ [⟨⟨x.used, x.data, x.refs⟩, S2, k2⟩]) S, w.heap.size + 2 ≤ g ∧ g ≠ b3 := by
            intro g hg
            simp only [hblks, blks_append, List.mem_append] at hg hlo
            rcases hg with (hg | hg | hg) | hg
            · rcases g5 g hg with hg | hg
              · exact hlo g (.inl (.inl hg))
              · omega
            · exact hlo g (.inl (.inr hg))
            · have := g2 g (by simpa [blks] using hg)
              omega
            · exact hlo g (.inr hg)
          have HJ2 := HJ.out
          clear hgS2 hg5 hOn5 hBb
          go_wp2_with fail
          go_roundw
          case rel =>
            refine ⟨j + 1, os ++ [⟨⟨x.used, x.data, x.refs⟩, S2, k2⟩], S5, c5, by omega, by go_num, ?_, by simp [go_sem, v2, HJ2], by simp [go_sem, v7], by simp [go_sem, v6], hO.push (hC5.keep fun g hg => ?_) (hR5.keep fun g hg => ?_) g5 (fun g hg => ?_) (Nat.le_refl _) (by omega) hol, hlo', ?_, (HB.out.trans hB5).setCell (by omega) _⟩
            · unfold Hid
              rw [take_snoc_of GX.out, ← HM.out]
              simp
            · exact heap_setCell_ne _ _ _ (hlo' g (List.mem_append.2 (.inl hg))).2
            · exact heap_setCell_ne _ _ _ (hlo' g (List.mem_append.2 (.inr hg))).2
            · have := g2 g hg
              omega
            · have := hB5.size
              simp
              omega
          case measure => simp [intOf]; omega
      · have hke : j = h.cells.length := by omega
        rw [hjl, hke] at q0
        have e0 := cell_below k2 (hB.mono (by simp))
        have e1 := cell_below k3 (hB.mono (by simp))
        have e2 := ((bcell (hB.mono (by simp))).2.1 (w.heap.size + 1) 0 (by simp)).trans k4
        have e3 := ((bcell (hB.mono (by simp))).2.1 (w.heap.size + 1) 1 (by simp)).trans k5
        have HK := Lib.hid hke
        have HJ := Lib.hid hjl
        have hbne : b3 ≠ w.heap.size + 1 := by omega
        clear hke hjl
        go_wp2
        refine bodyPost_ret (v := .agg #[.slice SA h.cells.length c1, .slice S h.roots.length k]) (by simp [results, Try.results43, go_sem, e0, e1]) rfl ⟨_, rfl, ⟨SA, c1, S, k, os, rfl, by rw [HM.out, HK.out, List.take_length], hO.keep fun g hg => ?_, fun g hg => by have := hlo g hg; omega⟩, blw_⟩
        have := hlo g hg
        (repeat (first | rw [heap_setCell_ne _ _ _ (by first | omega | (simp; done) | (simp; omega))] | rw [Below.heap_alloc _ _ _ (by first | omega | (simp; done) | (simp; omega))]))
end Go.Proofs.Ytkikeanpbffpkaa

/- The program's copies of snapshots, of aged and of painted heaps. -/
namespace Go.Proofs.Ytkikeanpbffpkaa
open Go.RowKit
set_option maxRecDepth 100000
set_option linter.unusedSimpArgs false
set_option linter.unusedVariables false
/-- An object in memory: a snapshot or an aged heap behind a pointer, all of the call's own. -/
structure PTx (lo : Nat) (w : World) (g : Nat) (p : TwoM) (A : Option Addr) (c : Nat) (A' : Option Addr) (c' : Nat) (os : List OCell) (A2 : Option Addr) (c2 : Nat) (A3 : Option Addr) (c3 : Nat) : Prop where
  q0 : w.cell? ⟨g, 0, none⟩ = some (.slice A p.store.cells.length c)
  q1 : w.cell? ⟨g, 1, none⟩ = some (.slice A' p.store.roots.length c')
  q2 : w.cell? ⟨g, 2, none⟩ = some (.slice A2 p.x.length c2)
  q3 : w.cell? ⟨g, 3, none⟩ = some (.slice A3 p.y.length c3)
  qf : ∀ o, w.frozen? ⟨g, o, none⟩ = false
  lo_ : lo ≤ g
  lt : g < w.heap.size
  apart : g ∉ hblks A os A' ++ blk A2 ++ blk A3
  map : os.map (·.c) = p.store.cells
  own : OHs w A c A' c' os p.store.roots
  xs : OF 4 fb w A2 c2 p.x
  ys : OF 4 fb w A3 c3 p.y
  nd : (hblks A os A' ++ blk A2 ++ blk A3).Nodup
  los : ∀ b ∈ hblks A os A' ++ blk A2 ++ blk A3, lo ≤ b
  xl : p.x.length ≤ 9223372036854775807
  yl : p.y.length ≤ 9223372036854775807
end Go.Proofs.Ytkikeanpbffpkaa

/- The reference's copy of a heap. -/
namespace Go.Proofs.Ytkikeanpbffpkaa
open Go.RowKit
set_option maxRecDepth 100000
set_option linter.unusedSimpArgs false
set_option linter.unusedVariables false

theorem below_at {B : Nat} {w w' : World} (h : Below B w w') (b o : Nat) (hb : b < B) : w'.cell? ⟨b, o, none⟩ = w.cell? ⟨b, o, none⟩ := h.cell (p := ⟨b, o, none⟩) hb
theorem OF.fresh {α : Type} {T : TypeId} {f : α → Value} {w : World} {g : Nat} (hg : g = w.heap.size) : OF T f (w.alloc (.cells #[] T)) (some ⟨g, 0, none⟩) 0 ([] : List α) := by
  subst hg
  exact OF.empty (zs := []) rfl (Nat.zero_le _)
theorem OC.nil_ {w : World} : OC w none 0 [] := ⟨World.ownsRow_nil w 0 38 3, fun o ho => by cases ho⟩
set_option maxHeartbeats 4000000 in
theorem l7Copy_any (v : Value) (h : HeapM) (w : World) (hv : RH w v h) (hn : h.cells.length ≤ 1048576) (hr : ∀ d ∈ h.cells, d.refs.length ≤ 1048576) (hn2 : h.roots.length ≤ 1048576) :
    Calls Try.prog 35 #[v] w fun e w' => ∃ v', e = .returned v' ∧ OH w.heap.size w' v' h ∧ Below w.heap.size w w' := by
  obtain ⟨A, c, A', c', rfl, hc, hrr, -, -⟩ := hv
  have k0 : ((w.alloc (.cells #[.slice A h.cells.length c, .slice A' h.roots.length c'] 26)).alloc (.cells #[.slice none 0 0, .slice none 0 0] 26)).cell? ⟨w.heap.size, 0, none⟩ = some (.slice A h.cells.length c) := by simp [go_sem]
  have k2 : ((w.alloc (.cells #[.slice A h.cells.length c, .slice A' h.roots.length c'] 26)).alloc (.cells #[.slice none 0 0, .slice none 0 0] 26)).cell? ⟨w.heap.size + 1, 0, none⟩ = some (.slice none 0 0) := by simp [go_sem]
  have k3 : ((w.alloc (.cells #[.slice A h.cells.length c, .slice A' h.roots.length c'] 26)).alloc (.cells #[.slice none 0 0, .slice none 0 0] 26)).cell? ⟨w.heap.size + 1, 1, none⟩ = some (.slice none 0 0) := by simp [go_sem]
  have k4 : ((w.alloc (.cells #[.slice A h.cells.length c, .slice A' h.roots.length c'] 26)).alloc (.cells #[.slice none 0 0, .slice none 0 0] 26)).frozen? ⟨w.heap.size + 1, 0, none⟩ = false := by simp [go_sem]
  have k5 : ((w.alloc (.cells #[.slice A h.cells.length c, .slice A' h.roots.length c'] 26)).alloc (.cells #[.slice none 0 0, .slice none 0 0] 26)).frozen? ⟨w.heap.size + 1, 1, none⟩ = false := by simp [go_sem]
  go_enter Try.func35, Try.ntmps35
  go_wp2_with (at_builtin; refine wpList_appi rfl (.tmp 5) (.tmp 7) rfl [] rfl rfl (OF.fresh (by simp)) (hrr.below blw_) (by simp; omega) ?_; intro S k w1 hR hOn hgS; have hB1 : Below (w.heap.size + 2) ((w.alloc (.cells #[.slice A h.cells.length c, .slice A' h.roots.length c'] 26)).alloc (.cells #[.slice none 0 0, .slice none 0 0] 26)) w1 := Below.trans blw_ (hOn.below (by first | omega | (simp; done) | (simp; omega)) (fun g hg => by rw [mem_blk_some hg]; simp)); have hgS2 : ∀ g ∈ blk S, w.heap.size + 2 ≤ g := (fun g hg => by rcases hgS g hg with hh | hh; (rw [mem_blk_some hh]; simp); (simp at hh; omega)); clear hOn hgS)
  rw [List.nil_append] at hR
  have hlt1 := hR.lt
  have z1 := hB1.size
  simp at z1
  go_loopw [4] (fun i wr => ∃ (j : Nat) (os : List OCell) (SA : Option Addr) (c1 : Nat), j ≤ h.cells.length ∧ i = .int .i64 j ∧ Hid (os.map (·.c) = h.cells.take j) ∧ wr.cell? ⟨w1.heap.size, 0, none⟩ = some (.slice SA os.length c1) ∧ wr.cell? ⟨w1.heap.size, 1, none⟩ = some (.slice S h.roots.length k) ∧
    wr.frozen? ⟨w1.heap.size, 0, none⟩ = false ∧ OHs wr SA c1 S k os h.roots ∧ (∀ x ∈ hblks SA os S, w.heap.size + 2 ≤ x ∧ x ≠ w1.heap.size) ∧ w1.heap.size < wr.heap.size ∧ Below (w.heap.size + 2) ((w.alloc (.cells #[.slice A h.cells.length c, .slice A' h.roots.length c'] 26)).alloc (.cells #[.slice none 0 0, .slice none 0 0] 26)) wr) (fun i _ => h.cells.length - (intOf i).toNat)
  case atStart =>
    refine ⟨0, [], none, 0, by omega, rfl, rfl, by simp [go_sem], by simp [go_sem], by simp [go_sem], ⟨OC.nil_, hR.below blw_, ?_, by simp, by omega⟩, ?_, by simp, blw_⟩
    · simpa [blks, blk] using blk_nodup S
    · intro g hg
      simp [hblks, blks, blk] at hg
      have := hlt1 g (by simpa [blk] using hg)
      have := hgS2 g (by simpa [blk] using hg)
      omega
  case round =>
    obtain ⟨j, os, SA, c1, hj, rfl, HM, q0, q1, q2, hO, hlo, hb3w, hB⟩ := hrel
    have hBw : Below w.heap.size w wr := Below.trans blw_ (hB.mono (by omega))
    have hjl : os.length = j := by have := congrArg List.length HM.out; simp at this; omega
    have hzw : w.heap.size + 1 < wr.heap.size := by omega
    have kk := cell_below k0 (hB.mono (by simp))
    by_cases hlt : j < h.cells.length
    · obtain ⟨b, o, x, Ar, cr, rfl, gx, x0, x1, x2, hrx, hlx, hb⟩ := hc.at_ hlt
      have hrl := hr x (List.mem_of_getElem? gx)
      have hrw := hrx.below hBw
      have hk : ∀ W, Below (w.heap.size + 2) wr W → W.cell? ⟨w.heap.size, 0, none⟩ = some (.slice (some ⟨b, o, none⟩) h.cells.length c) ∧ W.cell? ⟨b, o + j * 3, none⟩ = some (.bool x.used) ∧ W.cell? ⟨b, o + j * 3 + 1, none⟩ = some (.int .i64 x.data) ∧ W.cell? ⟨b, o + j * 3 + 2, none⟩ = some (.slice Ar x.refs.length cr) :=
        fun W hW => ⟨(below_at hW _ _ (by simp)).trans kk, (below_at hW _ _ (by omega)).trans (cell_below x0 hBw), (below_at hW _ _ (by omega)).trans (cell_below x1 hBw), (below_at hW _ _ (by omega)).trans (cell_below x2 hBw)⟩
      have GX := Lib.hid gx
      have HB := Lib.hid hB
      have HW := Lib.hid hBw
      have hol : os.length ≤ 1099511627776 := by omega
      have HJ := Lib.hid hjl
      have u0 : wr.heap.size ∉ blk SA := fun hx => absurd (hO.cells.lt _ (List.mem_append.2 (.inl hx))) (by omega)
      have u1 : w1.heap.size ∉ blk SA := fun hx => (hlo _ (List.mem_append.2 (.inl (List.mem_append.2 (.inl hx))))).2 rfl
      clear gx hB hBw k0 k2 k3 k4 k5 hc hrr hjl hB1 x0 x1 x2 hrx
      go_upto_region 5 with fail
      change Code.wp _ (Code.region _ #[_, id _, _, _, _, _, _, _, _, _, _, _, _, _, _, _, _, _, _, _, _, _, _, _, _, _, _] true) _ _ _
      go_region_held3 (fun w' => w'.cell? ⟨w.heap.size, 0, none⟩ = some (.slice (some ⟨b, o, none⟩) h.cells.length c) ∧ w'.cell? ⟨b, o + j * 3, none⟩ = some (.bool x.used) ∧ w'.cell? ⟨b, o + j * 3 + 1, none⟩ = some (.int .i64 x.data) ∧ w'.cell? ⟨b, o + j * 3 + 2, none⟩ = some (.slice Ar x.refs.length cr))
        (first | exact hk _ (Below.setc (by simp; omega) hB5 _) | exact hk _ hB5 | exact hk _ (Below.mono blw_ (Nat.succ_le_of_lt hzw)))
        (first
          | (refine step_appi rfl (.tmp 31) (.tmp 37) rfl [] rfl rfl (OF.fresh (by simp)) (hrw.below blw_) (by simp; omega) ?_
             intro S2 k2 wb hS2 hOn2 hgS2
             rw [List.nil_append] at hS2
             have hBx : Below wr.heap.size wr wb := Below.trans blw_ (hOn2.below (by first | omega | (simp; done) | (simp; omega)) (fun g hg => by rw [mem_blk_some hg]; simp))
             have g2 : ∀ g ∈ blk S2, wr.heap.size ≤ g ∧ g < wb.heap.size := fun g hg => ⟨by rcases hgS2 g hg with hh | hh; (rw [mem_blk_some hh]; simp); (simp at hh; omega), hS2.lt g hg⟩
             have z2 := hOn2.size
             simp at z2
             clear hOn2 hgS2
             have u9 : w1.heap.size < wb.heap.size := (by omega)
             have v0 := cell_below q0 (w' := wb) hBx
             have v1 : wb.frozen? ⟨w1.heap.size, 0, none⟩ = false := ((bcell hBx).2.1 _ _ hb3w).trans q2)
          | (refine step_appc rfl (.tmp 18) (.tmp 40) rfl rfl rfl (hO.cells.below blw_) ⟨⟨x.used, x.data, x.refs⟩, S2, k2⟩ (hS2.below blw_) (by omega) (by simp [go_sem]) (by simp [go_sem]) (by simp [go_sem]) hol ?_
             intro S5 c5 w5 hC5 hOn5 hg5
             have v2 : w5.cell? ⟨w1.heap.size, 0, none⟩ = some (.slice SA os.length c1) := hOn5.cell (cell_below q0 blw_) u1
             have v6 : w5.frozen? ⟨w1.heap.size, 0, none⟩ = false := (hOn5.frozenAt w1.heap.size 0 (by first | omega | (simp; done) | (simp; omega)) u1).trans (((bcell (w := wr) blw_).2.1 w1.heap.size 0 hb3w).trans q2)
             have v7 : w5.cell? ⟨w1.heap.size, 1, none⟩ = some (.slice S h.roots.length k) := hOn5.cell (cell_below q1 blw_) u1
             have hR5 : OF 3 fi w5 S k h.roots := (hO.roots.below blw_).only hOn5 (hO.cells.apart hO.roots)
             have g5 : ∀ g ∈ blk S5, g ∈ blk SA ∨ wb.heap.size ≤ g := fun g hg => (hg5 g hg).imp_right fun hh => by (first | omega | (simp at hh; omega))
             have hB5 : Below (w.heap.size + 2) wr w5 := Below.trans (Below.mono (B := wr.heap.size) blw_ (Nat.succ_le_of_lt hzw)) (hOn5.below (by first | omega | (simp; done) | (simp; omega)) (fun g hg => (hlo g (List.mem_append.2 (.inl (List.mem_append.2 (.inl hg))))).1))
             clear hBx))
      all_goals
        have hlo' : ∀ g ∈ hblks S5 (os ++ [⟨⟨x.used, x.data, x.refs⟩, S2, k2⟩]) S, w.heap.size + 2 ≤ g ∧ g ≠ w1.heap.size := by
          intro g hg
          simp only [hblks, blks_append, List.mem_append] at hg hlo
          rcases hg with (hg | hg | hg) | hg
          · rcases g5 g hg with hg | hg
            · exact hlo g (.inl (.inl hg))
            · omega
          · exact hlo g (.inl (.inr hg))
          · have := g2 g (by simpa [blks] using hg)
            omega
          · exact hlo g (.inr hg)
        have HJ2 := HJ.out
        clear hg5 hOn5
        go_wp2_with fail
        go_roundw
        case rel =>
          refine ⟨j + 1, os ++ [⟨⟨x.used, x.data, x.refs⟩, S2, k2⟩], S5, c5, by omega, by go_num, ?_, by simp [go_sem, v2, HJ2], by simp [go_sem, v7], by simp [go_sem, v6], hO.push (hC5.keep fun g hg => ?_) (hR5.keep fun g hg => ?_) g5 (fun g hg => ?_) (Nat.le_refl _) (by omega) hol, hlo', ?_, (HB.out.trans hB5).setCell (by omega) _⟩
          · unfold Hid
            rw [take_snoc_of GX.out, ← HM.out]
            simp
          · exact heap_setCell_ne _ _ _ (hlo' g (List.mem_append.2 (.inl hg))).2
          · exact heap_setCell_ne _ _ _ (hlo' g (List.mem_append.2 (.inr hg))).2
          · have := g2 g hg
            omega
          · have := hB5.size
            simp
            omega
        case measure => simp [intOf]; omega
    · have hke : j = h.cells.length := by omega
      rw [hjl, hke] at q0
      have e0 := cell_below k2 (hB.mono (by simp))
      have e1 := cell_below k3 (hB.mono (by simp))
      have e2 := ((bcell (hB.mono (by simp))).2.1 (w.heap.size + 1) 0 (by simp)).trans k4
      have e3 := ((bcell (hB.mono (by simp))).2.1 (w.heap.size + 1) 1 (by simp)).trans k5
      have HK := Lib.hid hke
      have HJ := Lib.hid hjl
      have hbne : w1.heap.size ≠ w.heap.size + 1 := by omega
      clear hke hjl
      go_wp2
      refine bodyPost_ret (v := .agg #[.slice SA h.cells.length c1, .slice S h.roots.length k]) (by simp [results, Try.results35, go_sem, e0, e1]) rfl ⟨_, rfl, ⟨SA, c1, S, k, os, rfl, by rw [HM.out, HK.out, List.take_length], hO.keep fun g hg => ?_, fun g hg => by have := hlo g hg; omega⟩, blw_⟩
      have := hlo g hg
      (repeat (first | rw [heap_setCell_ne _ _ _ (by first | omega | (simp; done) | (simp; omega))] | rw [Below.heap_alloc _ _ _ (by first | omega | (simp; done) | (simp; omega))]))
end Go.Proofs.Ytkikeanpbffpkaa

/- The reference's copies of snapshots and of aged heaps. -/
namespace Go.Proofs.Ytkikeanpbffpkaa
open Go.RowKit
set_option maxRecDepth 100000
set_option linter.unusedSimpArgs false
set_option linter.unusedVariables false
theorem OF.fresh0 {α : Type} {T : TypeId} {f : α → Value} {w : World} {q : Nat} (h : w.heap[q]? = some (.cells #[] T (0, 0))) : OF T f w (some ⟨q, 0, none⟩) 0 ([] : List α) :=
  ⟨by simp, .inr ⟨q, 0, #[], rfl, Nat.zero_le _, h, Nat.le_refl _, Nat.zero_le _, by simp, by simp⟩⟩
end Go.Proofs.Ytkikeanpbffpkaa
