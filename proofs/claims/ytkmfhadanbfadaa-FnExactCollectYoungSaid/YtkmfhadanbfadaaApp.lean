/- append onto rows of the call's own: of a list that reads as such (nil, empty or not), and of one cell. -/
import Derived.Test.YtkmfhadanbfadaaChecked
import Derived.Maps.AppendAt
import Derived.RegionTactic
import Derived.OwnWalk
import Derived.Test.YtkmfhadanbfadaaTo
namespace Go.Proofs.Ytkmfhadanbfadaa
open Go.RowKit
set_option maxRecDepth 100000
set_option linter.unusedSimpArgs false
set_option linter.unusedVariables false

section
variable {P : Program} {w : World}
theorem run_append_of_nil (t ty e : TypeId) (i : TypeInfo) (ht : P.underlying t = some (.slice e)) (hi : P.info? e = some i)
    (v : Value) (n size : Nat) (xs : List Value) (hown : w.ownsRow 0 e size v n xs) (c : Nat) : (Builtin.append_ #[t, t] ty #[v, .slice none 0 c]).run P w = .ok v w := by
  rcases hown.2 with ⟨rfl, rfl⟩ | ⟨g, cap, cur, rfl, _, _, hnc, _⟩
  · simp [Builtin.append_, run_underlying ht, sizeOf, typeInfo, hi, Builtin.lenOf, Builtin.firstCells]
  · simp [Builtin.append_, run_underlying ht, sizeOf, typeInfo, hi, Builtin.lenOf, Builtin.firstCells, hnc, storeCells]
theorem ownBlock_blk (S : Option Addr) (n c : Nat) : (Value.slice S n c).ownBlock = S.map (·.block) := by cases S <;> rfl
theorem blk_of_map {S : Option Addr} {g : Nat} (h : S.map (·.block) = some g) : blk S = [g] := by
  cases S with
  | none => simp at h
  | some a => simp at h; simp [blk, h]
theorem only_of_grown {w w' : World} {S : Option Addr} {n c : Nat} (h : w.grownBy w' (Value.slice S n c).ownBlock) : Only (blk S) w w' :=
  ⟨h.os, h.tape, h.output, h.size, fun k hk hs => h.block k hk (fun e => by
    rw [ownBlock_blk] at e
    exact hs (by rw [blk_of_map e.symm]; simp))⟩
/-- append of a list onto a row of the call's own. -/
theorem run_app {α : Type} {T : TypeId} {f : α → Value} (t ty : TypeId) (i : TypeInfo) (z : Value) (bytes : Nat) (ht : P.underlying t = some (.slice T)) (hi : P.info? T = some i) (hz : i.zero = some z)
    (hsize : i.size = 1) (hby : i.bytes = bytes) (hzs : z.cells.size = 1) (h1 : ∀ x, (f x).oneCell' = true)
    {S : Option Addr} {c : Nat} {xs : List α} (hown : OF T f w S c xs) {A : Option Addr} {ys : List α} (c2 : Nat) (hr : RF f w A ys)
    (h63 : xs.length + ys.length ≤ 9223372036854775807) (hbytes : (xs.length + ys.length) * bytes ≤ 140737488355328) (hnil : A = none → ys.length = 0) :
    ∃ S' c' w', (Builtin.append_ #[t, t] ty #[.slice S xs.length c, .slice A ys.length c2]).run P w = .ok (.slice S' (xs ++ ys).length c') w' ∧ OF T f w' S' c' (xs ++ ys) ∧ Only (blk S) w w' ∧
      (∀ g ∈ blk S', g ∈ blk S ∨ w.heap.size ≤ g) := by
  cases A with
  | none =>
    have h0 := hnil rfl
    have hn : ys = [] := List.eq_nil_of_length_eq_zero h0
    subst hn
    refine ⟨S, c, w, ?_, by simpa using hown, Only.refl _ _, fun g hg => .inl hg⟩
    have := run_append_of_nil (P := P) t ty T i ht hi _ _ 1 _ hown c2
    simpa using this
  | some ad =>
    have hcells : ∀ j u, (ys.map f)[j]? = some u → w.cell? (ad.add j) = some u := by
      intro j u hu
      rw [List.getElem?_map, Option.map_eq_some_iff] at hu
      obtain ⟨x, hx, rfl⟩ := hu
      obtain ⟨b, o, x', hA, hx', hc⟩ := hr j (List.getElem?_eq_some_iff.1 hx).1
      injection hA with hA
      subst hA
      rw [hx] at hx'
      injection hx' with hx'
      subst hx'
      have : (⟨b, o, none⟩ : Addr).add j = ⟨b, o + j, none⟩ := by unfold Addr.add; split <;> simp_all
      rw [this]; exact hc
    have h1' : ∀ u ∈ ys.map f, u.oneCell' = true := by
      intro u hu
      obtain ⟨x, _, rfl⟩ := List.mem_map.1 hu
      exact h1 x
    obtain ⟨v', w', hrun, h2, h3, _, h5⟩ := run_append_own_at (P := P) w 0 t ty T i z 1 bytes ht hi hz hsize hby hzs (by omega) _ xs.length _ hown ad ys.length c2 (ys.map f) (by simp) hcells h1' (by simp only [maxLen]; omega) hbytes (Nat.zero_le _)
    have hv : ∃ S' c', v' = .slice S' (xs.length + ys.length) c' := by
      rcases h2.2 with ⟨h, h0⟩ | ⟨g, cap, cur, h, _⟩
      · exact ⟨none, 0, by rw [h, h0]⟩
      · exact ⟨_, cap, h⟩
    obtain ⟨S', c', rfl⟩ := hv
    refine ⟨S', c', w', by rw [List.length_append]; exact hrun, ?_, only_of_grown h3, fun g hg => ?_⟩
    · unfold OF; rw [List.length_append, List.map_append]; exact h2
    · rw [ownBlock_blk, ownBlock_blk] at h5
      have hg' : S'.map (·.block) = some g := by
        cases S' with
        | none => simp [blk] at hg
        | some a => simp [blk] at hg; simp [hg]
      rcases h5 with h5 | h5
      · left; rw [hg'] at h5; rw [blk_of_map h5.symm]; simp
      · right; rw [hg'] at h5; injection h5 with h5; omega
/-- append of one cell onto a row of cells of the call's own. -/
theorem run_appc (t ty : TypeId) (i : TypeInfo) (z : Value) (bytes : Nat) (ht : P.underlying t = some (.slice 114)) (hi : P.info? 114 = some i) (hz : i.zero = some z)
    (hsize : i.size = 3) (hby : i.bytes = bytes) (hzs : z.cells.size = 3)
    {S : Option Addr} {c : Nat} {os : List OCell} (hown : OC w S c os) (o : OCell) (ho : OF 3 fi w o.A o.cap o.c.refs) (hol : o.c.refs.length ≤ 9223372036854775807) (b c2 : Nat)
    (k0 : w.cell? ⟨b, 0, none⟩ = some (.bool o.c.used)) (k1 : w.cell? ⟨b, 1, none⟩ = some (.int .i64 o.c.data)) (k2 : w.cell? ⟨b, 2, none⟩ = some (.slice o.A o.c.refs.length o.cap))
    (h63 : os.length + 1 ≤ 9223372036854775807) (hbytes : (os.length + 1) * bytes ≤ 140737488355328) :
    ∃ S' c' w', (Builtin.append_ #[t, t] ty #[.slice S os.length c, .slice (some ⟨b, 0, none⟩) 1 c2]).run P w = .ok (.slice S' (os ++ [o]).length c') w' ∧ OC w' S' c' (os ++ [o]) ∧ Only (blk S) w w' ∧
      (∀ g ∈ blk S', g ∈ blk S ∨ w.heap.size ≤ g) := by
  have hcells : ∀ j u, (cellVals o)[j]? = some u → w.cell? ((⟨b, 0, none⟩ : Addr).add j) = some u := by
    intro j u hu
    have hj := (List.getElem?_eq_some_iff.1 hu).1
    simp [cellVals] at hj
    rcases (by omega : j = 0 ∨ j = 1 ∨ j = 2) with rfl | rfl | rfl
    all_goals
      simp [cellVals] at hu
      subst hu
      simp [Addr.add, *]
  have h1' : ∀ u ∈ cellVals o, u.oneCell' = true := by
    intro u hu
    simp [cellVals] at hu
    rcases hu with rfl | rfl | rfl <;> rfl
  obtain ⟨v', w', hrun, h2, h3, _, h5⟩ := run_append_own_at (P := P) w 0 t ty 114 i z 3 bytes ht hi hz hsize hby hzs (by omega) _ os.length _ hown.1 ⟨b, 0, none⟩ 1 c2 (cellVals o) (by simp [cellVals]) hcells h1' (by simp only [maxLen]; omega) hbytes (Nat.zero_le _)
  have hv : ∃ S' c', v' = .slice S' (os.length + 1) c' := by
    rcases h2.2 with ⟨h, h0⟩ | ⟨g, cap, cur, h, _⟩
    · omega
    · exact ⟨_, cap, h⟩
  obtain ⟨S', c', rfl⟩ := hv
  have hO := only_of_grown h3
  refine ⟨S', c', w', by rw [List.length_append]; exact hrun, ⟨?_, fun q hq => ?_⟩, hO, fun g hg => ?_⟩
  · rw [List.length_append, List.flatMap_append]; simpa using h2
  · have key : OF 3 fi w q.A q.cap q.c.refs ∧ q.c.refs.length ≤ 9223372036854775807 := by
      rcases List.mem_append.1 hq with hq | hq
      · exact hown.2 q hq
      · simp at hq; subst hq; exact ⟨ho, hol⟩
    exact ⟨key.1.only hO fun g hg => hown.apart key.1 g hg, key.2⟩
  · rw [ownBlock_blk, ownBlock_blk] at h5
    have hg' : S'.map (·.block) = some g := by
      cases S' with
      | none => simp [blk] at hg
      | some a => simp [blk] at hg; simp [hg]
    rcases h5 with h5 | h5
    · left; rw [hg'] at h5; rw [blk_of_map h5.symm]; simp
    · right; rw [hg'] at h5; injection h5 with h5; omega

/-- An append whose run is known, at a plain region's list and at a drawn region's step. -/
theorem wpList_ran {ops : Array Oper} {rest : List Oper} {o : Oper} {a : Act} {Q : Exit → Act → World → Prop} (hgd : o.guard = none) (s x : Operand) (t : TypeId)
    (ho : o.op = .call { callee := .builtin .append, args := #[s, x], argTypes := #[t, t] }) {v u v' : Value} {w' : World} (hs : a.eval s = v) (hx : a.eval x = u)
    (hrun : (Builtin.append_ #[t, t] o.type #[v, u]).run P w = .ok v' w') (h : wpList P ops Q rest (a.put o.dst v') w') : wpList P ops Q (o :: rest) a w :=
  wpList_plain hgd fun _ hK => by
    unfold Oper.wp execOp
    simp only [ho, resolve, invoke, builtin, Sem.run_bind, Sem.run_pure, Result.andThen_ok, List.map_toArray, List.map_cons, List.map_nil, hs, hx, hrun]
    exact hK _ _ h
theorem step_ran {ops : Array Oper} {o : Oper} {a : Act} {K : Act → World → Prop} {Q : Exit → Act → World → Prop} {E : Prop} (hgd : o.guard = none) (s x : Operand) (t : TypeId)
    (ho : o.op = .call { callee := .builtin .append, args := #[s, x], argTypes := #[t, t] }) {v u v' : Value} {w' : World} (hs : a.eval s = v) (hx : a.eval x = u)
    (hrun : (Builtin.append_ #[t, t] o.type #[v, u]).run P w = .ok v' w') (h : K (a.put o.dst v') w') : if Region.wanted o (yielded ops a.tmps) = true then Oper.wp P o a w K Q else E := by
  have hw : Region.wanted o (yielded ops a.tmps) = true := by simp [Region.wanted, hgd]
  rw [if_pos hw]
  unfold Oper.wp execOp
  simp only [ho, resolve, invoke, builtin, Sem.run_bind, Sem.run_pure, Result.andThen_ok, List.map_toArray, List.map_cons, List.map_nil, hs, hx, hrun]
  exact h
end
theorem RF.nil_len {α : Type} {f : α → Value} {w : World} {A : Option Addr} {xs : List α} (h : RF f w A xs) : A = none → xs.length = 0 := by
  intro hA
  rcases Nat.eq_zero_or_pos xs.length with h0 | h0
  · exact h0
  · obtain ⟨b, o, x, h1, _⟩ := h 0 h0
    rw [hA] at h1; cases h1
theorem app_ints {w : World} (ty : TypeId) {S : Option Addr} {c : Nat} {xs : List Int} (hown : OF 3 fi w S c xs) {A : Option Addr} {ys : List Int} (c2 : Nat) (hr : RF fi w A ys) (h : xs.length + ys.length ≤ 1099511627776) :
    ∃ S' c' w', (Builtin.append_ #[23, 23] ty #[.slice S xs.length c, .slice A ys.length c2]).run Try.prog w = .ok (.slice S' (xs ++ ys).length c') w' ∧ OF 3 fi w' S' c' (xs ++ ys) ∧ Only (blk S) w w' ∧ (∀ g ∈ blk S', g ∈ blk S ∨ w.heap.size ≤ g) := by
  obtain ⟨i0, hi, hz0, hz1, hz2⟩ := info_parts info_int
  exact run_app 23 ty i0 _ 8 Try.underlying23 hi hz0 hz1 hz2 rfl (fun _ => rfl) hown c2 hr (by omega) (by omega) hr.nil_len
theorem app_bools {w : World} (ty : TypeId) {S : Option Addr} {c : Nat} {xs : List Bool} (hown : OF 4 fb w S c xs) {A : Option Addr} {ys : List Bool} (c2 : Nat) (hr : RF fb w A ys) (h : xs.length + ys.length ≤ 1099511627776) :
    ∃ S' c' w', (Builtin.append_ #[26, 26] ty #[.slice S xs.length c, .slice A ys.length c2]).run Try.prog w = .ok (.slice S' (xs ++ ys).length c') w' ∧ OF 4 fb w' S' c' (xs ++ ys) ∧ Only (blk S) w w' ∧ (∀ g ∈ blk S', g ∈ blk S ∨ w.heap.size ≤ g) := by
  obtain ⟨i0, hi, hz0, hz1, hz2⟩ := info_parts info_bool
  exact run_app 26 ty i0 _ 1 Try.underlying26 hi hz0 hz1 hz2 rfl (fun _ => rfl) hown c2 hr (by omega) (by omega) hr.nil_len
theorem app_cell {w : World} (ty : TypeId) {S : Option Addr} {c : Nat} {os : List OCell} (hown : OC w S c os) (o : OCell) (ho : OF 3 fi w o.A o.cap o.c.refs) (hol : o.c.refs.length ≤ 9223372036854775807) (b c2 : Nat)
    (k0 : w.cell? ⟨b, 0, none⟩ = some (.bool o.c.used)) (k1 : w.cell? ⟨b, 1, none⟩ = some (.int .i64 o.c.data)) (k2 : w.cell? ⟨b, 2, none⟩ = some (.slice o.A o.c.refs.length o.cap)) (h : os.length ≤ 1099511627776) :
    ∃ S' c' w', (Builtin.append_ #[30, 30] ty #[.slice S os.length c, .slice (some ⟨b, 0, none⟩) 1 c2]).run Try.prog w = .ok (.slice S' (os ++ [o]).length c') w' ∧ OC w' S' c' (os ++ [o]) ∧ Only (blk S) w w' ∧ (∀ g ∈ blk S', g ∈ blk S ∨ w.heap.size ≤ g) := by
  obtain ⟨i0, hi, hz0, hz1, hz2⟩ := info_parts info_cell
  exact run_appc 30 ty i0 _ 40 Try.underlying30 hi hz0 hz1 hz2 rfl hown o ho hol b c2 k0 k1 k2 (by omega) (by omega)

section
variable {w w' : World}
theorem Only.cellAt {S : List Nat} (h : Only S w w') : ∀ b o, b < w.heap.size → b ∉ S → w'.cell? ⟨b, o, none⟩ = w.cell? ⟨b, o, none⟩ := fun b o hb hs => World.cell?_of_block (a := ⟨b, o, none⟩) (h.block b hb hs)
theorem Only.frozenAt {S : List Nat} (h : Only S w w') : ∀ b o, b < w.heap.size → b ∉ S → w'.frozen? ⟨b, o, none⟩ = w.frozen? ⟨b, o, none⟩ := fun b o hb hs => World.frozen?_of_block (a := ⟨b, o, none⟩) (h.block b hb hs)
theorem blk_nodup (S : Option Addr) : (blk S).Nodup := by cases S <;> simp [blk]
theorem nd_push {A B C A' D : List Nat} {n n5 : Nat} (h : (A ++ B ++ C).Nodup) (hl : ∀ g ∈ A ++ B ++ C, g < n) (h5 : ∀ g ∈ A', g ∈ A ∨ n5 ≤ g) (h2 : ∀ g ∈ D, n ≤ g ∧ g < n5) (hn : n ≤ n5) (hA : A'.Nodup) (hD : D.Nodup) : (A' ++ (B ++ D) ++ C).Nodup := by
  simp only [List.nodup_append, List.mem_append] at *
  grind
/-- A cell more in a heap of the call's own. -/
theorem OHs.push {SA S5 S : Option Addr} {c1 c5 k n n5 : Nat} {os : List OCell} {o : OCell} {rs : List Int} (hO : OHs w SA c1 S k os rs) (hC : OC w' S5 c5 (os ++ [o])) (hR : OF 3 fi w' S k rs)
    (h5 : ∀ g ∈ blk S5, g ∈ blk SA ∨ n5 ≤ g) (h2 : ∀ g ∈ blk o.A, n ≤ g ∧ g < n5) (hw : w.heap.size ≤ n) (hn : n ≤ n5) (hl : os.length ≤ 1099511627776) : OHs w' S5 c5 S k (os ++ [o]) rs :=
  ⟨hC, hR, by rw [blks_append]; exact nd_push hO.nodup (fun g hg => Nat.lt_of_lt_of_le (hO.lt g hg) hw) h5 (by simpa [blks] using h2) hn (blk_nodup _) (by simpa [blks] using blk_nodup _), by rw [List.length_append, List.length_singleton]; omega, hO.rlen⟩
variable {ops : Array Oper} {o : Oper} {a : Act} {K : Act → World → Prop} {Q : Exit → Act → World → Prop} {E : Prop}
/-- append of one cell, as a drawn region's step. -/
theorem step_appc (hgd : o.guard = none) (s x : Operand) (ho : o.op = .call { callee := .builtin .append, args := #[s, x], argTypes := #[30, 30] })
    {S : Option Addr} {c b c2 : Nat} {os : List OCell} (hs : a.eval s = .slice S os.length c) (hx : a.eval x = .slice (some ⟨b, 0, none⟩) 1 c2)
    (hown : OC w S c os) (oc : OCell) (hoc : OF 3 fi w oc.A oc.cap oc.c.refs) (hol : oc.c.refs.length ≤ 9223372036854775807)
    (k0 : w.cell? ⟨b, 0, none⟩ = some (.bool oc.c.used)) (k1 : w.cell? ⟨b, 1, none⟩ = some (.int .i64 oc.c.data)) (k2 : w.cell? ⟨b, 2, none⟩ = some (.slice oc.A oc.c.refs.length oc.cap)) (h : os.length ≤ 1099511627776)
    (hK : ∀ S' c' w', OC w' S' c' (os ++ [oc]) → Only (blk S) w w' → (∀ g ∈ blk S', g ∈ blk S ∨ w.heap.size ≤ g) → K (a.put o.dst (.slice S' (os ++ [oc]).length c')) w') :
    if Region.wanted o (yielded ops a.tmps) = true then Oper.wp Try.prog o a w K Q else E := by
  obtain ⟨S', c', w', hrun, h1, h2, h3⟩ := app_cell o.type hown oc hoc hol b c2 k0 k1 k2 h
  exact step_ran hgd s x _ ho hs hx hrun (hK _ _ _ h1 h2 h3)
end
section
variable {w : World} {ops : Array Oper} {o : Oper} {a : Act} {K : Act → World → Prop} {Q : Exit → Act → World → Prop} {E : Prop}
/-- append of a list of Int: at a plain region's list, and as a drawn region's step. -/
theorem wpList_appi {rest : List Oper} {Q : Exit → Act → World → Prop} (hgd : o.guard = none) (s x : Operand) (ho : o.op = .call { callee := .builtin .append, args := #[s, x], argTypes := #[23, 23] })
    {S A : Option Addr} {c c2 : Nat} (xs : List Int) {ys : List Int} (hs : a.eval s = .slice S xs.length c) (hx : a.eval x = .slice A ys.length c2)
    (hown : OF 3 fi w S c xs) (hr : RF fi w A ys) (h : xs.length + ys.length ≤ 1099511627776)
    (hK : ∀ S' c' w', OF 3 fi w' S' c' (xs ++ ys) → Only (blk S) w w' → (∀ g ∈ blk S', g ∈ blk S ∨ w.heap.size ≤ g) → wpList Try.prog ops Q rest (a.put o.dst (.slice S' (xs ++ ys).length c')) w') :
    wpList Try.prog ops Q (o :: rest) a w := by
  obtain ⟨S', c', w', hrun, h1, h2, h3⟩ := app_ints o.type hown c2 hr h
  exact wpList_ran hgd s x _ ho hs hx hrun (hK _ _ _ h1 h2 h3)
theorem step_appi (hgd : o.guard = none) (s x : Operand) (ho : o.op = .call { callee := .builtin .append, args := #[s, x], argTypes := #[23, 23] })
    {S A : Option Addr} {c c2 : Nat} (xs : List Int) {ys : List Int} (hs : a.eval s = .slice S xs.length c) (hx : a.eval x = .slice A ys.length c2)
    (hown : OF 3 fi w S c xs) (hr : RF fi w A ys) (h : xs.length + ys.length ≤ 1099511627776)
    (hK : ∀ S' c' w', OF 3 fi w' S' c' (xs ++ ys) → Only (blk S) w w' → (∀ g ∈ blk S', g ∈ blk S ∨ w.heap.size ≤ g) → K (a.put o.dst (.slice S' (xs ++ ys).length c')) w') :
    if Region.wanted o (yielded ops a.tmps) = true then Oper.wp Try.prog o a w K Q else E := by
  obtain ⟨S', c', w', hrun, h1, h2, h3⟩ := app_ints o.type hown c2 hr h
  exact step_ran hgd s x _ ho hs hx hrun (hK _ _ _ h1 h2 h3)
/-- append of a list of Bool: at a plain region's list, and as a drawn region's step. -/
theorem wpList_appb {rest : List Oper} {Q : Exit → Act → World → Prop} (hgd : o.guard = none) (s x : Operand) (ho : o.op = .call { callee := .builtin .append, args := #[s, x], argTypes := #[26, 26] })
    {S A : Option Addr} {c c2 : Nat} (xs : List Bool) {ys : List Bool} (hs : a.eval s = .slice S xs.length c) (hx : a.eval x = .slice A ys.length c2)
    (hown : OF 4 fb w S c xs) (hr : RF fb w A ys) (h : xs.length + ys.length ≤ 1099511627776)
    (hK : ∀ S' c' w', OF 4 fb w' S' c' (xs ++ ys) → Only (blk S) w w' → (∀ g ∈ blk S', g ∈ blk S ∨ w.heap.size ≤ g) → wpList Try.prog ops Q rest (a.put o.dst (.slice S' (xs ++ ys).length c')) w') :
    wpList Try.prog ops Q (o :: rest) a w := by
  obtain ⟨S', c', w', hrun, h1, h2, h3⟩ := app_bools o.type hown c2 hr h
  exact wpList_ran hgd s x _ ho hs hx hrun (hK _ _ _ h1 h2 h3)
end
end Go.Proofs.Ytkmfhadanbfadaa
