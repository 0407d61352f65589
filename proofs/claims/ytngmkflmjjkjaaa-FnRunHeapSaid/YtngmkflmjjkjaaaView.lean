/- What a program sees of a heap, as a plain function: the same exactly of heaps whose cells belong together. -/
import Derived.Test.YtngmkflmjjkjaaaIso
namespace Go.Proofs.Ytngmkflmjjkjaaa
set_option linter.unusedVariables false
set_option linter.unusedSimpArgs false
/-- What is met: sound, listed, and worked off below i. -/
structure OrdC (rf : Nat → List Int) (ok : Int → Bool) (fr : List Int) (i : Nat) (st : (Nat → Bool) × List Int) : Prop where
  sound : ∀ k, st.1 k = true → Rch rf ok fr k
  list : ∀ k, st.1 k = true → ∃ r ∈ st.2, r.toNat = k
  met : ∀ r ∈ st.2, ok r = true ∧ st.1 r.toNat = true
  start : ∀ r ∈ fr, ok r = true → st.1 r.toNat = true
  off : ∀ (j : Nat) (r : Int), j < i → st.2[j]? = some r → ∀ x ∈ rf r.toNat, ok x = true → st.1 x.toNat = true
theorem ordC {rf : Nat → List Int} {ok : Int → Bool} {fr : List Int} : ∀ i, OrdC rf ok fr i (ordIt rf ok fr i)
  | 0 => by
    obtain ⟨ns, h1, h2, h3⟩ := visL_work (ok := ok) fr (fun _ => false, [])
    show OrdC rf ok fr 0 (visL ok (fun _ => false, []) fr)
    refine ⟨fun k hk => ?_, fun k hk => ?_, fun r hr => ?_, fun r hr ho => visL_has fr _ r hr ho, fun j r hj => by omega⟩
    · rcases visL_only fr _ hk with h | ⟨r, hr, ho, rfl⟩
      · cases h
      · exact .start hr ho
    · rcases h3 k hk with h | ⟨r, hr, rfl⟩
      · cases h
      · exact ⟨r, by rw [h1]; simpa using hr, rfl⟩
    · rw [h1] at hr
      have hn : r ∈ ns := by simpa using hr
      exact ⟨(h2 r hn).1, visL_has fr _ r (h2 r hn).2.1 (h2 r hn).1⟩
  | i + 1 => by
    have ih := ordC (rf := rf) (ok := ok) (fr := fr) i
    show OrdC rf ok fr (i + 1) (ordStep rf ok i (ordIt rf ok fr i))
    generalize ordIt rf ok fr i = st at ih
    unfold ordStep
    cases e : st.2[i]? with
    | none =>
      refine ⟨ih.sound, ih.list, ih.met, ih.start, fun j r hj hr => ?_⟩
      have := List.getElem?_eq_none_iff.1 e
      have hr2 : st.2[j]? = some r := hr
      have := (List.getElem?_eq_some_iff.1 hr2).1
      exact ih.off j r (by omega) hr2
    | some x =>
      obtain ⟨ns, h1, h2, h3⟩ := visL_work (ok := ok) (rf x.toNat) st
      have hx := ih.met x (List.mem_of_getElem? e)
      simp only
      refine ⟨fun k hk => ?_, fun k hk => ?_, fun r hr => ?_, fun r hr ho => visL_mono _ _ (ih.start r hr ho), fun j r hj hr y hy ho => ?_⟩
      · rcases visL_only _ _ hk with h | ⟨r, hr, ho, rfl⟩
        · exact ih.sound k h
        · exact .next (ih.sound _ hx.2) hr ho
      · rcases h3 k hk with h | ⟨r, hr, rfl⟩
        · obtain ⟨r, hr, rfl⟩ := ih.list k h
          exact ⟨r, by rw [h1]; simp [hr], rfl⟩
        · exact ⟨r, by rw [h1]; simp [hr], rfl⟩
      · rw [h1] at hr
        rcases List.mem_append.1 hr with hr | hr
        · exact ⟨(ih.met r hr).1, visL_mono _ _ (ih.met r hr).2⟩
        · exact ⟨(h2 r hr).1, visL_has _ _ r (h2 r hr).2.1 (h2 r hr).1⟩
      · rw [h1] at hr
        have hil := (List.getElem?_eq_some_iff.1 e).1
        rw [List.getElem?_append_left (by omega)] at hr
        by_cases hj2 : j = i
        · subst hj2
          rw [e] at hr; injection hr with hr; subst hr
          exact visL_has _ _ y hy ho
        · exact visL_mono _ _ (ih.off j r (by omega) hr y hy ho)
/-- The order lists exactly what can be reached. -/
theorem ord_mem {h : HeapM} (hv : validM h = true) {r : Int} : r ∈ orderM h ↔ 0 ≤ r ∧ Rch (refsAt h) nonneg h.roots r.toNat := by
  have hc := ordC (rf := refsAt h) (ok := nonneg) (fr := h.roots) h.cells.length
  have hlen := (ord_ok hv h.cells.length).le
  unfold orderM
  have key : ∀ k, (ordIt (refsAt h) nonneg h.roots h.cells.length).1 k = true ↔ Rch (refsAt h) nonneg h.roots k := by
    intro k
    refine ⟨hc.sound k, fun hr => ?_⟩
    induction hr with
    | start hr ho => exact hc.start _ hr ho
    | next _ hr ho ih =>
      obtain ⟨x, hx, hxe⟩ := hc.list _ ih
      obtain ⟨j, hj⟩ := List.getElem?_of_mem hx
      have hjl := (List.getElem?_eq_some_iff.1 hj).1
      exact hc.off j x (by omega) hj _ (by rw [hxe]; exact hr) ho
  constructor
  · intro hr
    have := hc.met r hr
    exact ⟨by simpa [nonneg] using this.1, (key _).1 this.2⟩
  · rintro ⟨h0, hr⟩
    obtain ⟨x, hx, hxe⟩ := hc.list _ ((key _).2 hr)
    have h1 : 0 ≤ x := by simpa [nonneg] using (hc.met x hx).1
    obtain rfl : x = r := by omega
    exact hx
theorem ord_root {h : HeapM} (hv : validM h = true) {r : Int} (hr : r ∈ h.roots) : r = -1 ∨ r ∈ orderM h := by
  rcases leadsM_iff.1 ((validM_leads hv).2 r hr) with h1 | ⟨h0, -⟩
  · exact .inl h1
  · exact .inr ((ord_mem hv).2 ⟨h0, .start hr (by simp [nonneg, h0])⟩)
theorem ord_ref {h : HeapM} (hv : validM h = true) {k : Int} (hk : k ∈ orderM h) {r : Int} (hr : r ∈ refsAt h k.toNat) : r = -1 ∨ r ∈ orderM h := by
  rcases leadsM_iff.1 (refsAt_leads hv _ r hr) with h1 | ⟨h0, -⟩
  · exact .inl h1
  · exact .inr ((ord_mem hv).2 ⟨h0, .next ((ord_mem hv).1 hk).2 hr (by simp [nonneg, h0])⟩)
/-! ### Names -/
theorem nameM_nat (order : List Int) (r : Int) : (nameM order r = -1 ∧ r ∉ order) ∨ ∃ k : Nat, nameM order r = (k : Int) ∧ order[k]? = some r := by
  unfold nameM
  cases e : firstB (isR r) order with
  | none =>
    refine .inl ⟨rfl, fun hm => ?_⟩
    have := firstB_none_all e r hm
    simp [isR] at this
  | some k =>
    obtain ⟨x, hx, hp, -⟩ := firstB_at e
    have : x = r := by simpa [isR] using hp
    subst this
    exact .inr ⟨k, rfl, hx⟩
theorem nameM_of {order : List Int} (hnd : order.Pairwise fun a b => a ≠ b) {k : Nat} {r : Int} (hk : order[k]? = some r) : nameM order r = (k : Int) := by
  have hp := List.pairwise_iff_getElem.1 hnd
  refine nameM_some (fun i hi y hy => ?_) hk
  obtain ⟨hkl, rfl⟩ := List.getElem?_eq_some_iff.1 hk
  obtain ⟨hil, rfl⟩ := List.getElem?_eq_some_iff.1 hy
  have := hp i k hil hkl hi
  unfold isR; simpa using this
/-! ### Views -/
def recM (h : HeapM) (order : List Int) (r : Int) : List Int := match h.cells[r.toNat]? with | some c => c.data :: (c.refs.length : Int) :: c.refs.map (nameM order) | none => []
theorem recM_of {h : HeapM} {order : List Int} {r : Int} {c : CellM} (hc : h.cells[r.toNat]? = some c) : recM h order r = c.data :: (c.refs.length : Int) :: c.refs.map (nameM order) := by unfold recM; rw [hc]
def viewFrom (h : HeapM) (order : List Int) : List Int := h.roots.map (nameM order) ++ order.flatMap (recM h order)
def viewM (h : HeapM) : List Int := if validM h then viewFrom h (orderM h) else []
theorem viewM_ok {h : HeapM} (hv : validM h = true) : viewM h = viewFrom h (orderM h) := by unfold viewM; rw [if_pos hv]
def sameViewM (a b : HeapM) : Bool := validM a && (validM b && decide (viewM a = viewM b))
/-! Both orders in step -/
structure Lock (R : Nat → Nat → Prop) (st st' : (Nat → Bool) × List Int) : Prop where
  lst : All2 (fun r r' => 0 ≤ r ∧ 0 ≤ r' ∧ R r.toNat r'.toNat) st.2 st'.2
  met : ∀ k k', R k k' → st.1 k = st'.1 k'
theorem Lock.vis1 {R : Nat → Nat → Prop} {h h' : HeapM} (s : Sim R h h') {st st' : (Nat → Bool) × List Int} (l : Lock R st st') {r r' : Int} (hr : relR R r r') : Lock R (vis1 nonneg st r) (vis1 nonneg st' r') := by
  rcases hr with ⟨rfl, rfl⟩ | ⟨h1, h2, h3⟩
  · rw [vis1_no (.inl (by decide)), vis1_no (.inl (by decide))]; exact l
  · have hm := l.met _ _ h3
    rcases bool_ft (st.1 r.toNat) with hb | hb
    · rw [vis1_yes (by simp [nonneg, h1]) hb, vis1_yes (by simp [nonneg, h2]) (by rw [← hm]; exact hb)]
      refine ⟨l.lst.append (.cons ⟨h1, h2, h3⟩ .nil), fun k k' hk => ?_⟩
      simp only
      by_cases e : k = r.toNat
      · have e' : k' = r'.toNat := by rw [e] at hk; exact s.fn hk h3
        rw [if_pos e, if_pos e']
      · have e' : k' ≠ r'.toNat := fun e' => e (s.inj hk (e' ▸ h3))
        rw [if_neg e, if_neg e']; exact l.met _ _ hk
    · rw [vis1_no (.inr hb), vis1_no (.inr (by rw [← hm]; exact hb))]; exact l
theorem Lock.visL {R : Nat → Nat → Prop} {h h' : HeapM} (s : Sim R h h') {rs rs' : List Int} (hr : All2 (relR R) rs rs') : ∀ {st st' : (Nat → Bool) × List Int}, Lock R st st' → Lock R (visL nonneg st rs) (visL nonneg st' rs') := by
  induction hr with
  | nil => intro st st' l; exact l
  | cons hr _ ih => intro st st' l; exact ih (l.vis1 s hr)
theorem Lock.it {R : Nat → Nat → Prop} {h h' : HeapM} (s : Sim R h h') : ∀ i, Lock R (ordIt (refsAt h) nonneg h.roots i) (ordIt (refsAt h') nonneg h'.roots i)
  | 0 => Lock.visL s s.roots ⟨.nil, fun _ _ _ => rfl⟩
  | i + 1 => by
    have l := Lock.it s i
    show Lock R (ordStep (refsAt h) nonneg i _) (ordStep (refsAt h') nonneg i _)
    unfold ordStep
    cases e : (ordIt (refsAt h) nonneg h.roots i).2[i]? with
    | none =>
      have : (ordIt (refsAt h') nonneg h'.roots i).2[i]? = none := by rw [List.getElem?_eq_none_iff] at e ⊢; rw [← l.lst.len]; exact e
      rw [this]; exact l
    | some x =>
      obtain ⟨y, hy, -, -, hr⟩ := l.lst.at_ e
      rw [hy]; exact Lock.visL s (s.refs hr) l
theorem ord_far {h : HeapM} (hv : validM h = true) {n : Nat} (hn : h.cells.length ≤ n) : (ordIt (refsAt h) nonneg h.roots n).2 = orderM h := by
  have hlen := (ord_ok hv h.cells.length).le
  have := ordIt_stay (rf := refsAt h) (ok := nonneg) (fr := h.roots) (i := h.cells.length) (by omega) (n - h.cells.length)
  rw [show h.cells.length + (n - h.cells.length) = n by omega] at this
  rw [this]; rfl
theorem Sim.order {R : Nat → Nat → Prop} {h h' : HeapM} (s : Sim R h h') (hv : validM h = true) (hv' : validM h' = true) : All2 (fun r r' => 0 ≤ r ∧ 0 ≤ r' ∧ R r.toNat r'.toNat) (orderM h) (orderM h') := by
  have l := (Lock.it s 40).lst
  rwa [ord_far hv (validM_len hv).1, ord_far hv' (validM_len hv').1] at l
theorem Sim.name {R : Nat → Nat → Prop} {h h' : HeapM} (s : Sim R h h') {os os' : List Int} (ho : All2 (fun r r' => 0 ≤ r ∧ 0 ≤ r' ∧ R r.toNat r'.toNat) os os') {r r' : Int} (hr : relR R r r') : nameM os r = nameM os' r' := by
  have : firstB (isR r) os = firstB (isR r') os' := by
    induction ho with
    | nil => rfl
    | @cons a b _ _ hab _ ih =>
      have e : isR r a = isR r' b := by
        unfold isR
        obtain ⟨h1, h2, h3⟩ := hab
        rcases hr with ⟨rfl, rfl⟩ | ⟨g1, g2, g3⟩
        · rw [Bool.eq_iff_iff]; simp only [beq_iff_eq]; omega
        · rw [Bool.eq_iff_iff]; simp only [beq_iff_eq]
          constructor
          · rintro rfl; have := s.fn h3 g3; omega
          · rintro rfl; have := s.inj h3 g3; omega
      simp only [firstB, e, ih]
  unfold nameM; rw [this]
theorem Sim.view {R : Nat → Nat → Prop} {h h' : HeapM} (s : Sim R h h') (hv : validM h = true) (hv' : validM h' = true) : viewM h = viewM h' := by
  have ho := s.order hv hv'
  rw [viewM_ok hv, viewM_ok hv']
  unfold viewFrom
  have hn : ∀ r r', relR R r r' → nameM (orderM h) r = nameM (orderM h') r' := fun r r' hr => s.name ho hr
  generalize orderM h = os at *
  generalize orderM h' = os' at *
  rw [s.roots.map_eq hn]
  congr 1
  have : ∀ {l l' : List Int}, All2 (fun r r' => 0 ≤ r ∧ 0 ≤ r' ∧ R r.toNat r'.toNat) l l' → l.flatMap (recM h os) = l'.flatMap (recM h' os') := by
    intro l l' hl
    induction hl with
    | nil => rfl
    | cons hab _ ih =>
      obtain ⟨h1, h2, h3⟩ := hab
      obtain ⟨d, rs, rs', g1, g2, g3⟩ := s.cell h3
      simp only [List.flatMap_cons, ih, recM_of g1, recM_of g2, g3.map_eq hn, g3.len]
  exact this ho
theorem rec_inj {n : Nat} {a b : List Int} {d e : Int} {ns ms : List Int} {m : Nat} (hn : ns.length = n) (hm : ms.length = m) (h : (d :: (n : Int) :: ns) ++ a = (e :: (m : Int) :: ms) ++ b) : d = e ∧ ns = ms ∧ a = b := by
  simp only [List.cons_append, List.cons.injEq] at h
  obtain ⟨h1, h2, h3⟩ := h
  have h4 : n = m := by omega
  obtain ⟨h5, h6⟩ := List.append_inj h3 (by omega)
  exact ⟨h1, h5, h6⟩
theorem recs_inj {h h' : HeapM} {os os' : List Int} : ∀ {l l' : List Int}, (∀ r ∈ l, ∃ c, h.cells[r.toNat]? = some c) → (∀ r ∈ l', ∃ c, h'.cells[r.toNat]? = some c) → l.flatMap (recM h os) = l'.flatMap (recM h' os') → All2 (fun r r' => recM h os r = recM h' os' r') l l'
  | [], [], _, _, _ => .nil
  | [], r :: l, _, h2, e => by
    obtain ⟨c, hc⟩ := h2 r (by simp)
    rw [List.flatMap_nil, List.flatMap_cons, recM_of hc] at e; simp at e
  | r :: l, [], h1, _, e => by
    obtain ⟨c, hc⟩ := h1 r (by simp)
    rw [List.flatMap_nil, List.flatMap_cons, recM_of hc] at e; simp at e
  | r :: l, r' :: l', h1, h2, e => by
    obtain ⟨c, hc⟩ := h1 r (by simp)
    obtain ⟨c', hc'⟩ := h2 r' (by simp)
    rw [List.flatMap_cons, List.flatMap_cons, recM_of hc, recM_of hc'] at e
    obtain ⟨e1, e2, e3⟩ := rec_inj (by simp) (by simp) e
    refine .cons ?_ (recs_inj (fun x hx => h1 x (by simp [hx])) (fun x hx => h2 x (by simp [hx])) e3)
    rw [recM_of hc, recM_of hc', e1, e2]
    have := congrArg List.length e2
    simp only [List.length_map] at this
    rw [this]
/-- Equal views: cells belong together. -/
theorem iso_view {h h' : HeapM} (hv : validM h = true) (hv' : validM h' = true) (e : viewM h = viewM h') : Iso h h' := by
  rw [viewM_ok hv, viewM_ok hv'] at e
  unfold viewFrom at e
  obtain ⟨e1, e2⟩ := List.append_inj e (by simp [(validM_len hv).2, (validM_len hv').2])
  have hcell : ∀ {h : HeapM}, validM h = true → ∀ r ∈ orderM h, ∃ c, h.cells[r.toNat]? = some c := fun hv r hr => by
    obtain ⟨c, hc, -⟩ := reach_leads hv ((ord_mem hv).1 hr).2; exact ⟨c, hc⟩
  have e3 := recs_inj (hcell hv) (hcell hv') e2
  have nd := (order_ok hv).nd
  have nd' := (order_ok hv').nd
  have hpos : ∀ {h : HeapM}, validM h = true → ∀ {i : Nat} {r : Int}, (orderM h)[i]? = some r → ((r.toNat : Nat) : Int) = r := fun {g} hg {i r} hr => by
    have := ((ord_mem hg).1 (List.mem_of_getElem? hr)).1; omega
  have hrel : ∀ r r' : Int, (r = -1 ∨ r ∈ orderM h) → (r' = -1 ∨ r' ∈ orderM h') → nameM (orderM h) r = nameM (orderM h') r' → relR (fun k k' => ∃ i : Nat, (orderM h)[i]? = some (k : Int) ∧ (orderM h')[i]? = some (k' : Int)) r r' := by
    intro r r' h1 h2 hn
    have hm1 : ∀ {g : HeapM}, validM g = true → (-1 : Int) ∉ orderM g := fun {g} hg hm => by have := ((ord_mem hg).1 hm).1; omega
    rcases nameM_nat (orderM h) r with ⟨g1, g2⟩ | ⟨k, g1, g2⟩ <;> rcases nameM_nat (orderM h') r' with ⟨f1, f2⟩ | ⟨k', f1, f2⟩
    · exact .inl ⟨h1.resolve_right g2, h2.resolve_right f2⟩
    · omega
    · omega
    · have hk : k = k' := by omega
      subst hk
      have p1 := hpos hv g2
      have p2 := hpos hv' f2
      exact .inr ⟨by omega, by omega, k, by rw [p1]; exact g2, by rw [p2]; exact f2⟩
  refine ⟨fun k k' => ∃ i : Nat, (orderM h)[i]? = some (k : Int) ∧ (orderM h')[i]? = some (k' : Int), ?_, ?_, ?_, ?_⟩
  · rintro a b b' ⟨i, h1, h2⟩ ⟨j, h3, h4⟩
    have hij : i = j := by have := (nameM_of nd h1).symm.trans (nameM_of nd h3); omega
    subst hij
    rw [h2] at h4; injection h4 with h4; omega
  · rintro a a' b ⟨i, h1, h2⟩ ⟨j, h3, h4⟩
    have hij : i = j := by have := (nameM_of nd' h2).symm.trans (nameM_of nd' h4); omega
    subst hij
    rw [h1] at h3; injection h3 with h3; omega
  · rintro k k' ⟨i, h1, h2⟩
    obtain ⟨r', hr', hrec⟩ := e3.at_ h1
    rw [h2] at hr'; injection hr' with hr'; subst hr'
    have m1 := (ord_mem hv).1 (List.mem_of_getElem? h1)
    have m2 := (ord_mem hv').1 (List.mem_of_getElem? h2)
    obtain ⟨⟨u, d, rs⟩, hc, hu⟩ := reach_leads hv m1.2
    obtain ⟨⟨u', d', rs'⟩, hc', hu'⟩ := reach_leads hv' m2.2
    have hu2 : u = true := hu
    have hu2' : u' = true := hu'
    subst hu2 hu2'
    rw [recM_of hc, recM_of hc'] at hrec
    simp only [List.cons.injEq] at hrec
    obtain ⟨rfl, -, hn⟩ := hrec
    simp only [Int.toNat_natCast] at hc hc'
    refine ⟨d, rs, rs', hc, hc', (All2.of_map hn).imp_mem fun a ha b hb hab => hrel a b ?_ ?_ hab⟩
    · exact ord_ref hv (List.mem_of_getElem? h1) (by rw [Int.toNat_natCast, refsAt_of hc]; exact ha)
    · exact ord_ref hv' (List.mem_of_getElem? h2) (by rw [Int.toNat_natCast, refsAt_of hc']; exact hb)
  · exact (All2.of_map e1).imp_mem fun a ha b hb hab => hrel a b (ord_root hv ha) (ord_root hv' hb) hab
theorem view_iff {h h' : HeapM} (hv : validM h = true) (hv' : validM h' = true) : viewM h = viewM h' ↔ Iso h h' := ⟨iso_view hv hv', fun ⟨_, s⟩ => s.view hv hv'⟩
theorem sameView_iff {a b : HeapM} : sameViewM a b = true ↔ validM a = true ∧ validM b = true ∧ Iso a b := by
  unfold sameViewM
  simp only [Bool.and_eq_true, decide_eq_true_eq]
  constructor
  · rintro ⟨h1, h2, h3⟩; exact ⟨h1, h2, (view_iff h1 h2).1 h3⟩
  · rintro ⟨h1, h2, h3⟩; exact ⟨h1, h2, (view_iff h1 h2).2 h3⟩
/-- As many cells can be reached. -/
theorem Iso.live {h h' : HeapM} (s : Iso h h') (hv : validM h = true) (hv' : validM h' = true) : (orderM h).length = (orderM h').length := by
  obtain ⟨R, s⟩ := s; exact (s.order hv hv').len
/-! ### Cells gathered in an order -/
theorem iso_gath {h : HeapM} (hv : validM h = true) {order : List Int} (ho : OrdOk h order) (hr : ∀ k, Rch (refsAt h) nonneg h.roots k → (k : Int) ∈ order) : Iso h (gathM h order) := by
  have hrel : ∀ r : Int, (r = -1 ∨ (0 ≤ r ∧ Rch (refsAt h) nonneg h.roots r.toNat)) → relR (fun k i => order[i]? = some (k : Int) ∧ Rch (refsAt h) nonneg h.roots k) r (nameM order r) := by
    rintro r (rfl | ⟨h0, hk⟩)
    · exact .inl ⟨rfl, nameM_out fun hm => by have := (ho.lt _ hm).1; omega⟩
    · have hm := hr _ hk
      rw [Int.toNat_of_nonneg h0] at hm
      obtain ⟨i, hi⟩ := List.getElem?_of_mem hm
      rw [nameM_of ho.nd hi]
      exact .inr ⟨h0, by omega, by simpa [Int.toNat_of_nonneg h0] using hi, hk⟩
  refine ⟨fun k i => order[i]? = some (k : Int) ∧ Rch (refsAt h) nonneg h.roots k, ?_, ?_, ?_, ?_⟩
  · rintro a b b' ⟨h1, -⟩ ⟨h2, -⟩
    have := (nameM_of ho.nd h1).symm.trans (nameM_of ho.nd h2); omega
  · rintro a a' b ⟨h1, -⟩ ⟨h2, -⟩
    rw [h1] at h2; injection h2 with h2; omega
  · rintro k i ⟨h1, hk⟩
    obtain ⟨⟨u, d, rs⟩, hc, hu⟩ := reach_leads hv hk
    have hu2 : u = true := hu
    subst hu2
    refine ⟨d, rs, rs.map (nameM order), hc, ?_, All2.mapR fun r hm => hrel r ?_⟩
    · show (order.map (movedC h order))[i]? = _
      rw [List.getElem?_map, h1]
      simp only [Option.map_some]
      rw [movedC_of (c := ⟨true, d, rs⟩) (by rw [Int.toNat_natCast]; exact hc)]
    · have hm2 : r ∈ refsAt h k := by rw [refsAt_of hc]; exact hm
      rcases leadsM_iff.1 (refsAt_leads hv k r hm2) with h3 | ⟨h0, -⟩
      · exact .inl h3
      · exact .inr ⟨h0, .next hk hm2 (by simp [nonneg, h0])⟩
  · refine All2.mapR fun r hm => hrel r ?_
    rcases leadsM_iff.1 ((validM_leads hv).2 r hm) with h3 | ⟨h0, -⟩
    · exact .inl h3
    · exact .inr ⟨h0, .start hm (by simp [nonneg, h0])⟩
theorem iso_copy {h : HeapM} (hv : validM h = true) : Iso h (copyHeapM h) := by
  unfold copyHeapM; rw [if_pos hv]
  exact iso_gath hv (order_ok hv) fun k hk => (ord_mem hv).2 ⟨by omega, by simpa using hk⟩
theorem slide_mem {h : HeapM} (hv : validM h = true) {k : Nat} (hk : Rch (refsAt h) nonneg h.roots k) : (k : Int) ∈ slideM h := by
  obtain ⟨c, hc, -⟩ := reach_leads hv hk
  unfold slideM slideN
  simp only [List.mem_map, List.mem_filter, List.mem_range]
  exact ⟨k, ⟨(List.getElem?_eq_some_iff.1 hc).1, (reach_iff hv k).2 hk⟩, rfl⟩
theorem iso_slide {h : HeapM} (hv : validM h = true) : Iso h (slideHeapM h) := by
  unfold slideHeapM; rw [if_pos hv]
  exact iso_gath hv (slide_ok h) fun k hk => slide_mem hv hk
end Go.Proofs.Ytngmkflmjjkjaaa
