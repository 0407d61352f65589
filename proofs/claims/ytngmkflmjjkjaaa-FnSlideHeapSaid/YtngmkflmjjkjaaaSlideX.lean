/- What FnSlideHeap needs beside the merged texts: plain. -/
import Derived.Test.YtngmkflmjjkjaaaGrIso
namespace Go.Proofs.Ytngmkflmjjkjaaa
set_option linter.unusedVariables false
set_option linter.unusedSimpArgs false
theorem All2.imp_mem {α β : Type} {R S : α → β → Prop} {as : List α} {bs : List β} (h : All2 R as bs) : (∀ a ∈ as, ∀ b ∈ bs, R a b → S a b) → All2 S as bs := by
  induction h with
  | nil => intro _; exact .nil
  | cons hr _ ih => intro hi; exact .cons (hi _ (by simp) _ (by simp) hr) (ih fun a ha b hb => hi a (by simp [ha]) b (by simp [hb]))
theorem All2.of_map {α β γ : Type} {f : α → γ} {g : β → γ} : ∀ {as : List α} {bs : List β}, as.map f = bs.map g → All2 (fun a b => f a = g b) as bs
  | [], [], _ => .nil
  | [], b :: bs, h => by simp at h
  | a :: as, [], h => by simp at h
  | a :: as, b :: bs, h => by
    simp only [List.map_cons, List.cons.injEq] at h
    exact .cons h.1 (All2.of_map h.2)
theorem ord_root {h : HeapM} (hv : validM h = true) {r : Int} (hr : r ∈ h.roots) : r = -1 ∨ r ∈ orderM h := by
  rcases leadsM_iff.1 ((validM_leads hv).2 r hr) with h1 | ⟨h0, -⟩
  · exact .inl h1
  · exact .inr ((ord_mem hv).2 ⟨h0, .start hr (by simp [nonneg, h0])⟩)
theorem ord_ref {h : HeapM} (hv : validM h = true) {k : Int} (hk : k ∈ orderM h) {r : Int} (hr : r ∈ refsAt h k.toNat) : r = -1 ∨ r ∈ orderM h := by
  rcases leadsM_iff.1 (refsAt_leads hv _ r hr) with h1 | ⟨h0, -⟩
  · exact .inl h1
  · exact .inr ((ord_mem hv).2 ⟨h0, .next ((ord_mem hv).1 hk).2 hr (by simp [nonneg, h0])⟩)
def recM (h : HeapM) (order : List Int) (r : Int) : List Int := match h.cells[r.toNat]? with | some c => c.data :: (c.refs.length : Int) :: c.refs.map (nameM order) | none => []
theorem recM_of {h : HeapM} {order : List Int} {r : Int} {c : CellM} (hc : h.cells[r.toNat]? = some c) : recM h order r = c.data :: (c.refs.length : Int) :: c.refs.map (nameM order) := by unfold recM; rw [hc]
def viewFrom (h : HeapM) (order : List Int) : List Int := h.roots.map (nameM order) ++ order.flatMap (recM h order)
def viewM (h : HeapM) : List Int := if validM h then viewFrom h (orderM h) else []
theorem viewM_ok {h : HeapM} (hv : validM h = true) : viewM h = viewFrom h (orderM h) := by unfold viewM; rw [if_pos hv]
def sameViewM (a b : HeapM) : Bool := validM a && (validM b && decide (viewM a = viewM b))
theorem Sim.view {R : Nat → Nat → Prop} {h h' : HeapM} (s : Sim R h h') (hv : validM h = true) (hv' : validM h' = true) : viewM h = viewM h' := by
  have ho := s.order hv hv'
  rw [viewM_ok hv, viewM_ok hv']
  unfold viewFrom
  have hn : ∀ r r', relR R r r' → nameM (orderM h) r = nameM (orderM h') r' := fun r r' hr => s.name ho hr
  generalize orderM h = os at *
  generalize orderM h' = os' at *
  rw [s.roots.map_eq hn]
  congr 1
  have : ∀ {l l' : List Int}, All2 (fun r r' => 0 ≤ r ∧ 0 ≤ r' ∧ R r.toNat r'.toNat) l l' → l.flatMap (recM h os) = l'.flatMap (recM h' os') := by
    intro l l' hl
    induction hl with
    | nil => rfl
    | cons hab _ ih =>
      obtain ⟨h1, h2, h3⟩ := hab
      obtain ⟨d, rs, rs', g1, g2, g3⟩ := s.cell h3
      simp only [List.flatMap_cons, ih, recM_of g1, recM_of g2, g3.map_eq hn, g3.len]
  exact this ho
theorem rec_inj {n : Nat} {a b : List Int} {d e : Int} {ns ms : List Int} {m : Nat} (hn : ns.length = n) (hm : ms.length = m) (h : (d :: (n : Int) :: ns) ++ a = (e :: (m : Int) :: ms) ++ b) : d = e ∧ ns = ms ∧ a = b := by
  simp only [List.cons_append, List.cons.injEq] at h
  obtain ⟨h1, h2, h3⟩ := h
  have h4 : n = m := by omega
  obtain ⟨h5, h6⟩ := List.append_inj h3 (by omega)
  exact ⟨h1, h5, h6⟩
theorem recs_inj {h h' : HeapM} {os os' : List Int} : ∀ {l l' : List Int}, (∀ r ∈ l, ∃ c, h.cells[r.toNat]? = some c) → (∀ r ∈ l', ∃ c, h'.cells[r.toNat]? = some c) → l.flatMap (recM h os) = l'.flatMap (recM h' os') → All2 (fun r r' => recM h os r = recM h' os' r') l l'
  | [], [], _, _, _ => .nil
  | [], r :: l, _, h2, e => by
    obtain ⟨c, hc⟩ := h2 r (by simp)
    rw [List.flatMap_nil, List.flatMap_cons, recM_of hc] at e; simp at e
  | r :: l, [], h1, _, e => by
    obtain ⟨c, hc⟩ := h1 r (by simp)
    rw [List.flatMap_nil, List.flatMap_cons, recM_of hc] at e; simp at e
  | r :: l, r' :: l', h1, h2, e => by
    obtain ⟨c, hc⟩ := h1 r (by simp)
    obtain ⟨c', hc'⟩ := h2 r' (by simp)
    rw [List.flatMap_cons, List.flatMap_cons, recM_of hc, recM_of hc'] at e
    obtain ⟨e1, e2, e3⟩ := rec_inj (by simp) (by simp) e
    refine .cons ?_ (recs_inj (fun x hx => h1 x (by simp [hx])) (fun x hx => h2 x (by simp [hx])) e3)
    rw [recM_of hc, recM_of hc', e1, e2]
    have := congrArg List.length e2
    simp only [List.length_map] at this
    rw [this]
/-- Equal views: cells belong together. -/
theorem iso_view {h h' : HeapM} (hv : validM h = true) (hv' : validM h' = true) (e : viewM h = viewM h') : Iso h h' := by
  rw [viewM_ok hv, viewM_ok hv'] at e
  unfold viewFrom at e
  obtain ⟨e1, e2⟩ := List.append_inj e (by simp [(validM_len hv).2, (validM_len hv').2])
  have hcell : ∀ {h : HeapM}, validM h = true → ∀ r ∈ orderM h, ∃ c, h.cells[r.toNat]? = some c := fun hv r hr => by
    obtain ⟨c, hc, -⟩ := reach_leads hv ((ord_mem hv).1 hr).2; exact ⟨c, hc⟩
  have e3 := recs_inj (hcell hv) (hcell hv') e2
  have nd := (order_ok hv).nd
  have nd' := (order_ok hv').nd
  have hpos : ∀ {h : HeapM}, validM h = true → ∀ {i : Nat} {r : Int}, (orderM h)[i]? = some r → ((r.toNat : Nat) : Int) = r := fun {g} hg {i r} hr => by
    have := ((ord_mem hg).1 (List.mem_of_getElem? hr)).1; omega
  have hrel : ∀ r r' : Int, (r = -1 ∨ r ∈ orderM h) → (r' = -1 ∨ r' ∈ orderM h') → nameM (orderM h) r = nameM (orderM h') r' → relR (fun k k' => ∃ i : Nat, (orderM h)[i]? = some (k : Int) ∧ (orderM h')[i]? = some (k' : Int)) r r' := by
    intro r r' h1 h2 hn
    have hm1 : ∀ {g : HeapM}, validM g = true → (-1 : Int) ∉ orderM g := fun {g} hg hm => by have := ((ord_mem hg).1 hm).1; omega
    rcases nameM_nat (orderM h) r with ⟨g1, g2⟩ | ⟨k, g1, g2⟩ <;> rcases nameM_nat (orderM h') r' with ⟨f1, f2⟩ | ⟨k', f1, f2⟩
    · exact .inl ⟨h1.resolve_right g2, h2.resolve_right f2⟩
    · omega
    · omega
    · have hk : k = k' := by omega
      subst hk
      have p1 := hpos hv g2
      have p2 := hpos hv' f2
      exact .inr ⟨by omega, by omega, k, by rw [p1]; exact g2, by rw [p2]; exact f2⟩
  refine ⟨fun k k' => ∃ i : Nat, (orderM h)[i]? = some (k : Int) ∧ (orderM h')[i]? = some (k' : Int), ?_, ?_, ?_, ?_⟩
  · rintro a b b' ⟨i, h1, h2⟩ ⟨j, h3, h4⟩
    have hij : i = j := by have := (nameM_of nd h1).symm.trans (nameM_of nd h3); omega
    subst hij
    rw [h2] at h4; injection h4 with h4; omega
  · rintro a a' b ⟨i, h1, h2⟩ ⟨j, h3, h4⟩
    have hij : i = j := by have := (nameM_of nd' h2).symm.trans (nameM_of nd' h4); omega
    subst hij
    rw [h1] at h3; injection h3 with h3; omega
  · rintro k k' ⟨i, h1, h2⟩
    obtain ⟨r', hr', hrec⟩ := e3.at_ h1
    rw [h2] at hr'; injection hr' with hr'; subst hr'
    have m1 := (ord_mem hv).1 (List.mem_of_getElem? h1)
    have m2 := (ord_mem hv').1 (List.mem_of_getElem? h2)
    obtain ⟨⟨u, d, rs⟩, hc, hu⟩ := reach_leads hv m1.2
    obtain ⟨⟨u', d', rs'⟩, hc', hu'⟩ := reach_leads hv' m2.2
    have hu2 : u = true := hu
    have hu2' : u' = true := hu'
    subst hu2 hu2'
    rw [recM_of hc, recM_of hc'] at hrec
    simp only [List.cons.injEq] at hrec
    obtain ⟨rfl, -, hn⟩ := hrec
    simp only [Int.toNat_natCast] at hc hc'
    refine ⟨d, rs, rs', hc, hc', (All2.of_map hn).imp_mem fun a ha b hb hab => hrel a b ?_ ?_ hab⟩
    · exact ord_ref hv (List.mem_of_getElem? h1) (by rw [Int.toNat_natCast, refsAt_of hc]; exact ha)
    · exact ord_ref hv' (List.mem_of_getElem? h2) (by rw [Int.toNat_natCast, refsAt_of hc']; exact hb)
  · exact (All2.of_map e1).imp_mem fun a ha b hb hab => hrel a b (ord_root hv ha) (ord_root hv' hb) hab
theorem view_iff {h h' : HeapM} (hv : validM h = true) (hv' : validM h' = true) : viewM h = viewM h' ↔ Iso h h' := ⟨iso_view hv hv', fun ⟨_, s⟩ => s.view hv hv'⟩
theorem sameView_iff {a b : HeapM} : sameViewM a b = true ↔ validM a = true ∧ validM b = true ∧ Iso a b := by
  unfold sameViewM
  simp only [Bool.and_eq_true, decide_eq_true_eq]
  constructor
  · rintro ⟨h1, h2, h3⟩; exact ⟨h1, h2, (view_iff h1 h2).1 h3⟩
  · rintro ⟨h1, h2, h3⟩; exact ⟨h1, h2, (view_iff h1 h2).2 h3⟩
theorem copy_len {h : HeapM} (hv : validM h = true) : (copyHeapM h).cells.length = liveN h := by
  unfold copyHeapM; rw [if_pos hv]; simp [gathM, liveN]
theorem ord_nat {h : HeapM} (hv : validM h = true) {k : Nat} : (k : Int) ∈ orderM h ↔ rch h k := by
  rw [ord_mem hv]; simp
def natsL (n : Nat) : List Int := (List.range n).map fun k : Nat => (k : Int)
theorem natsL_len (n : Nat) : (natsL n).length = n := by simp [natsL]
theorem natsL_nd (n : Nat) : (natsL n).Pairwise fun a b => a ≠ b := by
  unfold natsL
  rw [List.pairwise_map]
  exact List.nodup_range.imp fun hab e => hab (by omega)
theorem natsL_mem {n : Nat} {r : Int} : r ∈ natsL n ↔ 0 ≤ r ∧ r < (n : Int) := by
  unfold natsL
  simp only [List.mem_map, List.mem_range]
  constructor
  · rintro ⟨k, hk, rfl⟩; omega
  · rintro ⟨h0, h1⟩; exact ⟨r.toNat, by omega, by omega⟩
theorem live_some {h : HeapM} (hv : validM h = true) {k : Nat} (hk : k < h.cells.length) (hn : ¬ rch h k) : liveN h < h.cells.length := by
  have hnm : (k : Int) ∉ orderM h := fun hm => hn ((ord_nat hv).1 hm)
  have := nodup_len (a := (k : Int) :: orderM h) (b := natsL h.cells.length) (List.pairwise_cons.2 ⟨fun b hb e => hnm (by rw [e]; exact hb), (order_ok hv).nd⟩) fun r hr => by
    rcases List.mem_cons.1 hr with rfl | hr
    · exact natsL_mem.2 ⟨by omega, by omega⟩
    · have := (order_ok hv).lt r hr; exact natsL_mem.2 this
  rw [natsL_len] at this
  simp only [List.length_cons] at this
  unfold liveN; omega
theorem slide_all {h : HeapM} (hv : validM h = true) (ha : ∀ k, k < h.cells.length → rch h k) : slideM h = natsL h.cells.length := by
  unfold slideM slideN natsL
  congr 1
  rw [List.filter_eq_self]
  intro k hk
  exact (reach_iff hv k).2 (ha k (by simpa using hk))
theorem nameM_nats {n : Nat} {r : Int} (h : r = -1 ∨ (0 ≤ r ∧ r < (n : Int))) : nameM (natsL n) r = r := by
  rcases h with rfl | ⟨h0, h1⟩
  · exact nameM_out fun hm => by have := (natsL_mem.1 hm).1; omega
  · have : (natsL n)[r.toNat]? = some r := by unfold natsL; rw [List.getElem?_map, List.getElem?_range (by omega)]; simp [Int.toNat_of_nonneg h0]
    rw [nameM_of (natsL_nd n) this]; omega
theorem gath_nats {h : HeapM} (hv : validM h = true) (hu : ∀ c ∈ h.cells, c.used = true) : gathM h (natsL h.cells.length) = h := by
  have hlr : ∀ r : Int, leadsM h.cells r = true → nameM (natsL h.cells.length) r = r := fun r hr => by
    refine nameM_nats ?_
    rcases leadsM_iff.1 hr with h1 | ⟨h0, -⟩
    · exact .inl h1
    · exact .inr ⟨h0, leadsM_lt hr⟩
  have e1 : (natsL h.cells.length).map (movedC h (natsL h.cells.length)) = h.cells := by
    apply List.ext_getElem?
    intro k
    by_cases hk : k < h.cells.length
    · have hc := List.getElem?_eq_getElem (l := h.cells) (i := k) hk
      have e : (natsL h.cells.length)[k]? = some (k : Int) := by unfold natsL; rw [List.getElem?_map, List.getElem?_range hk]; rfl
      rw [List.getElem?_map, e, hc]
      show some (movedC h _ (k : Int)) = _
      rw [movedC_of (c := h.cells[k]) (by rw [Int.toNat_natCast]; exact hc)]
      have hm := List.mem_of_getElem? hc
      have hu1 := hu _ hm
      have : (h.cells[k]).refs.map (nameM (natsL h.cells.length)) = (h.cells[k]).refs := by
        conv => rhs; rw [← List.map_id (h.cells[k]).refs]
        exact List.map_congr_left fun r hr => hlr r ((validM_leads hv).1 _ hm r hr)
      rw [this, ← hu1]
    · rw [List.getElem?_eq_none (by rw [List.length_map, natsL_len]; omega), List.getElem?_eq_none (by omega)]
  have e2 : h.roots.map (nameM (natsL h.cells.length)) = h.roots := by
    conv => rhs; rw [← List.map_id h.roots]
    exact List.map_congr_left fun r hr => hlr r ((validM_leads hv).2 r hr)
  unfold gathM
  rw [e1, e2]
theorem slid_used {h : HeapM} (hv : validM h = true) : ∀ c ∈ (slideHeapM h).cells, c.used = true := by
  unfold slideHeapM; rw [if_pos hv]
  intro c hc
  have hc2 : c ∈ (slideM h).map (movedC h (slideM h)) := hc
  obtain ⟨r, hr, rfl⟩ := List.mem_map.1 hc2
  obtain ⟨c, hcc, -⟩ := reach_leads hv (slide_sub hv hr).2
  rw [movedC_of hcc]
theorem slid_live {h : HeapM} (hv : validM h = true) : liveN (slideHeapM h) = (slideHeapM h).cells.length := by
  rw [slideH_len hv]; exact ((iso_slide hv).liveN hv (slide_valid hv)).symm
theorem slid_all {h : HeapM} (hv : validM h = true) : ∀ k, k < (slideHeapM h).cells.length → rch (slideHeapM h) k := by
  intro k hk
  rcases Classical.em (rch (slideHeapM h) k) with h1 | h1
  · exact h1
  · have := live_some (slide_valid hv) hk h1
    rw [slid_live hv] at this; omega
theorem slide_twice {h : HeapM} (hv : validM h = true) : slideHeapM (slideHeapM h) = slideHeapM h := by
  have hv2 := slide_valid hv
  show (if validM (slideHeapM h) then gathM (slideHeapM h) (slideM (slideHeapM h)) else zeroH) = _
  rw [if_pos hv2, slide_all hv2 (slid_all hv), gath_nats hv2 (slid_used hv)]
theorem used_all {h : HeapM} (hu : ∀ c ∈ h.cells, c.used = true) : usedC h = h.cells.length := by
  unfold usedC; rw [List.filter_eq_self.2 hu]
/-- FnSlideHeap. -/
theorem law_SlideHeap {h : HeapM} (hv : validM h = true) : (usedCellsM (slideHeapM h)).1 = ((slideHeapM h).cells.length : Int) ∧ (usedCellsM (slideHeapM h)).2 = ((slideHeapM h).cells.length : Int) ∧ sameViewM (slideHeapM h) h = true ∧ slideHeapM (slideHeapM h) = slideHeapM h ∧ (slideHeapM h).cells.length = (copyHeapM h).cells.length := by
  have hv2 := slide_valid hv
  unfold usedCellsM
  rw [if_pos hv2, reach_count hv2, slid_live hv, used_all (slid_used hv)]
  exact ⟨rfl, rfl, sameView_iff.2 ⟨hv2, hv, (iso_slide hv).symm⟩, slide_twice hv, by rw [slideH_len hv, copy_len hv]⟩
end Go.Proofs.Ytngmkflmjjkjaaa
