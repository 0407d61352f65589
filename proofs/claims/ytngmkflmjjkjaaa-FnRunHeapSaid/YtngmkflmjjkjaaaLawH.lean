/- Plain laws: programs on heaps, freeing, moving; what a program sees stays. -/
import Derived.Test.YtngmkflmjjkjaaaView
import Derived.Test.YtngmkflmjjkjaaaGrData
namespace Go.Proofs.Ytngmkflmjjkjaaa
set_option linter.unusedVariables false
set_option linter.unusedSimpArgs false
theorem stepM_poss {h : HeapM} {o : CmdM} (hv : validM h = true) (ho : cmdOk o = true) (hp : possO h o = true) (hl : o.op = 1 → h.cells.length < 40) : stepM h o = (execM h o h.cells.length, true) := by
  unfold stepM
  rw [hv, ho, hp]
  have : (decide (o.op = 1) && decide (h.cells.length = 40)) = false := by
    by_cases e : o.op = 1
    · have := hl e; simp [e]; omega
    · simp [e]
  rw [this]; rfl
theorem stepM_not {h : HeapM} {o : CmdM} (hv : validM h = true) (ho : cmdOk o = true) (hp : possO h o = false) : stepM h o = (h, false) := by
  unfold stepM; rw [hv, ho, hp]; rfl
theorem stepM_full {h : HeapM} {o : CmdM} (hv : validM h = true) (ho : cmdOk o = true) (h1 : o.op = 1) (hl : h.cells.length = 40) : stepM h o = (h, false) := by
  unfold stepM; rw [hv, ho, poss_new h1]; simp [h1, hl]
theorem stepM_inv {h : HeapM} {o : CmdM} (hb : (validM h && cmdOk o) = false) : stepM h o = (zeroH, false) := by
  unfold stepM; rw [hb]; rfl
theorem stepM_len (h : HeapM) (o : CmdM) : (stepM h o).1.cells.length ≤ h.cells.length + 1 := by
  unfold stepM
  split
  · split
    · simp only [exec_len]; split <;> omega
    · simp only; omega
  · simp [zeroH]
/-- A step beside a step of the reference's: the cells stay together. -/
theorem iso_next {h g h2 : HeapM} {o : CmdM} (s : Iso h g) (hg : validM g = true) (ho : cmdOk o = true) (hl : g.cells.length < 40) (hy : possO h o = true → ∃ p, freeTo h p ∧ h2 = execM h o p) (hn : possO h o = false → h2 = h) : Iso h2 (stepM g o).1 := by
  cases hp : possO h o
  · rw [stepM_not hg ho (by rw [← s.poss]; exact hp), hn hp]; exact s
  · obtain ⟨p, hf, rfl⟩ := hy hp
    rw [stepM_poss hg ho (by rw [← s.poss]; exact hp) (fun _ => hl)]
    exact s.exec ho hp hf (freeTo_len g)
/-- Steps of heaps of which a program sees the same. -/
theorem iso_step {a b : HeapM} {o : CmdM} (s : Iso a b) (ha : validM a = true) (hb : validM b = true) (ho : cmdOk o = true) (hla : a.cells.length < 40) (hlb : b.cells.length < 40) : Iso (stepM a o).1 (stepM b o).1 :=
  iso_next s hb ho hlb (fun hp => ⟨_, freeTo_len a, by rw [stepM_poss ha ho hp (fun _ => hla)]⟩) (fun hp => by rw [stepM_not ha ho hp])
theorem runFrom_len (l : List CmdM) : ∀ h : HeapM, (runFrom h l).cells.length ≤ h.cells.length + l.length := by
  induction l with
  | nil => intro h; exact Nat.le_refl _
  | cons o l ih => intro h; have h1 := ih (stepM h o).1; have h2 := stepM_len h o; show (runFrom (stepM h o).1 l).cells.length ≤ _; simp only [List.length_cons]; omega
theorem cmdsOk_iff {l : List CmdM} : cmdsOk l = true ↔ l.length ≤ 40 ∧ ∀ o ∈ l, cmdOk o = true := by unfold cmdsOk; simp
theorem cmdsOk_take {l : List CmdM} (h : cmdsOk l = true) (n : Nat) : cmdsOk (l.take n) = true := by
  rw [cmdsOk_iff] at h ⊢
  exact ⟨by rw [List.length_take]; omega, fun o ho => h.2 o (List.mem_of_mem_take ho)⟩
/-! ### FnRunHeap -/
theorem run_last {l : List CmdM} (hl : cmdsOk l = true) {n : Nat} {o : CmdM} (ho : l[n]? = some o) (hn : l.length = n + 1) : (stepM (runM (l.take n)) o).1 = runM l := by
  unfold runM
  rw [if_pos hl, if_pos (cmdsOk_take hl n), ← runFrom_snoc ho, ← hn, List.take_length]
/-! ### How many cells can be reached -/
def liveN (h : HeapM) : Nat := (orderM h).length
theorem live_le {h : HeapM} (hv : validM h = true) : liveN h ≤ h.cells.length := (order_ok hv).len
theorem nodup_len {a b : List Int} (ha : a.Pairwise fun x y => x ≠ y) (hs : ∀ x ∈ a, x ∈ b) : a.length ≤ b.length := by
  induction a generalizing b with
  | nil => simp
  | cons x a ih =>
    rw [List.pairwise_cons] at ha
    have hx := hs x (by simp)
    have := ih (b := b.erase x) ha.2 fun y hy => (List.mem_erase_of_ne fun e => ha.1 y hy e.symm).2 (hs y (by simp [hy]))
    rw [List.length_erase_of_mem hx] at this
    have := List.length_pos_of_mem hx
    simp only [List.length_cons]; omega
theorem slide_sub {h : HeapM} (hv : validM h = true) {r : Int} (hr : r ∈ slideM h) : 0 ≤ r ∧ Rch (refsAt h) nonneg h.roots r.toNat := by
  unfold slideM slideN at hr
  simp only [List.mem_map, List.mem_filter, List.mem_range] at hr
  obtain ⟨k, ⟨hk, h1⟩, rfl⟩ := hr
  exact ⟨by omega, by rw [Int.toNat_natCast]; exact (reach_iff hv k).1 h1⟩
theorem slide_live {h : HeapM} (hv : validM h = true) : (slideM h).length = liveN h := by
  apply Nat.le_antisymm
  · exact nodup_len (slide_ok h).nd fun r hr => (ord_mem hv).2 (slide_sub hv hr)
  · refine nodup_len (order_ok hv).nd fun r hr => ?_
    have h1 := (ord_mem hv).1 hr
    have := slide_mem hv h1.2
    rwa [Int.toNat_of_nonneg h1.1] at this
theorem copy_len {h : HeapM} (hv : validM h = true) : (copyHeapM h).cells.length = liveN h := by
  unfold copyHeapM; rw [if_pos hv]; simp [gathM, liveN]
theorem slideH_len {h : HeapM} (hv : validM h = true) : (slideHeapM h).cells.length = liveN h := by
  unfold slideHeapM; rw [if_pos hv]; simp [gathM, slide_live hv]
theorem gath_valid {h : HeapM} (hv : validM h = true) {order : List Int} (ho : OrdOk h order) (hu : ∀ r ∈ order, ∃ c, h.cells[r.toNat]? = some c ∧ c.used = true) : validM (gathM h order) = true := by
  have hl : ∀ r : Int, leadsM (gathM h order).cells (nameM order r) = true := fun r => by
    rcases nameM_nat order r with ⟨h1, -⟩ | ⟨k, h1, h2⟩
    · rw [h1]; exact leadsM_neg1 _
    · rw [h1]
      refine leadsM_iff.2 (.inr ⟨by omega, ?_⟩)
      have hr := List.mem_of_getElem? h2
      obtain ⟨c, hc, -⟩ := hu r hr
      refine ⟨⟨true, c.data, c.refs.map (nameM order)⟩, ?_, rfl⟩
      show (order.map (movedC h order))[((k : Nat) : Int).toNat]? = _
      rw [Int.toNat_natCast, List.getElem?_map, h2]
      exact congrArg some (movedC_of hc)
  refine validM_iff.2 ⟨fun c hc => ?_, ?_, ?_, fun r hr => ?_⟩
  · have hc2 : c ∈ order.map (movedC h order) := hc
    obtain ⟨r, hr, rfl⟩ := List.mem_map.1 hc2
    obtain ⟨c, hcc, hcu⟩ := hu r hr
    rw [movedC_of hcc]
    have hok := (validM_iff.1 hv).1 c (List.mem_of_getElem? hcc)
    rcases cellOk_iff.1 hok with ⟨-, -, h2, h3, h4⟩ | ⟨h1, -⟩
    · exact cellOk_iff.2 (.inl ⟨rfl, fun x hx => by obtain ⟨y, -, rfl⟩ := List.mem_map.1 hx; exact hl y, h2, h3, by simpa using h4⟩)
    · rw [h1] at hcu; cases hcu
  · have := (validM_len hv).1
    have := ho.len
    show (order.map _).length ≤ 40
    rw [List.length_map]; omega
  · show (h.roots.map _).length = 4
    rw [List.length_map]; exact (validM_len hv).2
  · have hr2 : r ∈ h.roots.map (nameM order) := hr
    obtain ⟨y, -, rfl⟩ := List.mem_map.1 hr2
    exact hl y
theorem copy_valid {h : HeapM} (hv : validM h = true) : validM (copyHeapM h) = true := by
  unfold copyHeapM; rw [if_pos hv]
  exact gath_valid hv (order_ok hv) fun r hr => reach_leads hv ((ord_mem hv).1 hr).2
theorem slide_valid {h : HeapM} (hv : validM h = true) : validM (slideHeapM h) = true := by
  unfold slideHeapM; rw [if_pos hv]
  exact gath_valid hv (slide_ok h) fun r hr => reach_leads hv (slide_sub hv hr).2
/-! ### Programs that move: RunCopy, RunSlide -/
/-- What moving has to do. -/
structure Mover (mv : HeapM → HeapM) : Prop where
  valid : ∀ h, validM h = true → validM (mv h) = true
  iso : ∀ h, validM h = true → Iso h (mv h)
  len : ∀ h, validM h = true → (mv h).cells.length = liveN h
theorem mover_copy : Mover copyHeapM := ⟨fun _ => copy_valid, fun _ => iso_copy, fun _ => copy_len⟩
theorem mover_slide : Mover slideHeapM := ⟨fun _ => slide_valid, fun _ => iso_slide, fun _ => slideH_len⟩
/-- A program that moves comes to its end as one that frees by any other way: it stops when as many cells can be reached as it may have. -/
def stopB (limit : Int) (g : HeapM) (o : CmdM) : Bool := decide (o.op = 1) && decide (limit ≤ (liveN g : Int))
/-- The reference's run, stopped. -/
def refFrom (limit : Int) : HeapM → List CmdM → Bool
  | _, [] => true
  | g, o :: l => if stopB limit g o then false else refFrom limit (stepM g o).1 l
theorem Iso.liveN {h g : HeapM} (s : Iso h g) (hv : validM h = true) (hg : validM g = true) : liveN h = liveN g := s.live hv hg
theorem move_ref {mv : HeapM → HeapM} (m : Mover mv) {limit : Int} (hlim : limit ≤ 40) : ∀ (l : List CmdM) (h g : HeapM), (∀ o ∈ l, cmdOk o = true) → validM h = true → validM g = true → Iso h g → (h.cells.length : Int) ≤ limit → g.cells.length + l.length ≤ 40 →
    (moveFrom mv limit h l).2 = refFrom limit g l ∧ validM (moveFrom mv limit h l).1 = true ∧ ((moveFrom mv limit h l).1.cells.length : Int) ≤ limit ∧ ((moveFrom mv limit h l).2 = true → Iso (moveFrom mv limit h l).1 (runFrom g l)) := by
  intro l
  induction l with
  | nil => intro h g _ hv hg s hl _; exact ⟨rfl, hv, hl, fun _ => s⟩
  | cons o l ih =>
    intro h g hok hv hg s hl hgl
    have ho := hok o (by simp)
    have hgl' : g.cells.length < 40 := by simp only [List.length_cons] at hgl; omega
    have hlive := s.liveN hv hg
    have hle := live_le hv
    have hsg := stepM_len g o
    have hvg := valid_step (h := g) hg ho
    -- a step in a heap that has room
    have go : ∀ h1 : HeapM, validM h1 = true → Iso h1 g → (h1.cells.length : Int) ≤ limit → (o.op = 1 → (h1.cells.length : Int) < limit) → (moveFrom mv limit (stepM h1 o).1 l).2 = refFrom limit (stepM g o).1 l ∧ validM (moveFrom mv limit (stepM h1 o).1 l).1 = true ∧ ((moveFrom mv limit (stepM h1 o).1 l).1.cells.length : Int) ≤ limit ∧ ((moveFrom mv limit (stepM h1 o).1 l).2 = true → Iso (moveFrom mv limit (stepM h1 o).1 l).1 (runFrom g (o :: l))) := by
      intro h1 hv1 s1 hl1 hn1
      have hlen : ((stepM h1 o).1.cells.length : Int) ≤ limit := by
        by_cases e : o.op = 1
        · have := stepM_len h1 o; have := hn1 e; omega
        · cases hp : possO h1 o
          · rw [stepM_not hv1 ho hp]; exact hl1
          · rw [stepM_poss hv1 ho hp (fun e2 => absurd e2 e)]
            simp only [exec_len, e, false_and, if_false]; exact hl1
      refine ih (stepM h1 o).1 (stepM g o).1 (fun x hx => hok x (by simp [hx])) (valid_step hv1 ho) hvg ?_ hlen (by simp only [List.length_cons] at hgl; omega)
      refine iso_next s1 hg ho hgl' (fun hp => ⟨_, freeTo_len h1, ?_⟩) (fun hp => by rw [stepM_not hv1 ho hp])
      rw [stepM_poss hv1 ho hp (fun e => by have := hn1 e; omega)]
    rw [moveFrom]
    by_cases hc : o.op = 1 ∧ limit ≤ (h.cells.length : Int)
    · rw [if_pos hc]
      have hml := m.len h hv
      by_cases hc2 : limit ≤ ((mv h).cells.length : Int)
      · rw [if_pos hc2]
        have hst : stopB limit g o = true := by unfold stopB; simp [hc.1]; omega
        refine ⟨by rw [refFrom, if_pos hst], m.valid h hv, ?_, fun h' => by cases h'⟩
        simp only; omega
      · rw [if_neg hc2]
        have hst : stopB limit g o = false := by unfold stopB; simp [hc.1]; omega
        rw [refFrom, if_neg (by rw [hst]; simp)]
        exact go (mv h) (m.valid h hv) ((m.iso h hv).symm.trans s) (by omega) (fun _ => by omega)
    · rw [if_neg hc]
      have hst : stopB limit g o = false := by
        unfold stopB
        by_cases e : o.op = 1
        · have : ¬ limit ≤ (h.cells.length : Int) := fun h' => hc ⟨e, h'⟩
          simp [e]; omega
        · simp [e]
      rw [refFrom, if_neg (by rw [hst]; simp)]
      exact go h hv s hl (fun e => by have : ¬ limit ≤ (h.cells.length : Int) := fun h' => hc ⟨e, h'⟩; omega)
theorem inB_lim {limit : Int} (h : inB 1 limit 40 = true) : 1 ≤ limit ∧ limit ≤ 40 := inB_iff.1 h
theorem run_move {mv : HeapM → HeapM} (m : Mover mv) {l : List CmdM} {limit : Int} (hb : (cmdsOk l && inB 1 limit 40) = true) :
    (runMoveM mv l limit).2 = refFrom limit emptyM l ∧ validM (runMoveM mv l limit).1 = true ∧ ((runMoveM mv l limit).1.cells.length : Int) ≤ limit ∧ ((runMoveM mv l limit).2 = true → Iso (runMoveM mv l limit).1 (runM l)) := by
  rw [Bool.and_eq_true] at hb
  have hl := inB_lim hb.2
  obtain ⟨h1, h2⟩ := cmdsOk_iff.1 hb.1
  have := move_ref m hl.2 l emptyM emptyM h2 valid_empty valid_empty (Iso.refl valid_empty) (by simp [emptyM]; omega) (by simpa [emptyM] using h1)
  unfold runMoveM runM
  rw [hb.1, hb.2]
  exact this
theorem run_move_bad {mv : HeapM → HeapM} {l : List CmdM} {limit : Int} (hb : (cmdsOk l && inB 1 limit 40) = false) : runMoveM mv l limit = (zeroH, false) := by unfold runMoveM; rw [hb]; rfl
/-- FnRunSlide. -/
theorem law_RunSlide (l : List CmdM) (limit : Int) : (runMoveM slideHeapM l limit).2 = (runMoveM copyHeapM l limit).2 ∧ ((runMoveM slideHeapM l limit).2 = true → sameViewM (runMoveM slideHeapM l limit).1 (runM l) = true ∧ ((runMoveM slideHeapM l limit).1.cells.length : Int) ≤ limit) := by
  rcases bool_ft (cmdsOk l && inB 1 limit 40) with hb | hb
  · rw [run_move_bad hb, run_move_bad hb]; exact ⟨rfl, fun h => by cases h⟩
  · obtain ⟨a1, a2, a3, a4⟩ := run_move mover_slide hb
    obtain ⟨b1, -⟩ := run_move mover_copy hb
    refine ⟨a1.trans b1.symm, fun h => ⟨sameView_iff.2 ⟨a2, valid_run (Bool.and_eq_true_iff.1 hb).1, a4 h⟩, a3⟩⟩
/-! ### FnCopySlide: both runs in step -/
theorem move_both {mv mv' : HeapM → HeapM} (m : Mover mv) (m' : Mover mv') {limit : Int} (hlim : limit ≤ 40) : ∀ (l : List CmdM) (h h' : HeapM), (∀ o ∈ l, cmdOk o = true) → validM h = true → validM h' = true → Iso h h' → h.cells.length = h'.cells.length → (h.cells.length : Int) ≤ limit →
    (moveFrom mv limit h l).1.cells.length = (moveFrom mv' limit h' l).1.cells.length ∧ Iso (moveFrom mv limit h l).1 (moveFrom mv' limit h' l).1 ∧ validM (moveFrom mv limit h l).1 = true ∧ validM (moveFrom mv' limit h' l).1 = true := by
  intro l
  induction l with
  | nil => intro h h' _ hv hv' s hl _; exact ⟨hl, s, hv, hv'⟩
  | cons o l ih =>
    intro h h' hok hv hv' s hl hlm
    have ho := hok o (by simp)
    have hlive := s.liveN hv hv'
    have go : ∀ h1 h1' : HeapM, validM h1 = true → validM h1' = true → Iso h1 h1' → h1.cells.length = h1'.cells.length → (h1.cells.length : Int) ≤ limit → (o.op = 1 → (h1.cells.length : Int) < limit) → (moveFrom mv limit (stepM h1 o).1 l).1.cells.length = (moveFrom mv' limit (stepM h1' o).1 l).1.cells.length ∧ Iso (moveFrom mv limit (stepM h1 o).1 l).1 (moveFrom mv' limit (stepM h1' o).1 l).1 ∧ validM (moveFrom mv limit (stepM h1 o).1 l).1 = true ∧ validM (moveFrom mv' limit (stepM h1' o).1 l).1 = true := by
      intro h1 h1' hv1 hv1' s1 hl1 hlm1 hn1
      refine ih _ _ (fun x hx => hok x (by simp [hx])) (valid_step hv1 ho) (valid_step hv1' ho) ?_ ?_ ?_
      · cases hp : possO h1 o
        · rw [stepM_not hv1 ho hp, stepM_not hv1' ho (by rw [← s1.poss]; exact hp)]; exact s1
        · rw [stepM_poss hv1 ho hp (fun e => by have := hn1 e; omega), stepM_poss hv1' ho (by rw [← s1.poss]; exact hp) (fun e => by have := hn1 e; omega)]
          exact s1.exec ho hp (freeTo_len _) (freeTo_len _)
      · cases hp : possO h1 o
        · rw [stepM_not hv1 ho hp, stepM_not hv1' ho (by rw [← s1.poss]; exact hp)]; exact hl1
        · rw [stepM_poss hv1 ho hp (fun e => by have := hn1 e; omega), stepM_poss hv1' ho (by rw [← s1.poss]; exact hp) (fun e => by have := hn1 e; omega)]
          simp only [exec_len, hl1]
      · cases hp : possO h1 o
        · rw [stepM_not hv1 ho hp]; exact hlm1
        · rw [stepM_poss hv1 ho hp (fun e => by have := hn1 e; omega)]
          simp only [exec_len]
          split
          · next e => have := hn1 e.1; push_cast; omega
          · exact hlm1
    rw [moveFrom, moveFrom]
    rw [← hl]
    by_cases hc : o.op = 1 ∧ limit ≤ (h.cells.length : Int)
    · rw [if_pos hc, if_pos hc]
      have hm1 := m.len h hv
      have hm2 := m'.len h' hv'
      rw [hm2, ← hlive, ← hm1]
      have s2 : Iso (mv h) (mv' h') := (m.iso h hv).symm.trans (s.trans (m'.iso h' hv'))
      have hlen2 : (mv h).cells.length = (mv' h').cells.length := by omega
      by_cases hc2 : limit ≤ ((mv h).cells.length : Int)
      · rw [if_pos hc2, if_pos hc2]
        exact ⟨hlen2, s2, m.valid h hv, m'.valid h' hv'⟩
      · rw [if_neg hc2, if_neg hc2]
        exact go _ _ (m.valid h hv) (m'.valid h' hv') s2 hlen2 (by omega) (fun _ => by omega)
    · rw [if_neg hc, if_neg hc]
      exact go h h' hv hv' s hl hlm (fun e => by have : ¬ limit ≤ (h.cells.length : Int) := fun h' => hc ⟨e, h'⟩; omega)
theorem law_CopySlide (l : List CmdM) (limit : Int) : (runMoveM copyHeapM l limit).1.cells.length = (runMoveM slideHeapM l limit).1.cells.length ∧ ((runMoveM copyHeapM l limit).1.roots.length = 0 ∨ sameViewM (runMoveM copyHeapM l limit).1 (runMoveM slideHeapM l limit).1 = true) := by
  rcases bool_ft (cmdsOk l && inB 1 limit 40) with hb | hb
  · rw [run_move_bad hb, run_move_bad hb]; exact ⟨rfl, .inl rfl⟩
  · have hb2 := Bool.and_eq_true_iff.1 hb
    have hl := inB_lim hb2.2
    obtain ⟨h1, h2⟩ := cmdsOk_iff.1 hb2.1
    obtain ⟨a1, a2, a3, a4⟩ := move_both mover_copy mover_slide hl.2 l emptyM emptyM h2 valid_empty valid_empty (Iso.refl valid_empty) rfl (by simp [emptyM]; omega)
    unfold runMoveM
    rw [if_pos hb, if_pos hb]
    exact ⟨a1, .inr (sameView_iff.2 ⟨a3, a4, a2⟩)⟩
end Go.Proofs.Ytngmkflmjjkjaaa
