/- A region that draws its order and stores twice: takes that read (S) and takes that read nothing; what waits for all that read may break S. No function of the program stands here. -/
import Derived.Test.YtebanmigaikhhaaRegion
namespace Go.Proofs.Ytebanmigaikhhaa
section
variable {P : Program} {ops : Array Oper} {Q : Exit → Act → World → Prop} {tk : List Nat}
def wpAnyG (P : Program) (tk : List Nat) (ops : Array Oper) (Q : Exit → Act → World → Prop) (S : World → Prop) : Nat → Array Bool → Act → World → Prop
  | 0, listed, a, w => Region.ready .any ops listed = [] ∧ Q .normal a w
  | fuel + 1, listed, a, w =>
    (Region.ready .any ops listed = [] → Q .normal a w) ∧
    ∀ i ∈ Region.ready .any ops listed, wpOp P ops Q i (fun a' w' => (S w → lastOf tk ops i = false → S w') ∧ wpAnyG P tk ops Q S fuel (listed.setIfInBounds i true) a' w') a w
theorem wpAny_of_G {S : World → Prop} : ∀ (fuel : Nat) (listed : Array Bool) (a : Act) (w : World), wpAnyG P tk ops Q S fuel listed a w → wpAny P .any ops Q fuel listed a w
  | 0, _, _, _, h => h
  | fuel + 1, _, _, _, h => ⟨h.1, fun i hi => wpOp_mono (fun a' w' h' => wpAny_of_G fuel _ a' w' h'.2) (h.2 i hi)⟩
theorem wpAnyG_first {S T : World → Prop} {i : Nat} {oi : Oper} {v : Value} (hi : ops[i]? = some oi) (hT : (∀ w, T w) ∨ ((∀ w, S w → T w) ∧ (∀ w, T w → S w) ∧ i ∈ tk)) (hsel : ∀ (j : Nat) (o : Oper) cs b, ops[j]? = some o → o.op ≠ .select cs b)
    (hQ : ∀ c a w, Q (.panic c) (a.put oi.dst v) w → Q (.panic c) a w) :
    ∀ (fuel : Nat) (listed : Array Bool) (a : Act) (w : World),
      (∀ j oj, ops[j]? = some oj → j ≠ i → listed.getD j true = false → (∀ e ∈ oj.after, Region.binds .any e = true → e.on ≠ i) → oi.apart ops oj = true) →
      i ∈ Region.ready .any ops listed → YieldsIf P ops T oi v a → T w →
      wpAnyG P tk ops Q S fuel (listed.setIfInBounds i true) (a.put oi.dst v) w → wpAnyG P tk ops Q S (fuel + 1) listed a w := by
  have wait : ∀ (listed : Array Bool), i ∈ Region.ready .any ops listed → ∀ j ∈ Region.ready .any ops listed, j ≠ i →
      ∃ oj, ops[j]? = some oj ∧ listed.getD j true = false ∧ (∀ e ∈ oj.after, Region.binds .any e = true → e.on ≠ i) ∧ (i ∈ tk → lastOf tk ops j = false) := by
    intro listed hr j hj hji
    obtain ⟨hjun, oj, hoj, hall⟩ := mem_ready.1 hj
    have hnot : ∀ e ∈ oj.after, Region.binds .any e = true → e.on ≠ i := fun e he hb heq => by
      have h1 := hall e he hb
      have h0 := (mem_ready.1 hr).1
      rw [heq] at h1
      rcases Nat.lt_or_ge i listed.size with h' | h'
      · simp [h'] at h0 h1; rw [h0] at h1; cases h1
      · simp [Array.getElem?_eq_none h'] at h1
    refine ⟨oj, hoj, hjun, hnot, fun htk => ?_⟩
    unfold lastOf
    rw [Bool.eq_false_iff]
    intro hl
    have h1 := (List.all_eq_true.1 hl) i htk
    simp only [hoj, Option.map_some, Option.getD_some, beq_iff_eq, Array.any_eq_true', Bool.and_eq_true] at h1
    obtain ⟨e, he, hb, hon⟩ := h1
    exact hnot e he hb hon
  intro fuel
  induction fuel with
  | zero =>
    intro listed a w _ hr hy hTw H
    refine ⟨fun h => (by rw [h] at hr; cases hr), fun j hj => ?_⟩
    by_cases hji : j = i
    · subst hji; exact hy.wpOp hi hTw ⟨fun hS _ => hS, H⟩
    · have h2 := ready_mono hj hji
      rw [H.1] at h2
      cases h2
  | succ fuel ih =>
    intro listed a w hfree hr hy hTw H
    refine ⟨fun h => (by rw [h] at hr; cases hr), fun j hj => ?_⟩
    by_cases hji : j = i
    · subst hji; exact hy.wpOp hi hTw ⟨fun hS _ => hS, H⟩
    · obtain ⟨oj, hoj, hjun, hnot, hlast⟩ := wait listed hr j hj hji
      have h1 := H.2 j (ready_mono hj hji)
      have h2 := wpOp_putIf hoj (hfree j oj hoj hji hjun hnot) (fun cs b => hsel i oi cs b hi) (fun cs b => hsel j oj cs b hoj) hQ hy h1
      have hfree' : ∀ k ok, ops[k]? = some ok → k ≠ i → (listed.setIfInBounds j true).getD k true = false →
          (∀ e ∈ ok.after, Region.binds .any e = true → e.on ≠ i) → oi.apart ops ok = true := fun k ok hk hki hun hno => by
        refine hfree k ok hk hki ?_ hno
        by_cases hjk : j = k
        · subst hjk; exact hjun
        · rw [getD_set_ne true hjk] at hun; exact hun
      refine wpOp_mono (fun a' w' h3 => ⟨fun hS hl => h3.2.1 hS hl, ih (listed.setIfInBounds j true) a' w' hfree' (ready_mono hr (Ne.symm hji)) h3.1 ?_ ?_⟩) h2
      · rcases hT with hT | ⟨hT1, hT2, htk⟩
        · exact hT w'
        · exact hT1 _ (h3.2.1 (hT2 _ hTw) (hlast htk))
      · rw [Array.setIfInBounds_comm _ _ hji]
        exact h3.2.2
/-- What is done: take i that reads (0), run i (1), take i that reads nothing (2). -/
def wpG (P : Program) (tk : List Nat) (ops : Array Oper) (Q : Exit → Act → World → Prop) (S : World → Prop) : List (Nat × Nat) → Act → World → Prop
  | [], a, w => Q .normal a w
  | (i, 0) :: r, a, w => ∃ o v, ops[i]? = some o ∧ YieldsIf P ops S o v a ∧ wpG P tk ops Q S r (a.put o.dst v) w
  | (i, 1) :: r, a, w => wpOp P ops Q i (fun a' w' => (lastOf tk ops i = false → S w') ∧ wpG P tk ops Q S r a' w') a w
  | (i, _) :: r, a, w => ∃ o v, ops[i]? = some o ∧ YieldsIf P ops (fun _ => True) o v a ∧ wpG P tk ops Q S r (a.put o.dst v) w
def okG (tk : List Nat) (ops : Array Oper) : List (Nat × Nat) → Array Bool → Bool
  | [], listed => (Region.ready .any ops listed).isEmpty
  | (i, 0) :: r, listed => tk.contains i && Region.free .any ops listed i && (Region.ready .any ops listed).contains i && okG tk ops r (listed.setIfInBounds i true)
  | (i, 1) :: r, listed => Region.ready .any ops listed == [i] && (!lastOf tk ops i || r.all fun p => p.2 != 0) && okG tk ops r (listed.setIfInBounds i true)
  | (i, _) :: r, listed => Region.free .any ops listed i && (Region.ready .any ops listed).contains i && okG tk ops r (listed.setIfInBounds i true)
theorem wpG_sound {S : World → Prop} (hs : Region.noSelect ops = true) (hQ : ∀ c a d v w, Q (.panic c) (Act.put a d v) w → Q (.panic c) a w) : ∀ (ord : List (Nat × Nat)) (listed : Array Bool) (a : Act) (w : World),
    okG tk ops ord listed = true → S w ∨ (∀ p ∈ ord, p.2 ≠ 0) → wpG P tk ops Q S ord a w → wpAnyG P tk ops Q S ord.length listed a w := by
  intro ord
  induction ord with
  | nil =>
    intro listed a w hc _ h
    exact ⟨by simpa [okG] using hc, h⟩
  | cons p r ih =>
    obtain ⟨i, k⟩ := p
    intro listed a w hc hS h
    match k with
    | 0 =>
      rcases hS with hS | hS
      · simp only [okG, Bool.and_eq_true] at hc
        obtain ⟨⟨⟨ht, hf⟩, hr⟩, hc'⟩ := hc
        obtain ⟨o, v, hi, hy, h'⟩ := h
        exact wpAnyG_first hi (.inr ⟨fun _ h => h, fun _ h => h, by simpa using ht⟩) (Region.noSelect_spec hs) (fun c a w => hQ c a _ _ w) r.length listed a w (Region.free_spec hi hf) (by simpa using hr) hy hS (ih _ _ w hc' (.inl hS) h')
      · exact absurd rfl (hS (i, 0) (List.mem_cons_self ..))
    | 1 =>
      simp only [okG, Bool.and_eq_true, beq_iff_eq] at hc
      obtain ⟨⟨hr, hz⟩, hc'⟩ := hc
      refine ⟨fun h0 => (by rw [hr] at h0; cases h0), fun j hj => ?_⟩
      rw [hr] at hj
      simp only [List.mem_singleton] at hj
      subst hj
      refine wpOp_mono (fun a' w' h' => ⟨fun _ hl => h'.1 hl, ih _ a' w' hc' ?_ h'.2⟩) h
      by_cases hl : lastOf tk ops j = true
      · right
        intro p hp
        simp only [hl, Bool.not_true, Bool.false_or, List.all_eq_true, bne_iff_ne] at hz
        exact hz p hp
      · exact .inl (h'.1 (by simpa using hl))
    | k + 2 =>
      simp only [okG, Bool.and_eq_true] at hc
      obtain ⟨⟨hf, hr⟩, hc'⟩ := hc
      obtain ⟨o, v, hi, hy, h'⟩ := h
      refine wpAnyG_first (T := fun _ => True) hi (.inl fun _ => trivial) (Region.noSelect_spec hs) (fun c a w => hQ c a _ _ w) r.length listed a w (Region.free_spec hi hf) (by simpa using hr) hy trivial (ih _ _ w hc' ?_ h')
      rcases hS with hS | hS
      · exact .inl hS
      · exact .inr fun p hp => hS p (List.mem_cons_of_mem _ hp)
theorem wp_region_g {id : Nat} {a : Act} {w : World} {l : List Oper} (ord : List (Nat × Nat)) (S : World → Prop) (hm : P.follows .mixedOrders = true) (hs : Region.noSelect l.toArray = true)
    (hc : okG ((ord.filter fun p => p.2 == 0).map Prod.fst) l.toArray ord (Array.replicate l.length false) = true) (hn : ord.length = l.length) (hQ : ∀ c a d v w, Q (.panic c) (Act.put a d v) w → Q (.panic c) a w)
    (hS : S w.drew) (h : wpG P ((ord.filter fun p => p.2 == 0).map Prod.fst) l.toArray Q S ord a w.drew) : (Code.region id l.toArray true).wp P Q a w := by
  refine wp_region_any hm (wpAny_of_G (tk := (ord.filter fun p => p.2 == 0).map Prod.fst) (S := S) _ _ _ _ ?_)
  have := wpG_sound (S := S) hs hQ ord (Array.replicate l.length false) a w.drew hc (.inl hS) h
  rw [hn] at this
  simpa using this
variable {l : List Oper} {S : World → Prop}
theorem wpG_take {i : Nat} {r : List (Nat × Nat)} {a : Act} {w : World} {o : Oper} (v : Value) (hi : nth l i = some o) (hg : Region.wanted o (yielded l.toArray a.tmps) = true)
    (hy : ∀ w', S w' → (execOp a.eval o).run P w' = .ok (.value v) w') (h : wpG P tk l.toArray Q S r (a.put o.dst v) w) : wpG P tk l.toArray Q S ((i, 0) :: r) a w :=
  ⟨o, v, (nth_spec l i).trans hi, .inl ⟨hg, hy⟩, h⟩
theorem wpG_free {i : Nat} {r : List (Nat × Nat)} {a : Act} {w : World} {o : Oper} (v : Value) (hi : nth l i = some o) (hg : Region.wanted o (yielded l.toArray a.tmps) = true)
    (hy : ∀ w', (execOp a.eval o).run P w' = .ok (.value v) w') (h : wpG P tk l.toArray Q S r (a.put o.dst v) w) : wpG P tk l.toArray Q S ((i, 2) :: r) a w :=
  ⟨o, v, (nth_spec l i).trans hi, .inl ⟨hg, fun w' _ => hy w'⟩, h⟩
theorem wpG_run {i : Nat} {r : List (Nat × Nat)} {a : Act} {w : World} {o : Oper} (hi : nth l i = some o) (hg : Region.wanted o (yielded l.toArray a.tmps) = true)
    (h : ∀ K : Act → World → Prop, (∀ a' w', (lastOf tk l.toArray i = false → S w') → wpG P tk l.toArray Q S r a' w' → K a' w') → o.wp P a w K Q) : wpG P tk l.toArray Q S ((i, 1) :: r) a w := by
  unfold wpG wpOp
  simp only [(nth_spec l i).trans hi, hg, if_true]
  exact .inl (h _ fun a' w' h1 h2 => ⟨h1, h2⟩)
theorem wpG_end {a : Act} {w : World} (h : Q .normal a w) : wpG P tk ops Q S [] a w := h
end
end Go.Proofs.Ytebanmigaikhhaa
