/- A region that draws its order, where two operations that are not quiet may come in either order: beside takes and runs, a pair. -/
import Derived.Test.YtebanmigaikhhaaRegion
namespace Go.Proofs.Ytebanmigaikhhaa
section
variable {P : Program} {ops : Array Oper} {Q : Exit → Act → World → Prop} {tk : List Nat}

/-- As wpO; and (i, j + 3): i and j, in both orders. -/
def wpP (P : Program) (tk : List Nat) (ops : Array Oper) (Q : Exit → Act → World → Prop) : List (Nat × Nat) → (World → Prop) → Act → World → Prop
  | [], _, a, w => Q .normal a w
  | (i, 0) :: r, S, a, w => ∃ o v, ops[i]? = some o ∧ YieldsIf P ops S o v a ∧ wpP P tk ops Q r S (a.put o.dst v) w
  | (i, 1) :: r, S, a, w => wpOp P ops Q i (fun a' w' => (lastOf tk ops i = false → S w') ∧ wpP P tk ops Q r S a' w') a w
  | (_, 2) :: r, S, a, w => ∃ T : World → Prop, (∀ w', T w' → S w') ∧ T w ∧ wpP P tk ops Q r T a w
  | (i, j + 3) :: r, S, a, w => wpOp P ops Q i (fun a' w' => S w' ∧ wpOp P ops Q j (fun a' w' => S w' ∧ wpP P tk ops Q r S a' w') a' w') a w ∧
      wpOp P ops Q j (fun a' w' => S w' ∧ wpOp P ops Q i (fun a' w' => S w' ∧ wpP P tk ops Q r S a' w') a' w') a w
def okP (tk : List Nat) (ops : Array Oper) : List (Nat × Nat) → Array Bool → Bool
  | [], listed => (Region.ready .any ops listed).isEmpty
  | (i, 0) :: r, listed => tk.contains i && Region.free .any ops listed i && (Region.ready .any ops listed).contains i && okP tk ops r (listed.setIfInBounds i true)
  | (i, 1) :: r, listed => Region.ready .any ops listed == [i] && (!lastOf tk ops i || r.all fun p => p.2 == 1) && okP tk ops r (listed.setIfInBounds i true)
  | (_, 2) :: r, listed => okP tk ops r listed
  | (i, j + 3) :: r, listed => Region.ready .any ops listed == [i, j] && Region.ready .any ops (listed.setIfInBounds i true) == [j] && Region.ready .any ops (listed.setIfInBounds j true) == [i] && i != j && okP tk ops r ((listed.setIfInBounds i true).setIfInBounds j true)
def lenP : List (Nat × Nat) → Nat
  | [] => 0
  | (_, 0) :: r => lenP r + 1
  | (_, 1) :: r => lenP r + 1
  | (_, 2) :: r => lenP r
  | (_, _ + 3) :: r => lenP r + 2

theorem wpP_sound (hs : Region.noSelect ops = true) (hQ : ∀ c a d v w, Q (.panic c) (Act.put a d v) w → Q (.panic c) a w) : ∀ (ord : List (Nat × Nat)) (S : World → Prop) (listed : Array Bool) (a : Act) (w : World),
    okP tk ops ord listed = true → S w ∨ (∀ p ∈ ord, p.2 = 1) → wpP P tk ops Q ord S a w → wpAnyF P tk ops Q S (lenP ord) listed a w := by
  intro ord
  induction ord with
  | nil =>
    intro S listed a w hc _ h
    exact ⟨by simpa [okP] using hc, h⟩
  | cons p r ih =>
    obtain ⟨i, k⟩ := p
    intro S listed a w hc hS h
    match k with
    | 0 =>
      rcases hS with hS | hS
      · simp only [okP, Bool.and_eq_true] at hc
        obtain ⟨⟨⟨ht, hf⟩, hr⟩, hc'⟩ := hc
        obtain ⟨o, v, hi, hy, h'⟩ := h
        exact wpAnyF_first hi (by simpa using ht) (Region.noSelect_spec hs) (fun c a w => hQ c a _ _ w) (lenP r) listed a w (Region.free_spec hi hf) (by simpa using hr) hy hS (ih S _ _ w hc' (.inl hS) h')
      · have := hS (i, 0) (List.mem_cons_self ..)
        simp at this
    | 1 =>
      simp only [okP, Bool.and_eq_true, beq_iff_eq] at hc
      obtain ⟨⟨hr, hz⟩, hc'⟩ := hc
      refine ⟨fun h0 => (by rw [hr] at h0; cases h0), fun j hj => ?_⟩
      rw [hr] at hj
      simp only [List.mem_singleton] at hj
      subst hj
      refine wpOp_mono (fun a' w' h' => ⟨h'.1, ih S _ a' w' hc' ?_ h'.2⟩) h
      by_cases hl : lastOf tk ops j = true
      · right
        intro p hp
        simp only [hl, Bool.not_true, Bool.false_or, List.all_eq_true, beq_iff_eq] at hz
        exact hz p hp
      · exact .inl (h'.1 (by simpa using hl))
    | 2 =>
      obtain ⟨T, h1, h2, h3⟩ := h
      exact wpAnyF_sub h1 _ _ _ _ (ih T listed a w (by simpa [okP] using hc) (.inl h2) h3)
    | j + 3 =>
      simp only [okP, Bool.and_eq_true, beq_iff_eq, bne_iff_ne] at hc
      obtain ⟨⟨⟨⟨hr, hri⟩, hrj⟩, hij⟩, hc'⟩ := hc
      have hcm : (listed.setIfInBounds j true).setIfInBounds i true = (listed.setIfInBounds i true).setIfInBounds j true := Array.setIfInBounds_comm _ _ (Ne.symm hij)
      refine ⟨fun h0 => (by rw [hr] at h0; cases h0), fun q hq => ?_⟩
      rw [hr] at hq
      simp only [List.mem_cons, List.not_mem_nil, or_false] at hq
      rcases hq with rfl | rfl
      · refine wpOp_mono (fun a' w' h' => ⟨fun _ => h'.1, ⟨fun h0 => (by rw [hri] at h0; cases h0), fun q2 hq2 => ?_⟩⟩) h.1
        rw [hri] at hq2
        simp only [List.mem_singleton] at hq2
        subst hq2
        exact wpOp_mono (fun a'' w'' h'' => ⟨fun _ => h''.1, ih S _ a'' w'' hc' (.inl h''.1) h''.2⟩) h'.2
      · refine wpOp_mono (fun a' w' h' => ⟨fun _ => h'.1, ⟨fun h0 => (by rw [hrj] at h0; cases h0), fun q2 hq2 => ?_⟩⟩) h.2
        rw [hrj] at hq2
        simp only [List.mem_singleton] at hq2
        subst hq2
        rw [hcm]
        exact wpOp_mono (fun a'' w'' h'' => ⟨fun _ => h''.1, ih S _ a'' w'' hc' (.inl h''.1) h''.2⟩) h'.2

/-- THE REGION, in the order that is told. -/
theorem wp_region_pair {id : Nat} {a : Act} {w : World} {l : List Oper} (ord : List (Nat × Nat)) (S : World → Prop) (hm : P.follows .mixedOrders = true) (hs : Region.noSelect l.toArray = true)
    (hc : okP ((ord.filter fun p => p.2 == 0).map Prod.fst) l.toArray ord (Array.replicate l.length false) = true) (hn : lenP ord = l.length) (hQ : ∀ c a d v w, Q (.panic c) (Act.put a d v) w → Q (.panic c) a w)
    (hS : S w.drew) (h : wpP P ((ord.filter fun p => p.2 == 0).map Prod.fst) l.toArray Q ord S a w.drew) : (Code.region id l.toArray true).wp P Q a w := by
  refine wp_region_any hm (wpAny_of_F (tk := (ord.filter fun p => p.2 == 0).map Prod.fst) (S := S) _ _ _ _ ?_)
  have := wpP_sound hs hQ ord S (Array.replicate l.length false) a w.drew hc (.inl hS) h
  rw [hn] at this
  simpa using this
variable {l : List Oper}
theorem wpP_take {S : World → Prop} {i : Nat} {r : List (Nat × Nat)} {a : Act} {w : World} {o : Oper} (v : Value) (hi : nth l i = some o) (hg : Region.wanted o (yielded l.toArray a.tmps) = true)
    (hy : ∀ w', S w' → (execOp a.eval o).run P w' = .ok (.value v) w') (h : wpP P tk l.toArray Q r S (a.put o.dst v) w) : wpP P tk l.toArray Q ((i, 0) :: r) S a w :=
  ⟨o, v, (nth_spec l i).trans hi, .inl ⟨hg, hy⟩, h⟩
theorem wpP_run {S : World → Prop} {i : Nat} {r : List (Nat × Nat)} {a : Act} {w : World} {o : Oper} (hi : nth l i = some o) (hg : Region.wanted o (yielded l.toArray a.tmps) = true)
    (h : ∀ K : Act → World → Prop, (∀ a' w', (lastOf tk l.toArray i = false → S w') → wpP P tk l.toArray Q r S a' w' → K a' w') → o.wp P a w K Q) : wpP P tk l.toArray Q ((i, 1) :: r) S a w := by
  unfold wpP wpOp
  simp only [(nth_spec l i).trans hi, hg, if_true]
  exact .inl (h _ fun a' w' h1 h2 => ⟨h1, h2⟩)
/-- Either order: M is what holds behind both. -/
theorem wpP_pair {S : World → Prop} {i j : Nat} {r : List (Nat × Nat)} {a : Act} {w : World} {oi oj : Oper} (M : Act → World → Prop) (hi : nth l i = some oi) (hj : nth l j = some oj)
    (hgi : Region.wanted oi (yielded l.toArray a.tmps) = true) (hgj : Region.wanted oj (yielded l.toArray a.tmps) = true)
    (h1 : ∀ K1 : Act → World → Prop, (∀ a' w', S w' → (Region.wanted oj (yielded l.toArray a'.tmps) = true ∧ ∀ K2 : Act → World → Prop, (∀ a'' w'', S w'' → M a'' w'' → K2 a'' w'') → oj.wp P a' w' K2 Q) → K1 a' w') → oi.wp P a w K1 Q)
    (h2 : ∀ K1 : Act → World → Prop, (∀ a' w', S w' → (Region.wanted oi (yielded l.toArray a'.tmps) = true ∧ ∀ K2 : Act → World → Prop, (∀ a'' w'', S w'' → M a'' w'' → K2 a'' w'') → oi.wp P a' w' K2 Q) → K1 a' w') → oj.wp P a w K1 Q)
    (hM : ∀ a' w', S w' → M a' w' → wpP P tk l.toArray Q r S a' w') : wpP P tk l.toArray Q ((i, j + 3) :: r) S a w := by
  unfold wpP wpOp
  simp only [(nth_spec l i).trans hi, (nth_spec l j).trans hj, hgi, hgj, if_true]
  refine ⟨.inl (h1 _ fun a' w' hs h => ⟨hs, ?_⟩), .inl (h2 _ fun a' w' hs h => ⟨hs, ?_⟩)⟩
  · simp only [h.1, if_true]
    exact .inl (h.2 _ fun a'' w'' hs2 hm => ⟨hs2, hM a'' w'' hs2 hm⟩)
  · simp only [h.1, if_true]
    exact .inl (h.2 _ fun a'' w'' hs2 hm => ⟨hs2, hM a'' w'' hs2 hm⟩)
/-- The same, the values told. -/
theorem wpP_pair' {S : World → Prop} {i j : Nat} {r : List (Nat × Nat)} {a : Act} {w : World} {oi oj : Oper} (M : Value → Value → World → Prop) (hi : nth l i = some oi) (hj : nth l j = some oj)
    (hgi : Region.wanted oi (yielded l.toArray a.tmps) = true) (hgj : Region.wanted oj (yielded l.toArray a.tmps) = true)
    (hgj' : ∀ v, Region.wanted oj (yielded l.toArray (a.put oi.dst v).tmps) = true) (hgi' : ∀ v, Region.wanted oi (yielded l.toArray (a.put oj.dst v).tmps) = true)
    (hcm : ∀ u v, (a.put oj.dst v).put oi.dst u = (a.put oi.dst u).put oj.dst v)
    (h1 : ∀ K1 : Act → World → Prop, (∀ u w', S w' → (∀ K2 : Act → World → Prop, (∀ v w'', S w'' → M u v w'' → K2 ((a.put oi.dst u).put oj.dst v) w'') → oj.wp P (a.put oi.dst u) w' K2 Q) → K1 (a.put oi.dst u) w') → oi.wp P a w K1 Q)
    (h2 : ∀ K1 : Act → World → Prop, (∀ v w', S w' → (∀ K2 : Act → World → Prop, (∀ u w'', S w'' → M u v w'' → K2 ((a.put oj.dst v).put oi.dst u) w'') → oi.wp P (a.put oj.dst v) w' K2 Q) → K1 (a.put oj.dst v) w') → oj.wp P a w K1 Q)
    (hM : ∀ u v w', S w' → M u v w' → wpP P tk l.toArray Q r S ((a.put oi.dst u).put oj.dst v) w') : wpP P tk l.toArray Q ((i, j + 3) :: r) S a w := by
  refine wpP_pair (fun a' w' => ∃ u v, a' = (a.put oi.dst u).put oj.dst v ∧ M u v w') hi hj hgi hgj ?_ ?_ ?_
  · intro K1 hK1
    exact h1 K1 fun u w' hs h => hK1 _ _ hs ⟨hgj' u, fun K2 hK2 => h K2 fun v w'' hs2 hm => hK2 _ _ hs2 ⟨u, v, rfl, hm⟩⟩
  · intro K1 hK1
    exact h2 K1 fun v w' hs h => hK1 _ _ hs ⟨hgi' v, fun K2 hK2 => h K2 fun u w'' hs2 hm => hK2 _ _ hs2 ⟨u, v, hcm u v, hm⟩⟩
  · rintro a' w' hs ⟨u, v, rfl, hm⟩
    exact hM u v w' hs hm
theorem wpP_sub {S : World → Prop} (T : World → Prop) {r : List (Nat × Nat)} {a : Act} {w : World} (h1 : ∀ w', T w' → S w') (h2 : T w) (h : wpP P tk ops Q r T a w) : wpP P tk ops Q ((0, 2) :: r) S a w := ⟨T, h1, h2, h⟩
theorem wpP_end {S : World → Prop} {a : Act} {w : World} (h : Q .normal a w) : wpP P tk ops Q [] S a w := h
end
end Go.Proofs.Ytebanmigaikhhaa
