/- A region that draws its order, step by step: what may come next is reckoned; where two may, both are shown. -/
import Derived.Test.YteihmagldhmjgaaDoorRegion
namespace Go.Proofs.YteihmagldhmjgaaDoor
section
variable {P : Program} {Q : Exit → Act → World → Prop} {tk : List Nat} {l : List Oper} {S : World → Prop}

theorem wpF_begin {id : Nat} {a : Act} {w : World} (tk : List Nat) (S : World → Prop) (hm : P.follows .mixedOrders = true) (h : wpAnyF P tk l.toArray Q S l.length (Array.replicate l.length false) a w.drew) : (Code.region id l.toArray true).wp P Q a w := by
  refine wp_region_any hm (wpAny_of_F (tk := tk) (S := S) _ _ _ _ ?_)
  simpa using h
theorem wpF_take {fuel i : Nat} {listed : Array Bool} {a : Act} {w : World} {o : Oper} (v : Value) (hs : Region.noSelect l.toArray = true) (hQ : ∀ c a d v w, Q (.panic c) (Act.put a d v) w → Q (.panic c) a w)
    (hc : (tk.contains i && Region.free .any l.toArray listed i && (Region.ready .any l.toArray listed).contains i) = true) (hi : nth l i = some o) (hg : Region.wanted o (yielded l.toArray a.tmps) = true) (hS : S w)
    (hy : ∀ w', S w' → (execOp a.eval o).run P w' = .ok (.value v) w') (h : wpAnyF P tk l.toArray Q S fuel (listed.setIfInBounds i true) (a.put o.dst v) w) : wpAnyF P tk l.toArray Q S (fuel + 1) listed a w := by
  simp only [Bool.and_eq_true] at hc
  obtain ⟨⟨ht, hf⟩, hr⟩ := hc
  have hi' := (nth_spec l i).trans hi
  exact wpAnyF_first hi' (by simpa using ht) (Region.noSelect_spec hs) (fun c a w => hQ c a _ _ w) fuel listed a w (Region.free_spec hi' hf) (by simpa using hr) (.inl ⟨hg, hy⟩) hS h
theorem wpF_run {fuel i : Nat} {listed : Array Bool} {a : Act} {w : World} {o : Oper} (hr : (Region.ready .any l.toArray listed == [i]) = true) (hi : nth l i = some o) (hg : Region.wanted o (yielded l.toArray a.tmps) = true)
    (h : ∀ K : Act → World → Prop, (∀ a' w', S w' → wpAnyF P tk l.toArray Q S fuel (listed.setIfInBounds i true) a' w' → K a' w') → o.wp P a w K Q) : wpAnyF P tk l.toArray Q S (fuel + 1) listed a w := by
  have hr' : Region.ready .any l.toArray listed = [i] := by simpa using hr
  refine ⟨fun h0 => (by rw [hr'] at h0; cases h0), fun j hj => ?_⟩
  rw [hr'] at hj
  simp only [List.mem_singleton] at hj
  subst hj
  unfold wpOp
  simp only [(nth_spec l j).trans hi, hg, if_true]
  exact .inl (h _ fun a' w' h1 h2 => ⟨fun _ => h1, h2⟩)
theorem wpF_run2 {fuel i j : Nat} {listed : Array Bool} {a : Act} {w : World} {o o' : Oper} (hr : (Region.ready .any l.toArray listed == [i, j]) = true) (hi : nth l i = some o) (hj : nth l j = some o') (hg : Region.wanted o (yielded l.toArray a.tmps) = true) (hg' : Region.wanted o' (yielded l.toArray a.tmps) = true)
    (h : ∀ K : Act → World → Prop, (∀ a' w', S w' → wpAnyF P tk l.toArray Q S fuel (listed.setIfInBounds i true) a' w' → K a' w') → o.wp P a w K Q)
    (h' : ∀ K : Act → World → Prop, (∀ a' w', S w' → wpAnyF P tk l.toArray Q S fuel (listed.setIfInBounds j true) a' w' → K a' w') → o'.wp P a w K Q) : wpAnyF P tk l.toArray Q S (fuel + 1) listed a w := by
  have hr' : Region.ready .any l.toArray listed = [i, j] := by simpa using hr
  refine ⟨fun h0 => (by rw [hr'] at h0; cases h0), fun q hq => ?_⟩
  rw [hr'] at hq
  simp only [List.mem_cons, List.not_mem_nil, or_false] at hq
  rcases hq with rfl | rfl
  · unfold wpOp
    simp only [(nth_spec l q).trans hi, hg, if_true]
    exact .inl (h _ fun a' w' h1 h2 => ⟨fun _ => h1, h2⟩)
  · unfold wpOp
    simp only [(nth_spec l q).trans hj, hg', if_true]
    exact .inl (h' _ fun a' w' h1 h2 => ⟨fun _ => h1, h2⟩)
theorem wpF_end {listed : Array Bool} {a : Act} {w : World} (hr : (Region.ready .any l.toArray listed).isEmpty = true) (h : Q .normal a w) : wpAnyF P tk l.toArray Q S 0 listed a w := ⟨by simpa using hr, h⟩
end
end Go.Proofs.YteihmagldhmjgaaDoor
