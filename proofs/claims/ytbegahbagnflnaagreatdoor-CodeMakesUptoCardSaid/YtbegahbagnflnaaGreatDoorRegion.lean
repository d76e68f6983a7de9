/- A region that draws its order: some of its operations are taken in an order of the prover's choice: those that yield one value in every world that meets S ('take'); an operation that must run when nothing else can ('run'); S may be made stronger ('sub'). S is to be shown anew behind each operation that runs, but not behind one that waits for all others. -/
import Derived.Test.YtbegahbagnflnaaGreatDoorLib
import Derived.OrdersHeld
import Derived.Deep.Quiet
namespace Go.Proofs.YtbegahbagnflnaaGreatDoor
theorem last_skip {b : Bool} {p : Prop} (hb : b = true) : b = false → p := fun h => by rw [hb] at h; cases h
section
variable {P : Program} {ops : Array Oper} {Q : Exit → Act → World → Prop} {tk : List Nat}

/-- It waits for all that are taken (tk). -/
def lastOf (tk : List Nat) (ops : Array Oper) (j : Nat) : Bool := tk.all fun i => ((ops[j]?).map fun o => o.after.any fun e => Region.binds .any e && e.on == i).getD false

def wpAnyF (P : Program) (tk : List Nat) (ops : Array Oper) (Q : Exit → Act → World → Prop) (S : World → Prop) : Nat → Array Bool → Act → World → Prop
  | 0, listed, a, w => Region.ready .any ops listed = [] ∧ Q .normal a w
  | fuel + 1, listed, a, w =>
    (Region.ready .any ops listed = [] → Q .normal a w) ∧
    ∀ i ∈ Region.ready .any ops listed, wpOp P ops Q i (fun a' w' => (lastOf tk ops i = false → S w') ∧ wpAnyF P tk ops Q S fuel (listed.setIfInBounds i true) a' w') a w

theorem wpAny_of_F {S : World → Prop} : ∀ (fuel : Nat) (listed : Array Bool) (a : Act) (w : World), wpAnyF P tk ops Q S fuel listed a w → wpAny P .any ops Q fuel listed a w
  | 0, _, _, _, h => h
  | fuel + 1, _, _, _, h => ⟨h.1, fun i hi => wpOp_mono (fun a' w' h' => wpAny_of_F fuel _ a' w' h'.2) (h.2 i hi)⟩
theorem wpAnyF_sub {S T : World → Prop} (hT : ∀ w, T w → S w) : ∀ (fuel : Nat) (listed : Array Bool) (a : Act) (w : World), wpAnyF P tk ops Q T fuel listed a w → wpAnyF P tk ops Q S fuel listed a w
  | 0, _, _, _, h => h
  | fuel + 1, _, _, _, h => ⟨h.1, fun i hi => wpOp_mono (fun a' w' h' => ⟨fun hl => hT _ (h'.1 hl), wpAnyF_sub hT fuel _ a' w' h'.2⟩) (h.2 i hi)⟩

theorem wpAnyF_first {S : World → Prop} {i : Nat} {oi : Oper} {v : Value} (hi : ops[i]? = some oi) (htk : i ∈ tk) (hsel : ∀ (j : Nat) (o : Oper) cs b, ops[j]? = some o → o.op ≠ .select cs b)
    (hQ : ∀ c a w, Q (.panic c) (a.put oi.dst v) w → Q (.panic c) a w) :
    ∀ (fuel : Nat) (listed : Array Bool) (a : Act) (w : World),
      (∀ j oj, ops[j]? = some oj → j ≠ i → listed.getD j true = false → (∀ e ∈ oj.after, Region.binds .any e = true → e.on ≠ i) → oi.apart ops oj = true) →
      i ∈ Region.ready .any ops listed → YieldsIf P ops S oi v a → S w →
      wpAnyF P tk ops Q S fuel (listed.setIfInBounds i true) (a.put oi.dst v) w → wpAnyF P tk ops Q S (fuel + 1) listed a w := by
  have wait : ∀ (listed : Array Bool), i ∈ Region.ready .any ops listed → ∀ j ∈ Region.ready .any ops listed, j ≠ i →
      ∃ oj, ops[j]? = some oj ∧ listed.getD j true = false ∧ (∀ e ∈ oj.after, Region.binds .any e = true → e.on ≠ i) ∧ lastOf tk ops j = false := by
    intro listed hr j hj hji
    obtain ⟨hjun, oj, hoj, hall⟩ := mem_ready.1 hj
    have hnot : ∀ e ∈ oj.after, Region.binds .any e = true → e.on ≠ i := fun e he hb heq => by
      have h1 := hall e he hb
      have h0 := (mem_ready.1 hr).1
      rw [heq] at h1
      rcases Nat.lt_or_ge i listed.size with h' | h'
      · simp [h'] at h0 h1; rw [h0] at h1; cases h1
      · simp [Array.getElem?_eq_none h'] at h1
    refine ⟨oj, hoj, hjun, hnot, ?_⟩
    unfold lastOf
    rw [Bool.eq_false_iff]
    intro hl
    have h1 := (List.all_eq_true.1 hl) i htk
    simp only [hoj, Option.map_some, Option.getD_some, beq_iff_eq, Array.any_eq_true', Bool.and_eq_true] at h1
    obtain ⟨e, he, hb, hon⟩ := h1
    exact hnot e he hb hon
  intro fuel
  induction fuel with
  | zero =>
    intro listed a w _ hr hy hS H
    refine ⟨fun h => (by rw [h] at hr; cases hr), fun j hj => ?_⟩
    by_cases hji : j = i
    · subst hji; exact hy.wpOp hi hS ⟨fun _ => hS, H⟩
    · have h2 := ready_mono hj hji
      rw [H.1] at h2
      cases h2
  | succ fuel ih =>
    intro listed a w hfree hr hy hS H
    refine ⟨fun h => (by rw [h] at hr; cases hr), fun j hj => ?_⟩
    by_cases hji : j = i
    · subst hji; exact hy.wpOp hi hS ⟨fun _ => hS, H⟩
    · obtain ⟨oj, hoj, hjun, hnot, hlast⟩ := wait listed hr j hj hji
      have h1 := H.2 j (ready_mono hj hji)
      have h2 := wpOp_putIf hoj (hfree j oj hoj hji hjun hnot) (fun cs b => hsel i oi cs b hi) (fun cs b => hsel j oj cs b hoj) hQ hy h1
      have hfree' : ∀ k ok, ops[k]? = some ok → k ≠ i → (listed.setIfInBounds j true).getD k true = false →
          (∀ e ∈ ok.after, Region.binds .any e = true → e.on ≠ i) → oi.apart ops ok = true := fun k ok hk hki hun hno => by
        refine hfree k ok hk hki ?_ hno
        by_cases hjk : j = k
        · subst hjk; exact hjun
        · rw [getD_set_ne true hjk] at hun; exact hun
      refine wpOp_mono (fun a' w' h3 => ⟨fun hl => h3.2.1 hl, ih (listed.setIfInBounds j true) a' w' hfree' (ready_mono hr (Ne.symm hji)) h3.1 (h3.2.1 hlast) ?_⟩) h2
      rw [Array.setIfInBounds_comm _ _ hji]
      exact h3.2.2

/-- What is done: take i (0), run i (1), a stronger condition (2). -/
def wpO (P : Program) (tk : List Nat) (ops : Array Oper) (Q : Exit → Act → World → Prop) : List (Nat × Nat) → (World → Prop) → Act → World → Prop
  | [], _, a, w => Q .normal a w
  | (i, 0) :: r, S, a, w => ∃ o v, ops[i]? = some o ∧ YieldsIf P ops S o v a ∧ wpO P tk ops Q r S (a.put o.dst v) w
  | (i, 1) :: r, S, a, w => wpOp P ops Q i (fun a' w' => (lastOf tk ops i = false → S w') ∧ wpO P tk ops Q r S a' w') a w
  | (_, _) :: r, S, a, w => ∃ T : World → Prop, (∀ w', T w' → S w') ∧ T w ∧ wpO P tk ops Q r T a w
/-- The order may be. -/
def okO (tk : List Nat) (ops : Array Oper) : List (Nat × Nat) → Array Bool → Bool
  | [], listed => (Region.ready .any ops listed).isEmpty
  | (i, 0) :: r, listed => tk.contains i && Region.free .any ops listed i && (Region.ready .any ops listed).contains i && okO tk ops r (listed.setIfInBounds i true)
  | (i, 1) :: r, listed => Region.ready .any ops listed == [i] && (!lastOf tk ops i || r.all fun p => p.2 == 1) && okO tk ops r (listed.setIfInBounds i true)
  | (_, _) :: r, listed => okO tk ops r listed
def lenO : List (Nat × Nat) → Nat
  | [] => 0
  | (_, 0) :: r => lenO r + 1
  | (_, 1) :: r => lenO r + 1
  | (_, _) :: r => lenO r

theorem wpO_sound (hs : Region.noSelect ops = true) (hQ : ∀ c a d v w, Q (.panic c) (Act.put a d v) w → Q (.panic c) a w) : ∀ (ord : List (Nat × Nat)) (S : World → Prop) (listed : Array Bool) (a : Act) (w : World),
    okO tk ops ord listed = true → S w ∨ (∀ p ∈ ord, p.2 = 1) → wpO P tk ops Q ord S a w → wpAnyF P tk ops Q S (lenO ord) listed a w := by
  intro ord
  induction ord with
  | nil =>
    intro S listed a w hc _ h
    exact ⟨by simpa [okO] using hc, h⟩
  | cons p r ih =>
    obtain ⟨i, k⟩ := p
    intro S listed a w hc hS h
    match k with
    | 0 =>
      rcases hS with hS | hS
      · simp only [okO, Bool.and_eq_true] at hc
        obtain ⟨⟨⟨ht, hf⟩, hr⟩, hc'⟩ := hc
        obtain ⟨o, v, hi, hy, h'⟩ := h
        exact wpAnyF_first hi (by simpa using ht) (Region.noSelect_spec hs) (fun c a w => hQ c a _ _ w) (lenO r) listed a w (Region.free_spec hi hf) (by simpa using hr) hy hS (ih S _ _ w hc' (.inl hS) h')
      · have := hS (i, 0) (List.mem_cons_self ..)
        simp at this
    | 1 =>
      simp only [okO, Bool.and_eq_true, beq_iff_eq] at hc
      obtain ⟨⟨hr, hz⟩, hc'⟩ := hc
      refine ⟨fun h0 => (by rw [hr] at h0; cases h0), fun j hj => ?_⟩
      rw [hr] at hj
      simp only [List.mem_singleton] at hj
      subst hj
      refine wpOp_mono (fun a' w' h' => ⟨h'.1, ih S _ a' w' hc' ?_ h'.2⟩) h
      by_cases hl : lastOf tk ops j = true
      · right
        intro p hp
        simp only [hl, Bool.not_true, Bool.false_or, List.all_eq_true, beq_iff_eq] at hz
        exact hz p hp
      · exact .inl (h'.1 (by simpa using hl))
    | k + 2 =>
      obtain ⟨T, h1, h2, h3⟩ := h
      exact wpAnyF_sub h1 _ _ _ _ (ih T listed a w (by simpa [okO] using hc) (.inl h2) h3)

/-- THE REGION, in the order that is told. -/
theorem wp_region_ord {id : Nat} {a : Act} {w : World} {l : List Oper} (ord : List (Nat × Nat)) (S : World → Prop) (hm : P.follows .mixedOrders = true) (hs : Region.noSelect l.toArray = true)
    (hc : okO ((ord.filter fun p => p.2 == 0).map Prod.fst) l.toArray ord (Array.replicate l.length false) = true) (hn : lenO ord = l.length) (hQ : ∀ c a d v w, Q (.panic c) (Act.put a d v) w → Q (.panic c) a w)
    (hS : S w.drew) (h : wpO P ((ord.filter fun p => p.2 == 0).map Prod.fst) l.toArray Q ord S a w.drew) : (Code.region id l.toArray true).wp P Q a w := by
  refine wp_region_any hm (wpAny_of_F (tk := (ord.filter fun p => p.2 == 0).map Prod.fst) (S := S) _ _ _ _ ?_)
  have := wpO_sound hs hQ ord S (Array.replicate l.length false) a w.drew hc (.inl hS) h
  rw [hn] at this
  simpa using this

/-- The i-th of a list that is written out: it comes out as it is written. -/
def nth : List Oper → Nat → Option Oper
  | [], _ => none
  | o :: _, 0 => some o
  | _ :: l, i + 1 => nth l i
theorem nth_spec : ∀ (l : List Oper) (i : Nat), l.toArray[i]? = nth l i
  | [], _ => by simp [nth]
  | o :: l, 0 => by simp [nth]
  | o :: l, i + 1 => by
    have := nth_spec l i
    simp only [List.getElem?_toArray] at this
    simp [nth, this]
variable {l : List Oper}
theorem wpO_take {S : World → Prop} {i : Nat} {r : List (Nat × Nat)} {a : Act} {w : World} {o : Oper} (v : Value) (hi : nth l i = some o) (hg : Region.wanted o (yielded l.toArray a.tmps) = true)
    (hy : ∀ w', S w' → (execOp a.eval o).run P w' = .ok (.value v) w') (h : wpO P tk l.toArray Q r S (a.put o.dst v) w) : wpO P tk l.toArray Q ((i, 0) :: r) S a w :=
  ⟨o, v, (nth_spec l i).trans hi, .inl ⟨hg, hy⟩, h⟩
theorem wpO_pass {S : World → Prop} {i : Nat} {r : List (Nat × Nat)} {a : Act} {w : World} {o : Oper} (hi : nth l i = some o) (hg : Region.wanted o (yielded l.toArray a.tmps) = false)
    (h : wpO P tk l.toArray Q r S (a.put o.dst undef) w) : wpO P tk l.toArray Q ((i, 0) :: r) S a w :=
  ⟨o, undef, (nth_spec l i).trans hi, .inr ⟨hg, rfl⟩, h⟩
theorem wpO_run {S : World → Prop} {i : Nat} {r : List (Nat × Nat)} {a : Act} {w : World} {o : Oper} (hi : nth l i = some o) (hg : Region.wanted o (yielded l.toArray a.tmps) = true)
    (h : ∀ K : Act → World → Prop, (∀ a' w', (lastOf tk l.toArray i = false → S w') → wpO P tk l.toArray Q r S a' w' → K a' w') → o.wp P a w K Q) : wpO P tk l.toArray Q ((i, 1) :: r) S a w := by
  unfold wpO wpOp
  simp only [(nth_spec l i).trans hi, hg, if_true]
  exact .inl (h _ fun a' w' h1 h2 => ⟨h1, h2⟩)
theorem wpO_sub {S : World → Prop} (T : World → Prop) {r : List (Nat × Nat)} {a : Act} {w : World} (h1 : ∀ w', T w' → S w') (h2 : T w) (h : wpO P tk ops Q r T a w) : wpO P tk ops Q ((0, 2) :: r) S a w := ⟨T, h1, h2, h⟩
theorem wpO_end {S : World → Prop} {a : Act} {w : World} (h : Q .normal a w) : wpO P tk ops Q [] S a w := h

/-! ### A region all of whose operations are quiet in a class C of worlds: drawn or not -/
theorem wpList_of_quiet {C : World → Prop} {Q1 : Act → Prop} (hQ : ∀ a w, C w → Q1 a → Q .normal a w) : ∀ (r : List Oper) (a : Act) (w : World), C w → wpQuiet P ops C Q1 r a → wpList P ops Q r a w
  | [], a, w, hw, h => hQ a w hw h
  | o :: r, a, w, hw, h => by
    unfold wpList
    unfold wpQuiet at h
    split
    · rename_i hg
      rw [if_pos hg] at h
      exact .inl (Oper.wp_of_quiet hw (fun a' w' hw' h' => wpList_of_quiet hQ r a' w' hw' h') h)
    · rename_i hg
      rw [if_neg hg] at h
      exact wpList_of_quiet hQ r _ w hw h
theorem wp_region_cls {id : Nat} {a : Act} {w : World} (C : World → Prop) (hm : P.follows .mixedOrders = true) (hB : Region.lexB .any l.toArray = true) (hC : C w.drew)
    (h : wpQuiet P l.toArray C (fun a' => ∀ w', C w' → Q .normal a' w') l a) : (Code.region id l.toArray true).wp P Q a w :=
  wp_region_quiet (C := C) hm hB hC (by simpa using h)
theorem wp_region_cls0 {id : Nat} {a : Act} {w : World} (C : World → Prop) (hC : C w)
    (h : wpQuiet P l.toArray C (fun a' => ∀ w', C w' → Q .normal a' w') l a) : (Code.region id l.toArray false).wp P Q a w :=
  wp_region_lit (wpList_of_quiet (fun _ w' hw' h' => h' w' hw') l a w hC h)
theorem q_take {C : World → Prop} {Q1 : Act → Prop} {a : Act} {o : Oper} {r : List Oper} (v : Value) (hg : Region.wanted o (yielded ops a.tmps) = true)
    (hy : ∀ w, C w → (execOp a.eval o).run P w = .ok (.value v) w) (h : wpQuiet P ops C Q1 r (a.put o.dst v)) : wpQuiet P ops C Q1 (o :: r) a := by
  unfold wpQuiet
  rw [if_pos hg]
  exact ⟨v, fun w hw => by unfold Oper.quietAt; rw [hy w hw]; exact ⟨rfl, rfl⟩, h⟩
theorem q_pass {C : World → Prop} {Q1 : Act → Prop} {a : Act} {o : Oper} {r : List Oper} (hg : Region.wanted o (yielded ops a.tmps) = false) (h : wpQuiet P ops C Q1 r (a.put o.dst undef)) : wpQuiet P ops C Q1 (o :: r) a := by
  unfold wpQuiet
  rw [if_neg (by rw [hg]; simp)]
  exact h
theorem q_call {C : World → Prop} {Q1 : Act → Prop} {a : Act} {o : Oper} {r : List Oper} (f : FuncId) (args : Array Value) (hg : Region.wanted o (yielded ops a.tmps) = true)
    (hr : ∀ w, C w → (execOp a.eval o).run P w = .ok (.enter f args) w) (h : ∃ v, (∀ w, C w → Calls P f args w fun e w' => e = .returned v ∧ C w') ∧ wpQuiet P ops C Q1 r (a.put o.dst v)) : wpQuiet P ops C Q1 (o :: r) a := by
  obtain ⟨v, hc, h⟩ := h
  unfold wpQuiet
  rw [if_pos hg]
  exact ⟨v, fun w hw => by unfold Oper.quietAt; rw [hr w hw]; exact ⟨rfl, hc w hw⟩, h⟩
def rowDesc (d : TypeDesc) : Bool := match d with | .struct _ | .array _ _ => true | _ => false
theorem q_load {C : World → Prop} {Q1 : Act → Prop} {a : Act} {o : Oper} {r : List Oper} {ty : TypeId} {x : Operand} {b t : Nat} {cs : Array Value} {fr : Nat × Nat} (hg : Region.wanted o (yielded ops a.tmps) = true) (ho : o.op = .load ty x)
    (hx : a.eval x = .pointer (some ⟨b, 0, none⟩)) (hb : ∀ w, C w → w.heap[b]? = some (.cells cs t fr)) (hd : (P.underlying ty).any rowDesc = true) (hi : (P.info? ty).map (·.size) = some cs.size)
    (h : wpQuiet P ops C Q1 r (a.put o.dst (.agg cs))) : wpQuiet P ops C Q1 (o :: r) a := by
  refine q_take (.agg cs) hg (fun w hw => ?_) h
  have h2 : (loadVar ty ⟨b, 0, none⟩).run P w = .ok (.agg cs) w := by
    cases hu : P.underlying ty with
    | none => rw [hu] at hd; simp at hd
    | some d =>
      rw [hu] at hd
      cases d with
      | struct fs => exact run_loadVar_row w b t ty cs fr (.struct fs) (hb w hw) hu rfl hi
      | array n e => exact run_loadVar_row w b t ty cs fr (.array n e) (hb w hw) hu rfl hi
      | _ => simp [rowDesc] at hd
  unfold execOp
  simp only [ho, hx, Instr.loadAt, Instr.sureAddr, Sem.run_bind, Sem.run_pure, Result.andThen_ok, h2]
theorem q_end {C : World → Prop} {Q1 : Act → Prop} {a : Act} (h : Q1 a) : wpQuiet P ops C Q1 [] a := h
end
end Go.Proofs.YtbegahbagnflnaaGreatDoor
