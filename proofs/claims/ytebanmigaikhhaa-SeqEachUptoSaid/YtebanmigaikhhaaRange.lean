/- A range over a function, in the plain calculus: the iterator tells each round what it hands over, and in which memory; a round may write what lay below B0 and what is new. No function of the program stands here. -/
import Derived.Test.YtebanmigaikhhaaRound
import Derived.RangeFuncRecord
namespace Go.Proofs.Ytebanmigaikhhaa
open Go.RowKit

theorem Fr.putObj {S : Nat → Prop} {a w : World} (h : Fr S a w) {r : Nat} (hr : S r ∨ a.heap.size ≤ r) (o : Obj) : Fr S a (w.putObj r o) :=
  ⟨h.os, h.tape, h.output, by simpa using h.size, fun i hi hu => (World.putObj_heap_other (fun e => by subst e; rcases hr with hr | hr; exact hu hr; omega)).trans (h.block i hi hu)⟩

theorem put1 (W : World) (B : Nat) (o : Obj) : Fr (fun k => k = B) W (W.putObj B o) := (Fr.refl (fun k => k = B) W).putObj (.inl rfl) o

/-- What an iterator promises: B0..B1 is its memory, l its loop's record; J is the loop's own invariant, G what it tells of the next value. -/
def IterC {α : Type} (P : Program) (gf : Nat) (lb : Array Value) (encs : α → Array Value) (B0 B1 : Nat) (G : List α → α → World → Prop) (S Sp : List α → Prop) (w0 : World) : Prop :=
  ∀ (l : Nat) (J Jx : List α → World → Prop) (W : World), Fr (fun _ => False) w0 W → B1 + 2 ≤ W.heap.size →
    (∀ pre X Y, J pre X → Fr (fun _ => False) X Y → J pre Y) → (∀ pre X Y, Jx pre X → Fr (fun _ => False) X Y → Jx pre Y) →
    (∀ pre x W1, J pre W1 → G pre x W1 → YieldAt (Wd none) 0 P l (encs x) W1 fun e W' => (e = .returned (.bool true) ∧ J (pre ++ [x]) W' ∧ Fr (fun k => k < B0 ∨ B1 ≤ k) W1 W') ∨ (e = .returned (.bool false) ∧ Jx (pre ++ [x]) W')) →
    J [] W → Calls P gf (#[.func (.yield l) #[] #[]] ++ lb) W fun e W' => (∃ v, e = .returned v) ∧ ((∃ xs, S xs ∧ J xs W') ∨ ∃ pre, Sp pre ∧ Jx pre W')

/-- How a round's body may be left. -/
def bodyQ {α : Type} (B0 B1 : Nat) (I : List α → World → Prop) (Ix : Code → List α → World → Prop) (xs : List α) (W : World) : Exit → Act → World → Prop
  | .normal, _, W' => Fr (fun k => k < B0 ∨ B1 + 2 ≤ k) W W' ∧ I xs W'
  | .ret, _, W' => Fr (fun k => k < B0 ∨ B1 + 2 ≤ k) W W' ∧ Ix .ret xs W'
  | .exit id, _, W' => Fr (fun k => k < B0 ∨ B1 + 2 ≤ k) W W' ∧ Ix (.exit id) xs W'
  | .goto t, _, W' => Fr (fun k => k < B0 ∨ B1 + 2 ≤ k) W W' ∧ Ix (.goto t) xs W'
  | .panic _, _, _ => False
  | .outgrown, _, _ => False

theorem range_law {α : Type} {P : Program} {g : Operand} {ps : Array Tmp} {assign body : Code} {Q : Exit → Act → World → Prop} {a : Act} {w : World}
    {gf : Nat} {lb : Array Value} (hg : a.eval g = .func (.func gf) #[] lb) (eg : ∀ args w, (callFunc gf args).run P w = .ok (.enter gf args) w)
    {encs : α → Array Value} {B0 : Nat} (hB0 : B0 ≤ w.heap.size) {G : List α → α → World → Prop} {S Sp : List α → Prop} (hps : ∀ x, (encs x).size = ps.size)
    (hseq : IterC P gf lb encs B0 w.heap.size G S Sp w)
    (I : List α → World → Prop) (Ix : Code → List α → World → Prop)
    (hI : ∀ pre X Y, w.heap.size + 1 < X.heap.size ∨ X = w → I pre X → Fr (fun k => k = w.heap.size + 1) X Y → I pre Y) (hIx : ∀ c pre X Y, Ix c pre X → Fr (fun k => k = w.heap.size + 1) X Y → Ix c pre Y)
    (h0 : I [] w)
    (hround : ∀ (l : Nat) (pre : List α) (x : α) (W : World), I pre W → G pre x W → w.heap.size + 2 ≤ W.heap.size →
      assign.wpIn (Wd (some l)) 0 P (Exit.then (fun a₁ w₁ => Fr (fun _ => False) W w₁ ∧ ∀ w₂, Fr (fun k => k = w.heap.size + 1) w₁ w₂ → w₂.heap.size = w₁.heap.size → body.wpIn (Wd (some l)) 0 P (bodyQ B0 w.heap.size I Ix (pre ++ [x]) w₂) a₁ w₂) (fun _ _ _ => False))
        { tmps := (ps.zip (encs x)).foldl (fun t (p, v) => t.setIfInBounds p v) a.tmps, defers := [] } W)
    (hdone : ∀ (xs : List α) (W : World), S xs → I xs W → w.heap.size + 2 ≤ W.heap.size → W.heap[w.heap.size]? = some (.deferred (some [])) → Q .normal { a with defers := { target := .collected w.heap.size, args := #[] } :: a.defers } W)
    (hstop : ∀ (c : Code) (pre : List α) (W : World), Sp pre → Ix c pre W → w.heap.size + 2 ≤ W.heap.size → W.heap[w.heap.size]? = some (.deferred (some [])) → c.wp P Q { a with defers := { target := .collected w.heap.size, args := #[] } :: a.defers } W) :
    (Code.rangeFunc g ps assign body).wp P Q a w := by
  refine (wpIn_wide (n := 0)).1 (wpIn_rangeFunc ?_)
  intro fn _
  obtain ⟨rec, hrec⟩ : ∃ rec : LoopState → Option Code → Loop, rec = fun st pe => { state := st, pending := pe, fn, tmps := a.tmps, params := ps, assign, body, defers := w.heap.size } := ⟨_, rfl⟩
  obtain ⟨W1, hW1⟩ : ∃ W1, (w.alloc (.deferred (some []))).alloc (.loop (rec .ready none)) = W1 := ⟨_, rfl⟩
  have hf1 : Fr (fun _ => False) w W1 := by rw [← hW1]; exact ((Fr.refl _ _).alloc _).alloc _
  have hs1 : W1.heap.size = w.heap.size + 2 := by rw [← hW1]; simp
  have hL1 : W1.heap[w.heap.size + 1]? = some (.loop (rec .ready none)) := by
    rw [← hW1]; have := heap_alloc_new (w.alloc (.deferred (some []))) (.loop (rec .ready none)); rwa [World.size_alloc] at this
  have hK1 : W1.heap[w.heap.size]? = some (.deferred (some [])) := by
    rw [← hW1]; exact ((Fr.refl (fun _ => False) (w.alloc (.deferred (some [])))).alloc _).heap (heap_alloc_new w _) id
  have hI1 : I [] W1 := hI _ _ _ (.inr rfl) h0 (hf1.mono fun _ _ h => h.elim)
  refine ⟨w.heap.size + 1, [{ target := .collected w.heap.size, args := #[] }], W1, { target := .fn (.func gf) lb, args := #[.func (.yield (w.heap.size + 1)) #[] #[]] }, W1, gf,
    #[.func (.yield (w.heap.size + 1)) #[] #[]] ++ lb, W1, ?_, ?_, fun _ _ => trivial, ?_, fun h => by simp [Fence.wide] at h, ?_⟩
  · rw [← hW1, hrec]; exact run_enterLoop_outer _ _ _ _ _
  · simp only [resolve, hg]
    simp [go_sem]
  · simp [invoke, go_sem, eg]
  · refine callsIn_wide.2 ((hseq (w.heap.size + 1)
      (fun pre W => I pre W ∧ w.heap.size + 2 ≤ W.heap.size ∧ W.heap[w.heap.size + 1]? = some (.loop (rec .ready none)) ∧ W.heap[w.heap.size]? = some (.deferred (some [])))
      (fun pre W => ∃ c, Ix c pre W ∧ w.heap.size + 2 ≤ W.heap.size ∧ W.heap[w.heap.size + 1]? = some (.loop (rec .done (some c))) ∧ W.heap[w.heap.size]? = some (.deferred (some [])))
      W1 hf1 (by omega) (fun pre X Y h hf => ⟨hI _ _ _ (.inl (by omega)) h.1 (hf.mono fun _ _ h => h.elim), Nat.le_trans h.2.1 hf.size, hf.heap h.2.2.1 id, hf.heap h.2.2.2 id⟩)
      (fun pre X Y ⟨c, h⟩ hf => ⟨c, hIx _ _ _ _ h.1 (hf.mono fun _ _ h => h.elim), Nat.le_trans h.2.1 hf.size, hf.heap h.2.2.1 id, hf.heap h.2.2.2 id⟩)
      ?_ ⟨hI1, by omega, hL1, hK1⟩).mono ?_)
    · rintro pre x W ⟨hi, hsz, hl, hk⟩ hgx
      have hy := run_yield (P := P) (args := encs x) hl (by rw [hrec]; exact hps x)
      rw [hrec] at hy
      refine ⟨fn, _, assign, body, hy, roundIn_of_wpIn trivial (wpIn_mono (hround _ pre x W hi hgx hsz) ?_)⟩
      intro e a₁ w₁ h
      cases e with
      | normal =>
        obtain ⟨hf, hb⟩ := h
        have hl1 := hf.heap hl id
        have hk1 := hf.heap hk id
        have hlt : w.heap.size + 1 < w₁.heap.size := heap_lt hl1
        have hl2 : (w₁.putObj (w.heap.size + 1) (.loop { rec .ready none with state := .busy })).heap[w.heap.size + 1]? = some (.loop { rec .ready none with state := .busy }) := World.putObj_heap_same hlt
        have hk2 : (w₁.putObj (w.heap.size + 1) (.loop { rec .ready none with state := .busy })).heap[w.heap.size]? = some (.deferred (some [])) := (World.putObj_heap_other (show w.heap.size ≠ w.heap.size + 1 by omega)).trans hk1
        refine ⟨_, run_beginRound hl1 (by rw [hrec]), wpIn_mono (hb _ (put1 _ _ _) (by simp)) ?_⟩
        have fin : ∀ (jump : Option Code) (W3 : World), Fr (fun k => k < B0 ∨ w.heap.size + 2 ≤ k) (w₁.putObj (w.heap.size + 1) (.loop { rec .ready none with state := .busy })) W3 →
            (Instr.endRound (w.heap.size + 1) jump).run P W3 = .ok (.bool jump.isNone) (W3.putObj (w.heap.size + 1) (.loop (rec (if jump.isNone then .ready else .done) jump))) ∧
            w.heap.size + 2 ≤ (W3.putObj (w.heap.size + 1) (.loop (rec (if jump.isNone then .ready else .done) jump))).heap.size ∧ w.heap.size + 1 < W3.heap.size ∧
            (W3.putObj (w.heap.size + 1) (.loop (rec (if jump.isNone then .ready else .done) jump))).heap[w.heap.size + 1]? = some (.loop (rec (if jump.isNone then .ready else .done) jump)) ∧
            (W3.putObj (w.heap.size + 1) (.loop (rec (if jump.isNone then .ready else .done) jump))).heap[w.heap.size]? = some (.deferred (some [])) := fun jump W3 hf3 => by
          have hl3 := hf3.heap hl2 (by omega)
          have hk3 := hf3.heap hk2 (by omega)
          have := run_endRound (P := P) jump hl3
          rw [hrec] at this ⊢
          have hlt3 := heap_lt hl3
          exact ⟨this, by simp; omega, hlt3, World.putObj_heap_same hlt3, (World.putObj_heap_other (show w.heap.size ≠ w.heap.size + 1 by omega)).trans hk3⟩
        rintro e a3 W3 hp
        cases e with
        | normal =>
          obtain ⟨hf3, hi3⟩ := hp
          obtain ⟨hr, hs4, hlt3, hl4, hk4⟩ := fin none W3 hf3
          refine ⟨_, _, hr, .inl ⟨rfl, ⟨hI _ _ _ (.inl hlt3) hi3 (put1 _ _ _), hs4, hl4, hk4⟩, ?_⟩⟩
          refine Fr.putObj ?_ (.inl (.inr (by omega))) _
          refine ((hf.mono (T := fun k => k < B0 ∨ w.heap.size ≤ k) fun _ _ h => h.elim).trans' ((Fr.refl _ _).putObj (.inl (.inr (by omega))) _)).trans hf3 (fun _ _ h => h) (fun k _ h => by rcases h with h | h; exact .inl h; exact .inr (by omega))
        | ret =>
          obtain ⟨hf3, hi3⟩ := hp
          obtain ⟨hr, hs4, -, hl4, hk4⟩ := fin (some .ret) W3 hf3
          exact ⟨_, _, hr, .inr ⟨rfl, .ret, hIx _ _ _ _ hi3 (put1 _ _ _), hs4, hl4, hk4⟩⟩
        | exit id =>
          obtain ⟨hf3, hi3⟩ := hp
          obtain ⟨hr, hs4, -, hl4, hk4⟩ := fin (some (.exit id)) W3 hf3
          exact ⟨_, _, hr, .inr ⟨rfl, .exit id, hIx _ _ _ _ hi3 (put1 _ _ _), hs4, hl4, hk4⟩⟩
        | goto t =>
          obtain ⟨hf3, hi3⟩ := hp
          obtain ⟨hr, hs4, -, hl4, hk4⟩ := fin (some (.goto t)) W3 hf3
          exact ⟨_, _, hr, .inr ⟨rfl, .goto t, hIx _ _ _ _ hi3 (put1 _ _ _), hs4, hl4, hk4⟩⟩
        | panic ch => exact hp.elim
        | outgrown => exact hp.elim
      | exit id => exact h.elim
      | goto t => exact h.elim
      | ret => exact h.elim
      | panic ch => exact h.elim
      | outgrown => exact h.elim
    · rintro e W3 ⟨⟨v, rfl⟩, h⟩
      rcases h with ⟨xs, hs, hi, hsz, hl, hk⟩ | ⟨pre, hs, c, hi, hsz, hl, hk⟩
      · have hlt := heap_lt hl
        have he : (Instr.endLoop (w.heap.size + 1)).run P W3 = .ok none (W3.putObj (w.heap.size + 1) (.loop { rec .ready none with state := .exhausted })) := by
          have := run_endLoop (P := P) hl (by rw [hrec]; simp)
          rw [hrec] at this ⊢
          exact this
        exact ⟨none, _, he, hdone xs _ hs (hI _ _ _ (.inl hlt) hi (put1 _ _ _)) (by simpa using hsz) ((World.putObj_heap_other (show w.heap.size ≠ w.heap.size + 1 by omega)).trans hk)⟩
      · have he : (Instr.endLoop (w.heap.size + 1)).run P W3 = .ok (some c) (W3.putObj (w.heap.size + 1) (.loop { rec .done (some c) with state := .exhausted })) := by
          have := run_endLoop (P := P) hl (by rw [hrec]; simp)
          rw [hrec] at this ⊢
          exact this
        exact ⟨some c, _, he, wpIn_wide.2 (hstop c pre _ hs (hIx _ _ _ _ hi (put1 _ _ _)) (by simpa using hsz) ((World.putObj_heap_other (show w.heap.size ≠ w.heap.size + 1 by omega)).trans hk))⟩
end Go.Proofs.Ytebanmigaikhhaa
