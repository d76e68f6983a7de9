/- Values that a function makes: a row of its own, whose items lie in blocks of their own. -/
import Derived.Test.YtebanmigaikhhaaVal
namespace Go.Proofs.Ytebanmigaikhhaa
open Go.RowKit

/-- One element of several cells appended: it lies at block g0. -/
theorem wp_appendR {P : Program} {o : Oper} {a : Act} {w : World} {K : Act → World → Prop} {Q : Exit → Act → World → Prop} (s x : Operand) (t : TypeId)
    (ho : o.op = .call { callee := .builtin .append, args := #[s, x], argTypes := #[t, t] })
    (e : TypeId) (z : Value) (sz bytes : Nat) (ht : P.underlying t = some (.slice e)) (hrow : (P.info? e).map (fun i => (i.zero, i.size, i.bytes)) = some (some z, sz, bytes)) (hzs : z.cells.size = sz) (hsz0 : 0 < sz)
    (v : Value) (hs : a.eval s = v) (base n : Nat) (xs : List Value) (hown : w.ownsRow base e sz v n xs)
    (g0 c : Nat) (us : List Value) (hus : us.length = sz) (hx : a.eval x = .slice (some ⟨g0, 0, none⟩) 1 c) (hu : ∀ j y, us[j]? = some y → w.cell? ⟨g0, j, none⟩ = some y) (h1 : ∀ y ∈ us, y.oneCell' = true)
    (h63 : n + 1 ≤ 1099511627776) (hby : bytes ≤ 64) (hbase : base ≤ w.heap.size)
    (h : ∀ g cap w', w'.ownsRow base e sz (.slice (some ⟨g, 0, none⟩) (n + 1) cap) (n + 1) (xs ++ us) → Fr (fun k => some k = v.ownBlock) w w' → (v.ownBlock = some g ∨ w.heap.size ≤ g) → K (a.put o.dst (.slice (some ⟨g, 0, none⟩) (n + 1) cap)) w') : o.wp P a w K Q := by
  obtain ⟨i, hi, hz, hsz, hbt⟩ := info_parts hrow
  have hb2 : (n + 1) * bytes ≤ 140737488355328 := by
    have := Nat.mul_le_mul h63 hby
    omega
  have key : ∃ g cap w', (Builtin.append_ #[t, t] o.type #[v, .slice (some ⟨g0, 0, none⟩) 1 c]).run P w = .ok (.slice (some ⟨g, 0, none⟩) (n + 1) cap) w' ∧ w'.ownsRow base e sz (.slice (some ⟨g, 0, none⟩) (n + 1) cap) (n + 1) (xs ++ us) ∧ w.grownBy w' v.ownBlock ∧ (v.ownBlock = some g ∨ w.heap.size ≤ g) := by
    have hcells : ∀ j y, us[j]? = some y → w.cell? ((⟨g0, 0, none⟩ : Addr).add j) = some y := by
      intro j y hy
      have : (⟨g0, 0, none⟩ : Addr).add j = ⟨g0, j, none⟩ := by unfold Addr.add; split <;> simp_all
      rw [this]
      exact hu j y hy
    have hmx : n + 1 ≤ maxLen := by unfold maxLen; omega
    obtain ⟨v', w', hr, ho', hg, hn⟩ := run_append_own (P := P) w base t o.type e i z sz bytes ht hi hz hsz hbt hzs hsz0 v n xs hown ⟨g0, 0, none⟩ 1 c us (by rw [hus, Nat.one_mul]) hcells h1 hmx hb2 hbase
    rcases ho'.2 with ⟨_, h0⟩ | ⟨g, cap, cur, rfl, hbg, hgg, _⟩
    · omega
    · refine ⟨g, cap, w', hr, ho', hg, ?_⟩
      rcases hown.2 with ⟨rfl, rfl⟩ | ⟨g1, cap1, cur1, rfl, hb1, hg1, hnc, hcm, hcs, htk⟩
      · refine .inr (Nat.le_of_not_lt fun hlt => ?_)
        have e1 := run_append_nil (P := P) w t o.type e i z ht hi hz ⟨g0, 0, none⟩ 1 c us (by rw [hus, hsz, Nat.one_mul]) hcells (by decide) (by decide) (by rw [hbt]; simp; omega)
        rw [hr] at e1
        simp only [Result.ok.injEq, Value.slice.injEq, Option.some.injEq, Addr.mk.injEq] at e1
        omega
      · by_cases hroom : n + 1 ≤ cap1
        · have e1 := run_append_room (P := P) w t o.type e i ht hi g1 n cap1 cur1 hg1 ⟨g0, 0, none⟩ 1 c us (by rw [hus, hsz, Nat.one_mul]) hcells h1 hroom (by rw [hcs, hus, hsz]; have := Nat.mul_le_mul_right sz hroom; rw [Nat.add_mul, Nat.one_mul] at this; exact this)
          rw [hr] at e1
          simp only [Result.ok.injEq, Value.slice.injEq, Option.some.injEq, Addr.mk.injEq] at e1
          left; simp [Value.ownBlock]; omega
        · have holds : ∀ j u, xs[j]? = some u → w.cell? ((⟨g1, 0, none⟩ : Addr).add j) = some u := hown.cells (g := g1) rfl
          have e1 := run_append_grow (P := P) w t o.type e i z ht hi hz ⟨g1, 0, none⟩ n cap1 xs (by rw [hsz]; exact hown.1) holds ⟨g0, 0, none⟩ 1 c us (by rw [hus, hsz, Nat.one_mul]) hcells (by unfold maxLen at hmx; omega) (by omega) (growslice_fits (by omega) (by rw [hbt]; exact hb2))
          rw [hr] at e1
          simp only [Result.ok.injEq, Value.slice.injEq, Option.some.injEq, Addr.mk.injEq] at e1
          right; simp at e1; omega
  obtain ⟨g, cap, w', hr, ho', hg, hw⟩ := key
  unfold Oper.wp execOp
  simp only [ho, resolve, invoke, builtin, Sem.run_bind, Sem.run_pure, Result.andThen_ok, List.map_toArray, List.map_cons, List.map_nil, hs, hx, hr]
  exact h g cap w' ho' (Fr.of_grownBy hg) hw

theorem wpList_appendR {P : Program} {ops : Array Oper} {rest : List Oper} {o : Oper} {a : Act} {w : World} {Q : Exit → Act → World → Prop} (hgd : o.guard = none) (s x : Operand) (t : TypeId)
    (ho : o.op = .call { callee := .builtin .append, args := #[s, x], argTypes := #[t, t] })
    (e : TypeId) (z : Value) (sz bytes : Nat) (ht : P.underlying t = some (.slice e)) (hrow : (P.info? e).map (fun i => (i.zero, i.size, i.bytes)) = some (some z, sz, bytes)) (hzs : z.cells.size = sz) (hsz0 : 0 < sz)
    (v : Value) (hs : a.eval s = v) (base n : Nat) (xs : List Value) (hown : w.ownsRow base e sz v n xs)
    (g0 c : Nat) (us : List Value) (hus : us.length = sz) (hx : a.eval x = .slice (some ⟨g0, 0, none⟩) 1 c) (hu : ∀ j y, us[j]? = some y → w.cell? ⟨g0, j, none⟩ = some y) (h1 : ∀ y ∈ us, y.oneCell' = true)
    (h63 : n + 1 ≤ 1099511627776) (hby : bytes ≤ 64) (hbase : base ≤ w.heap.size)
    (h : ∀ g cap w', w'.ownsRow base e sz (.slice (some ⟨g, 0, none⟩) (n + 1) cap) (n + 1) (xs ++ us) → Fr (fun k => some k = v.ownBlock) w w' → (v.ownBlock = some g ∨ w.heap.size ≤ g) → wpList P ops Q rest (a.put o.dst (.slice (some ⟨g, 0, none⟩) (n + 1) cap)) w') : wpList P ops Q (o :: rest) a w :=
  wpList_plain hgd fun _ hK => wp_appendR s x t ho e z sz bytes ht hrow hzs hsz0 v hs base n xs hown g0 c us hus hx hu h1 h63 hby hbase fun g cap w' h1 h2 h3 => hK _ _ (h g cap w' h1 h2 h3)
/-- The cells of a row that was laid last. -/
theorem cells_new4 (w : World) (cs : Array Value) (t : TypeId) (fz : Nat × Nat) : ∀ j y, cs.toList[j]? = some y → (w.alloc (.cells cs t fz)).cell? ⟨w.heap.size, j, none⟩ = some y := by
  intro j y h
  have h0 : (w.alloc (.cells cs t fz)).heap[w.heap.size]? = some (.cells cs t fz) := heap_alloc_new w _
  rw [cell_of_row _ _ j _ _ _ h0]
  simpa using h

/-- Nothing of block b is frozen. -/
def Soft (w : World) (b : Nat) : Prop := ∀ i, w.frozen? ⟨b, i, none⟩ = false
theorem Fr.soft {S : Nat → Prop} {w w' : World} (hf : Fr S w w') {k : Nat} (hk : k < w.heap.size) (hS : ¬ S k) (h : Soft w k) : Soft w' k := by
  intro i
  rw [← h i]
  simp only [World.frozen?, hf.block k hk hS]
theorem VIn.soft {B : Nat → Prop} {S : Nat → Prop} {w w' : World} {x : V} {u : Array Value} (h : VIn (fun b => B b ∧ Soft w b) w x u) (hf : Fr S w w') (hS : ∀ k, B k → ¬ S k) : VIn (fun b => B b ∧ Soft w' b) w' x u :=
  ((h.mono (E := fun b => (B b ∧ b < w.heap.size) ∧ Soft w b) fun k hk hd => ⟨⟨hd.1, hk⟩, hd.2⟩).frame hf fun k hk => hS k hk.1.1).mono fun k _ hk => ⟨hk.1.1, hf.soft hk.1.2 (hS k hk.1.1) hk.2⟩
/-- A row of its own (element type e), with the items l. -/
def VOwn (e base : Nat) (w : World) (l : List V) (v : Value) : Prop :=
  ∃ xs : List Value, w.ownsRow base e 4 v l.length xs ∧ ∀ i x, l[i]? = some x → ∃ u, VIn (fun b => base ≤ b ∧ b < w.heap.size ∧ v.ownBlock ≠ some b ∧ Soft w b) w x u ∧ u.size = 4 ∧ ∀ j, j < 4 → xs[i * 4 + j]? = u[j]?
theorem VOwn.nil (e base : Nat) (w : World) : VOwn e base w [] (.slice none 0 0) := ⟨[], World.ownsRow_nil _ _ _ _, fun i x h => by simp at h⟩
theorem VOwn.frame {e base : Nat} {w w' : World} {l : List V} {v : Value} (h : VOwn e base w l v) (hf : Fr (fun _ => False) w w') : VOwn e base w' l v := by
  obtain ⟨xs, ho, hx⟩ := h
  refine ⟨xs, hf.own ho (fun _ _ => id), fun i x hi => ?_⟩
  obtain ⟨u, hv, r⟩ := hx i x hi
  exact ⟨u, (hv.frame hf fun _ _ => id).mono fun k _ hk => ⟨hk.1, Nat.lt_of_lt_of_le hk.2.1 hf.size, hk.2.2.1, hf.soft hk.2.1 id hk.2.2.2⟩, r⟩
theorem VOwn.snoc {e base : Nat} {w w' : World} {l : List V} {v v' : Value} {xs : List Value} {x : V} {u : Array Value}
    (ho : w.ownsRow base e 4 v l.length xs) (hx : ∀ i x, l[i]? = some x → ∃ u, VIn (fun b => base ≤ b ∧ b < w.heap.size ∧ v.ownBlock ≠ some b ∧ Soft w b) w x u ∧ u.size = 4 ∧ ∀ j, j < 4 → xs[i * 4 + j]? = u[j]?)
    (ho' : w'.ownsRow base e 4 v' (l.length + 1) (xs ++ u.toList)) (hf : Fr (fun k => some k = v.ownBlock) w w') (hn : ∀ k, v'.ownBlock = some k → v.ownBlock = some k ∨ w.heap.size ≤ k)
    (hv : VIn (fun b => base ≤ b ∧ b < w.heap.size ∧ v.ownBlock ≠ some b ∧ Soft w b) w x u) (h4 : u.size = 4) : VOwn e base w' (l ++ [x]) v' := by
  have hlen : xs.length = l.length * 4 := ho.1
  have key : ∀ {y : V} {c : Array Value}, VIn (fun b => base ≤ b ∧ b < w.heap.size ∧ v.ownBlock ≠ some b ∧ Soft w b) w y c → VIn (fun b => base ≤ b ∧ b < w'.heap.size ∧ v'.ownBlock ≠ some b ∧ Soft w' b) w' y c := fun h =>
    (h.frame hf fun k hk e => hk.2.2.1 e.symm).mono fun k _ hk => ⟨hk.1, Nat.lt_of_lt_of_le hk.2.1 hf.size, fun e => by
      rcases hn k e with h1 | h1
      · exact hk.2.2.1 h1
      · have := hk.2.1; omega, hf.soft hk.2.1 (fun e => hk.2.2.1 e.symm) hk.2.2.2⟩
  refine ⟨xs ++ u.toList, by simpa using ho', fun i y hi => ?_⟩
  by_cases hlt : i < l.length
  · rw [List.getElem?_append_left hlt] at hi
    obtain ⟨c, hc, h4c, hj⟩ := hx i y hi
    refine ⟨c, key hc, h4c, fun j hj4 => ?_⟩
    rw [List.getElem?_append_left (by omega)]
    exact hj j hj4
  · have hil := (List.getElem?_eq_some_iff.1 hi).1
    have : i = l.length := by simp at hil; omega
    subst this
    rw [List.getElem?_append_right (Nat.le_refl _)] at hi
    simp at hi
    subst hi
    refine ⟨u, key hv, h4, fun j hj4 => ?_⟩
    rw [List.getElem?_append_right (by omega)]
    simp [hlen]
theorem VOwn.close {e base : Nat} {w : World} {l : List V} {v : Value} (h : VOwn e base w l v) : VL (fun b => base ≤ b ∧ Soft w b) w l v := by
  obtain ⟨xs, ho, hx⟩ := h
  have hmono : ∀ {y : V} {c : Array Value}, VIn (fun b => base ≤ b ∧ b < w.heap.size ∧ v.ownBlock ≠ some b ∧ Soft w b) w y c → VIn (fun b => base ≤ b ∧ Soft w b) w y c := fun h => h.mono fun k _ hk => ⟨hk.1, hk.2.2.2⟩
  obtain ⟨us, hus⟩ : ∃ us : Nat → Array Value, ∀ i x, l[i]? = some x → VIn (fun b => base ≤ b ∧ Soft w b) w x (us i) ∧ (us i).size = 4 ∧ ∀ j, j < 4 → xs[i * 4 + j]? = (us i)[j]? := by
    classical
    refine ⟨fun i => if h : ∃ u, ∀ x, l[i]? = some x → VIn (fun b => base ≤ b ∧ Soft w b) w x u ∧ u.size = 4 ∧ ∀ j, j < 4 → xs[i * 4 + j]? = u[j]? then h.choose else #[], fun i x hi => ?_⟩
    have h : ∃ u, ∀ x, l[i]? = some x → VIn (fun b => base ≤ b ∧ Soft w b) w x u ∧ u.size = 4 ∧ ∀ j, j < 4 → xs[i * 4 + j]? = u[j]? := by
      obtain ⟨u, h1, h2⟩ := hx i x hi
      exact ⟨u, fun x' hx' => by rw [hi] at hx'; obtain rfl := Option.some.inj hx'; exact ⟨hmono h1, h2⟩⟩
    simp only [dif_pos h]
    exact h.choose_spec x hi
  rcases ho.2 with ⟨rfl, h0⟩ | ⟨g, cap, cur, rfl, hb, hg, h1, h2, h3, ht⟩
  · exact ⟨none, 0, us, by rw [h0], by omega, by simp, fun _ => rfl, fun i hi => by omega, fun i x hi => (hus i x hi).1⟩
  · refine ⟨some ⟨g, 0, none⟩, cap, us, rfl, h1, h2, (fun h => by cases h), fun i hi => ?_, fun i x hi => (hus i x hi).1⟩
    obtain ⟨_, h4, hj⟩ := hus i _ (List.getElem?_eq_getElem hi)
    refine ⟨g, 0, rfl, ⟨hb, fun i => frozen_of_row w g i _ _ hg⟩, h4, fun j hj4 => ?_⟩
    rw [← hj j hj4]
    have hc := ho.cells (g := g) rfl
    have hlen : xs.length = l.length * 4 := ho.1
    have hlt : i * 4 + j < xs.length := by omega
    have h5 := hc (i * 4 + j) _ (List.getElem?_eq_getElem hlt)
    have : (⟨g, 0, none⟩ : Addr).add (i * 4 + j) = ⟨g, 0 + i * 4 + j, none⟩ := by unfold Addr.add; split <;> simp_all [Nat.add_assoc]
    rw [← this, h5, List.getElem?_eq_getElem hlt]
end Go.Proofs.Ytebanmigaikhhaa
