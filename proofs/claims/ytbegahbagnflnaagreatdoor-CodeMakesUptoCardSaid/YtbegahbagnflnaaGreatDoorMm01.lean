/- CodeT, AppQ: several texts in one: a claim has at most 60 files -/
import Derived.Test.YtbegahbagnflnaaGreatDoorLib
set_option linter.unusedSimpArgs false
set_option linter.unusedVariables false
set_option linter.unnecessarySimpa false
namespace Go.Proofs.YtbegahbagnflnaaGreatDoor
section
/-- An instruction: what it does, its numbers, its text, its line. -/
structure J where
  op : Int
  a : Int
  b : Int
  s : ByteArray
  ln : Int

/-- How much is taken and given: the stack, the lists under way. -/
def ndT (op a : Int) (e : Bool) : Int :=
  if op = 3 ∨ op = 7 ∨ op = 45 ∨ op = 44 then 1 else if op = 4 ∨ op = 20 ∨ op = 23 ∨ op = 19 then 1 else if op = 5 ∨ op = 10 ∨ op = 12 then 2 else if op = 11 ∨ op = 18 ∨ op = 21 then 3
  else if op = 14 ∨ op = 15 then 1 else if op = 17 then 2 else if op = 22 then (if e then a + 3 else a + 1) else if op = 27 then 1 else if op = 36 then 1 else if op = 37 then 2 else if op = 38 then 2 else if op = 39 then 3 else if op = 41 then a else 0
def ndG (op : Int) : Int :=
  if op = 1 ∨ op = 2 ∨ op = 28 then 1 else if op = 4 ∨ op = 20 ∨ op = 23 ∨ op = 19 then 1 else if op = 5 ∨ op = 10 ∨ op = 12 then 1 else if op = 11 ∨ op = 18 ∨ op = 21 then 1
  else if op = 16 then 1 else if op = 17 then 2 else if op = 22 then 1 else if op = 27 then 1 else if op = 36 then 2 else if op = 37 then 2 else if op = 38 then 3 else if op = 39 then 3 else 0
def ndTB (op : Int) : Int := if op = 14 ∨ op = 15 ∨ op = 16 then 1 else 0
def ndGB (op : Int) : Int := if op = 13 ∨ op = 14 ∨ op = 15 then 1 else 0
/-- Where it goes (the andJump and the orJump aside). -/
def goesJ (j : J) (k : Int) : List Int :=
  if j.op = 6 then [j.a] else if j.op = 7 ∨ j.op = 37 ∨ j.op = 39 ∨ j.op = 24 ∨ j.op = 25 then [k + 1, j.a] else if j.op = 36 ∨ j.op = 38 ∨ j.op = 40 then [k + 1, j.a, j.b]
  else if j.op = 31 ∨ j.op = 42 ∨ j.op = 43 ∨ j.op = 44 then [] else [k + 1]
/-- It may stand at a place where so much is there. -/
def okJ (nb : Nat) (R : Int → Int × Int → Prop) (k : Nat) (j : J) (p : Int × Int) : Prop :=
  ndT j.op j.a (decide (j.s = ⟨#[]⟩)) ≤ p.1 ∧ ndTB j.op ≤ p.2 ∧ (j.op = 45 → 0 ≤ j.a ∧ j.a < nb) ∧
  if j.op = 8 ∨ j.op = 9 then 1 ≤ p.1 ∧ R j.a p ∧ R ((k : Int) + 1) (p.1 - 1, p.2)
  else ∀ t ∈ goesJ j k, R t (p.1 - ndT j.op j.a (decide (j.s = ⟨#[]⟩)) + ndG j.op, p.2 - ndTB j.op + ndGB j.op)
theorem okJ.mono {nb nb' : Nat} {R R' : Int → Int × Int → Prop} {k : Nat} {j : J} {p : Int × Int} (h : okJ nb R k j p) (hn : nb ≤ nb') (hR : ∀ t q, R t q → R' t q) : okJ nb' R' k j p := by
  obtain ⟨h1, h2, h3, h4⟩ := h
  refine ⟨h1, h2, fun e => ⟨(h3 e).1, by have := (h3 e).2; omega⟩, ?_⟩
  split
  · rename_i e
    rw [if_pos e] at h4
    exact ⟨h4.1, hR _ _ h4.2.1, hR _ _ h4.2.2⟩
  · rename_i e
    rw [if_neg e] at h4
    exact fun t ht => hR _ _ (h4 t ht)
/-- Inside a piece, or out of it. -/
def RTo (n len : Nat) (T : Nat → Int × Int) (E : List (Int × Int × Int)) (t : Int) (q : Int × Int) : Prop := (∃ k : Nat, t = ((n + k : Nat) : Int) ∧ k ≤ len ∧ T k = q) ∨ (t, q) ∈ E
/-- A piece of code at n, from what is there at its beginning to what is there behind it; E: where it goes else. -/
def Ty (nb n : Nat) (c : List J) (p q : Int × Int) (E : List (Int × Int × Int)) : Prop :=
  ∃ T : Nat → Int × Int, T 0 = p ∧ T c.length = q ∧ (∀ k, k ≤ c.length → (0 ≤ (T k).1 ∧ (T k).1 ≤ p.1 + k) ∧ 0 ≤ (T k).2 ∧ (T k).2 ≤ p.2 + k) ∧ ∀ k j, c[k]? = some j → okJ nb (RTo n c.length T E) (n + k) j (T k)
variable {nb nb' n m : Nat} {c d : List J} {p q r : Int × Int} {E F : List (Int × Int × Int)}
theorem Ty.mono (h : Ty nb n c p q E) (hn : nb ≤ nb') (hE : ∀ e ∈ E, e ∈ F) : Ty nb' n c p q F := by
  obtain ⟨T, h1, h2, h3, h4⟩ := h
  exact ⟨T, h1, h2, h3, fun k j hj => (h4 k j hj).mono hn fun t q h => h.imp id (hE _)⟩
theorem Ty.up (h : Ty nb n c p q E) (hn : nb ≤ nb') : Ty nb' n c p q E := h.mono hn fun _ => id
theorem Ty.nil (hp : 0 ≤ p.1 ∧ 0 ≤ p.2) : Ty nb n [] p p E := ⟨fun _ => p, rfl, rfl, fun k _ => by dsimp only; omega, fun k j h => by simp at h⟩
theorem Ty.cat (h1 : Ty nb n c p q E) (h2 : Ty nb m d q r E) (hm : m = n + c.length) : Ty nb n (c ++ d) p r E := by
  obtain ⟨T, a1, a2, a3, a4⟩ := h1
  obtain ⟨U, b1, b2, b3, b4⟩ := h2
  subst hm
  have hT : ∀ k, k ≤ c.length → (if k ≤ c.length then T k else U (k - c.length)) = T k := fun k hk => if_pos hk
  have hU : ∀ k, (if k + c.length ≤ c.length then T (k + c.length) else U (k + c.length - c.length)) = U k := fun k => by
    split
    · have : k = 0 := by omega
      subst this
      rw [Nat.zero_add, a2, b1]
    · rw [Nat.add_sub_cancel]
  have hR1 : ∀ t q, RTo n c.length T E t q → RTo n (c ++ d).length (fun k => if k ≤ c.length then T k else U (k - c.length)) E t q := fun t q h => by
    rcases h with ⟨k, e, hk, ht⟩ | h
    · exact .inl ⟨k, e, by rw [List.length_append]; omega, by dsimp only; rw [hT k hk]; exact ht⟩
    · exact .inr h
  have hR2 : ∀ t q, RTo (n + c.length) d.length U E t q → RTo n (c ++ d).length (fun k => if k ≤ c.length then T k else U (k - c.length)) E t q := fun t q h => by
    rcases h with ⟨k, e, hk, ht⟩ | h
    · exact .inl ⟨k + c.length, by rw [e]; congr 1; omega, by rw [List.length_append]; omega, by dsimp only; rw [hU k]; exact ht⟩
    · exact .inr h
  refine ⟨fun k => if k ≤ c.length then T k else U (k - c.length), ?_, ?_, fun k hk => ?_, fun k j hj => ?_⟩
  · dsimp only; rw [hT 0 (Nat.zero_le _)]; exact a1
  · dsimp only; rw [List.length_append, Nat.add_comm, hU]; exact b2
  · dsimp only
    rw [List.length_append] at hk
    by_cases h : k ≤ c.length
    · rw [hT k h]; exact a3 k h
    · obtain ⟨i, rfl⟩ : ∃ i, k = i + c.length := ⟨k - c.length, by omega⟩
      rw [hU]
      have h1 := b3 i (by omega)
      have h2 := a3 c.length (Nat.le_refl _)
      rw [a2] at h2
      omega
  · dsimp only
    by_cases h : k < c.length
    · rw [List.getElem?_append_left h] at hj
      rw [hT k (by omega)]
      exact (a4 k j hj).mono (Nat.le_refl _) hR1
    · rw [List.getElem?_append_right (by omega)] at hj
      obtain ⟨i, rfl⟩ : ∃ i, k = i + c.length := ⟨k - c.length, by omega⟩
      rw [Nat.add_sub_cancel] at hj
      rw [hU, show n + (i + c.length) = n + c.length + i by omega]
      exact (b4 i j hj).mono (Nat.le_refl _) hR2
/-- A way out that leads to the end is none. -/
theorem Ty.endc (h : Ty nb n c p q ((((n + c.length : Nat) : Int), q) :: E)) : Ty nb n c p q E := by
  obtain ⟨T, h1, h2, h3, h4⟩ := h
  refine ⟨T, h1, h2, h3, fun k j hj => (h4 k j hj).mono (Nat.le_refl _) fun t r h => ?_⟩
  rcases h with h | h
  · exact .inl h
  · rcases List.mem_cons.1 h with e | h
    · obtain ⟨rfl, rfl⟩ := Prod.mk.inj e
      exact .inl ⟨c.length, rfl, Nat.le_refl _, h2⟩
    · exact .inr h
/-- A way out that leads to the beginning is none. -/
theorem Ty.begc (h : Ty nb n c p q (((n : Int), p) :: E)) : Ty nb n c p q E := by
  obtain ⟨T, h1, h2, h3, h4⟩ := h
  refine ⟨T, h1, h2, h3, fun k j hj => (h4 k j hj).mono (Nat.le_refl _) fun t r h => ?_⟩
  rcases h with h | h
  · exact .inl h
  · rcases List.mem_cons.1 h with e | h
    · obtain ⟨rfl, rfl⟩ := Prod.mk.inj e
      exact .inl ⟨0, rfl, Nat.zero_le _, h1⟩
    · exact .inr h
/-- One instruction. -/
theorem Ty.one {j : J} (hp : (0 ≤ p.1 ∧ 0 ≤ p.2) ∧ (0 ≤ q.1 ∧ q.1 ≤ p.1 + 1) ∧ 0 ≤ q.2 ∧ q.2 ≤ p.2 + 1) (h : okJ nb (fun t r => (t = (n : Int) + 1 ∧ r = q) ∨ (t, r) ∈ E) n j p) : Ty nb n [j] p q E := by
  refine ⟨fun k => if k = 0 then p else q, rfl, rfl, fun k hk => ?_, fun k i hi => ?_⟩
  · by_cases e : k = 0
    · subst e; simp only [if_true]; omega
    · have : k = 1 := by simp at hk; omega
      subst this; simp only [Nat.one_ne_zero, if_false]; omega
  · have : k = 0 := by have := (List.getElem?_eq_some_iff.1 hi).1; simp at this; exact this
    subst this
    simp at hi
    subst hi
    refine h.mono (Nat.le_refl _) fun t r h => ?_
    rcases h with ⟨rfl, rfl⟩ | h
    · exact .inl ⟨1, by omega, by simp, rfl⟩
    · exact .inr h
end
section
open Go.RowKit

/-- One element of several cells appended (a region's run, or a plain operation). -/
theorem wp_appendQ {P : Program} {o : Oper} {a : Act} {w : World} {K : Act → World → Prop} {Q : Exit → Act → World → Prop} (s x : Operand) (t : TypeId)
    (ho : o.op = .call { callee := .builtin .append, args := #[s, x], argTypes := #[t, t] })
    (e : TypeId) (z : Value) (sz bytes : Nat) (ht : P.underlying t = some (.slice e)) (hrow : (P.info? e).map (fun i => (i.zero, i.size, i.bytes)) = some (some z, sz, bytes)) (hzs : z.cells.size = sz) (hsz0 : 0 < sz)
    (v : Value) (hs : a.eval s = v) (base n : Nat) (xs : List Value) (hown : w.ownsRow base e sz v n xs)
    (g0 c : Nat) (us : List Value) (hus : us.length = sz) (hx : a.eval x = .slice (some ⟨g0, 0, none⟩) 1 c) (hu : ∀ j y, us[j]? = some y → w.cell? ⟨g0, j, none⟩ = some y) (h1 : ∀ y ∈ us, y.oneCell' = true)
    (h63 : n + 1 ≤ 1099511627776) (hby : bytes ≤ 128) (hbase : base ≤ w.heap.size)
    (h : ∀ g cap w', w'.ownsRow base e sz (.slice (some ⟨g, 0, none⟩) (n + 1) cap) (n + 1) (xs ++ us) → Fr (fun k => some k = v.ownBlock) w w' → (v.ownBlock = some g ∨ w.heap.size ≤ g) → K (a.put o.dst (.slice (some ⟨g, 0, none⟩) (n + 1) cap)) w') : o.wp P a w K Q := by
  obtain ⟨i, hi, hz, hsz, hbt⟩ := info_parts hrow
  have hb2 : (n + 1) * bytes ≤ 140737488355328 := by
    have := Nat.mul_le_mul h63 hby
    omega
  have key : ∃ g cap w', (Builtin.append_ #[t, t] o.type #[v, .slice (some ⟨g0, 0, none⟩) 1 c]).run P w = .ok (.slice (some ⟨g, 0, none⟩) (n + 1) cap) w' ∧ w'.ownsRow base e sz (.slice (some ⟨g, 0, none⟩) (n + 1) cap) (n + 1) (xs ++ us) ∧ w.grownBy w' v.ownBlock ∧ (v.ownBlock = some g ∨ w.heap.size ≤ g) := by
    have hcells : ∀ j y, us[j]? = some y → w.cell? ((⟨g0, 0, none⟩ : Addr).add j) = some y := by
      intro j y hy
      have : (⟨g0, 0, none⟩ : Addr).add j = ⟨g0, j, none⟩ := by unfold Addr.add; split <;> simp_all
      rw [this]
      exact hu j y hy
    have hmx : n + 1 ≤ maxLen := by unfold maxLen; omega
    obtain ⟨v', w', hr, ho', hg, hn⟩ := run_append_own (P := P) w base t o.type e i z sz bytes ht hi hz hsz hbt hzs hsz0 v n xs hown ⟨g0, 0, none⟩ 1 c us (by rw [hus, Nat.one_mul]) hcells h1 hmx hb2 hbase
    rcases ho'.2 with ⟨_, h0⟩ | ⟨g, cap, cur, rfl, hbg, hgg, _⟩
    · omega
    · refine ⟨g, cap, w', hr, ho', hg, ?_⟩
      rcases hown.2 with ⟨rfl, rfl⟩ | ⟨g1, cap1, cur1, rfl, hb1, hg1, hnc, hcm, hcs, htk⟩
      · refine .inr (Nat.le_of_not_lt fun hlt => ?_)
        have e1 := run_append_nil (P := P) w t o.type e i z ht hi hz ⟨g0, 0, none⟩ 1 c us (by rw [hus, hsz, Nat.one_mul]) hcells (by decide) (by decide) (by rw [hbt]; simp; omega)
        rw [hr] at e1
        simp only [Result.ok.injEq, Value.slice.injEq, Option.some.injEq, Addr.mk.injEq] at e1
        omega
      · by_cases hroom : n + 1 ≤ cap1
        · have e1 := run_append_room (P := P) w t o.type e i ht hi g1 n cap1 cur1 hg1 ⟨g0, 0, none⟩ 1 c us (by rw [hus, hsz, Nat.one_mul]) hcells h1 hroom (by rw [hcs, hus, hsz]; have := Nat.mul_le_mul_right sz hroom; rw [Nat.add_mul, Nat.one_mul] at this; exact this)
          rw [hr] at e1
          simp only [Result.ok.injEq, Value.slice.injEq, Option.some.injEq, Addr.mk.injEq] at e1
          left; simp [Value.ownBlock]; omega
        · have holds : ∀ j u, xs[j]? = some u → w.cell? ((⟨g1, 0, none⟩ : Addr).add j) = some u := hown.cells (g := g1) rfl
          have e1 := run_append_grow (P := P) w t o.type e i z ht hi hz ⟨g1, 0, none⟩ n cap1 xs (by rw [hsz]; exact hown.1) holds ⟨g0, 0, none⟩ 1 c us (by rw [hus, hsz, Nat.one_mul]) hcells (by unfold maxLen at hmx; omega) (by omega) (growslice_fits (by omega) (by rw [hbt]; exact hb2))
          rw [hr] at e1
          simp only [Result.ok.injEq, Value.slice.injEq, Option.some.injEq, Addr.mk.injEq] at e1
          right; simp at e1; omega
  obtain ⟨g, cap, w', hr, ho', hg, hw⟩ := key
  unfold Oper.wp execOp
  simp only [ho, resolve, invoke, builtin, Sem.run_bind, Sem.run_pure, Result.andThen_ok, List.map_toArray, List.map_cons, List.map_nil, hs, hx, hr]
  exact h g cap w' ho' (Fr.of_grownBy hg) hw
/-- The cells of a row that was laid last. -/
theorem cells_newQ (w : World) (cs : Array Value) (t : TypeId) (fz : Nat × Nat) : ∀ j y, cs.toList[j]? = some y → (w.alloc (.cells cs t fz)).cell? ⟨w.heap.size, j, none⟩ = some y := by
  intro j y h
  have h0 : (w.alloc (.cells cs t fz)).heap[w.heap.size]? = some (.cells cs t fz) := heap_alloc_new w _
  rw [cell_of_row _ _ j _ _ _ h0]
  simpa using h
end
end Go.Proofs.YtbegahbagnflnaaGreatDoor
