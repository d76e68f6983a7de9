/- Rows of values: their cells, pieces of slices, appends, slices.Concat, slices.Clone. -/
import Derived.Test.YtebanmigaikhhaaValL
import Derived.Deep.Upon
namespace Go.Proofs.Ytebanmigaikhhaa
open Go.RowKit

/-- The cells of a row of values. -/
def VC (D : Nat → Prop) (w : World) (l : List V) (us : List Value) : Prop :=
  us.length = l.length * 4 ∧ ∀ i x, l[i]? = some x → ∃ u, VIn D w x u ∧ u.size = 4 ∧ ∀ j, j < 4 → us[i * 4 + j]? = u[j]?
theorem VC.nil (D : Nat → Prop) (w : World) : VC D w [] [] := ⟨rfl, fun i x h => by simp at h⟩
theorem VC.frame {D S : Nat → Prop} {w w' : World} {l : List V} {us : List Value} (h : VC D w l us) (hf : Fr S w w') (hd : ∀ k, D k → ¬ S k) : VC D w' l us :=
  ⟨h.1, fun i x hx => by obtain ⟨u, a, b, c⟩ := h.2 i x hx; exact ⟨u, a.frame hf hd, b, c⟩⟩
theorem VC.mono {D E : Nat → Prop} {w : World} {l : List V} {us : List Value} (h : VC D w l us) (hd : ∀ k, k < w.heap.size → D k → E k) : VC E w l us :=
  ⟨h.1, fun i x hx => by obtain ⟨u, a, b, c⟩ := h.2 i x hx; exact ⟨u, a.mono hd, b, c⟩⟩
theorem VC.app {D : Nat → Prop} {w : World} {l m : List V} {us vs : List Value} (h : VC D w l us) (h' : VC D w m vs) : VC D w (l ++ m) (us ++ vs) := by
  refine ⟨by simp [h.1, h'.1, Nat.add_mul], fun i x hx => ?_⟩
  by_cases hi : i < l.length
  · rw [List.getElem?_append_left hi] at hx
    obtain ⟨u, a, b, c⟩ := h.2 i x hx
    refine ⟨u, a, b, fun j hj => ?_⟩
    rw [List.getElem?_append_left (by rw [h.1]; omega)]
    exact c j hj
  · rw [List.getElem?_append_right (by omega)] at hx
    obtain ⟨u, a, b, c⟩ := h'.2 _ x hx
    refine ⟨u, a, b, fun j hj => ?_⟩
    rw [List.getElem?_append_right (by rw [h.1]; omega), ← c j hj]
    congr 1
    rw [h.1]
    omega
theorem vin_one {D : Nat → Prop} {w : World} {x : V} {u : Array Value} (h : VIn D w x u) : ∀ (j : Nat) (y : Value), u[j]? = some y → y.oneCell' = true := by
  obtain ⟨v, rfl, a, c, us, rfl, -⟩ := h.open
  intro j y hj
  have hjl := (Array.getElem?_eq_some_iff.1 hj).1
  simp at hjl
  obtain rfl | rfl | rfl | rfl : j = 0 ∨ j = 1 ∨ j = 2 ∨ j = 3 := by omega
  all_goals
    simp at hj
    subst hj
    rfl
theorem VC.one {D : Nat → Prop} {w : World} {l : List V} {us : List Value} (h : VC D w l us) : ∀ y ∈ us, y.oneCell' = true := by
  intro y hy
  obtain ⟨k, hk, rfl⟩ := List.getElem_of_mem hy
  have hkl : k / 4 < l.length := by have := h.1; omega
  obtain ⟨u, a, b, c⟩ := h.2 (k / 4) _ (List.getElem?_eq_getElem hkl)
  have h1 := c (k % 4) (Nat.mod_lt _ (by decide))
  rw [show k / 4 * 4 + k % 4 = k by omega, List.getElem?_eq_getElem hk] at h1
  exact vin_one a (k % 4) _ h1.symm
/-- What a slice of values has as cells. -/
theorem VL.cells {D : Nat → Prop} {w : World} {l : List V} {a : Option Addr} {n c : Nat} (h : VL D w l (.slice a n c)) : n = l.length ∧ ∃ us, VC D w l us ∧ (l.length = 0 ∨ ∃ b o, a = some ⟨b, o, none⟩ ∧ D b ∧ ∀ j y, us[j]? = some y → w.cell? ⟨b, o + j, none⟩ = some y) := by
  obtain ⟨a', c', us, e, hc, hm, hn, hb, hi⟩ := h
  simp only [Value.slice.injEq] at e
  obtain ⟨rfl, rfl, rfl⟩ := e
  refine ⟨rfl, ((List.range l.length).flatMap fun i => (us i).toList), ?_, ?_⟩
  · have key : ∀ n, n ≤ l.length → VC D w (l.take n) ((List.range n).flatMap fun i => (us i).toList) := by
      intro n
      induction n with
      | zero => intro _; simpa using VC.nil D w
      | succ n ih =>
        intro hn
        have h1 := ih (by omega)
        rw [List.range_succ, List.flatMap_append, take_snoc' (List.getElem?_eq_getElem (show n < l.length by omega))]
        refine h1.app ⟨?_, fun i x hx => ?_⟩
        · obtain ⟨b, o, e, hD, h4, hcell⟩ := hb n (by omega)
          simp [h4]
        · have hi0 : i = 0 := by have := (List.getElem?_eq_some_iff.1 hx).1; simp at this; exact this
          subst hi0
          simp at hx
          subst hx
          obtain ⟨b, o, e, hD, h4, hcell⟩ := hb n (by omega)
          refine ⟨us n, hi n _ (List.getElem?_eq_getElem (by omega)), h4, fun j hj => ?_⟩
          simp
    have := key l.length (Nat.le_refl _)
    rwa [List.take_length] at this
  · by_cases h0 : l.length = 0
    · exact .inl h0
    · right
      obtain ⟨b, o, e, hD, -, -⟩ := hb 0 (by omega)
      refine ⟨b, o, e, hD, fun j y hj => ?_⟩
      have key : ∀ n, n ≤ l.length → ∀ j y, ((List.range n).flatMap fun i => (us i).toList)[j]? = some y → w.cell? ⟨b, o + j, none⟩ = some y := by
        intro n
        induction n with
        | zero => intro _ j y h; simp at h
        | succ n ih =>
          intro hn j y hj
          have hlen : ∀ m, m ≤ l.length → ((List.range m).flatMap fun i => (us i).toList).length = m * 4 := by
            intro m
            induction m with
            | zero => intro _; rfl
            | succ m ihm =>
              intro hm'
              obtain ⟨b', o', e', hD', h4, hcell⟩ := hb m (by omega)
              rw [List.range_succ, List.flatMap_append, List.length_append, ihm (by omega)]
              simp [h4]
              omega
          rw [List.range_succ, List.flatMap_append] at hj
          by_cases hjn : j < n * 4
          · rw [List.getElem?_append_left (by rw [hlen n (by omega)]; exact hjn)] at hj
            exact ih (by omega) j y hj
          · rw [List.getElem?_append_right (by rw [hlen n (by omega)]; omega), hlen n (by omega)] at hj
            simp only [List.flatMap_cons, List.flatMap_nil, List.append_nil] at hj
            obtain ⟨b', o', e', hD', h4, hcell⟩ := hb n (by omega)
            rw [e'] at e
            simp only [Option.some.injEq, Addr.mk.injEq] at e
            obtain ⟨rfl, rfl, -⟩ := e
            have hjl := (List.getElem?_eq_some_iff.1 hj).1
            simp only [Array.length_toList, h4] at hjl
            have := hcell (j - n * 4) hjl
            rw [show o' + n * 4 + (j - n * 4) = o' + j by omega] at this
            rw [this, ← hj, Array.getElem?_toList]
      exact key l.length (Nat.le_refl _) j y hj
/-- A row of its own reads as what its cells are. -/
theorem VC.own {D : Nat → Prop} {w : World} {l : List V} {us : List Value} {e base : Nat} {v : Value} (h : VC D w l us) (ho : w.ownsRow base e 4 v l.length us) : VL (fun b => D b ∨ v.ownBlock = some b) w l v := by
  obtain ⟨f, hf⟩ : ∃ f : Nat → Array Value, ∀ i x, l[i]? = some x → VIn D w x (f i) ∧ (f i).size = 4 ∧ ∀ j, j < 4 → us[i * 4 + j]? = (f i)[j]? := by
    classical
    refine ⟨fun i => if hh : i < l.length then (h.2 i _ (List.getElem?_eq_getElem hh)).choose else #[], fun i x hx => ?_⟩
    obtain ⟨hil, rfl⟩ := List.getElem?_eq_some_iff.1 hx
    simp only [dif_pos hil]
    exact (h.2 i _ (List.getElem?_eq_getElem hil)).choose_spec
  rcases ho.2 with ⟨rfl, h0⟩ | ⟨g, cap, cur, rfl, hb, hg, hc, hm, hs, ht⟩
  · have : l = [] := List.eq_nil_of_length_eq_zero h0
    subst this
    exact VL.nil _ _
  · refine ⟨_, _, f, rfl, hc, hm, (fun e => by cases e), fun i hil => ⟨g, 0, rfl, .inr rfl, ?_⟩, fun i x hx => (hf i x hx).1.mono fun _ _ h => .inl h⟩
    obtain ⟨h1, h2, h3⟩ := hf i _ (List.getElem?_eq_getElem hil)
    refine ⟨h2, fun j hj => ?_⟩
    rw [Nat.zero_add, cell_of_row w g (i * 4 + j) cur e (0, 0) hg, ← h3 j hj, ← ht, List.getElem?_take, if_pos (by omega)]
    simp
/-- A piece of a slice of values. -/
theorem VL.sub {D : Nat → Prop} {w : World} {a a' : Option Addr} {n c c' len' : Nat} {l : List V} (h : VL D w l (.slice a n c)) (i j : Nat) (hij : i ≤ j) (hj : j ≤ l.length) (hlen : len' = j - i) (hc : c' = c - i)
    (ha : a' = if c = i then a else a.map fun x => x.add (i * 4)) : VL D w ((l.take j).drop i) (.slice a' len' c') := by
  obtain ⟨a0, c0, us, e, h1, h2, hn, hb, hi⟩ := h
  simp only [Value.slice.injEq] at e
  obtain ⟨rfl, rfl, rfl⟩ := e
  have hL : ((l.take j).drop i).length = len' := by simp; omega
  refine ⟨a', c', fun k => us (i + k), by rw [hL], by omega, by omega, fun e => ?_, fun k hk => ?_, fun k x hx => ?_⟩
  · subst e
    split at ha
    · omega
    · cases a
      · have := hn rfl; omega
      · simp at ha
  · rw [hL] at hk
    obtain ⟨b, o, rfl, hD, h4, hcell⟩ := hb (i + k) (by omega)
    rw [if_neg (by omega)] at ha
    have e2 : (⟨b, o, none⟩ : Addr).add (i * 4) = ⟨b, o + i * 4, none⟩ := by unfold Addr.add; split <;> simp_all
    simp only [Option.map_some, e2] at ha
    refine ⟨b, o + i * 4, ha, hD, h4, fun j' hj' => ?_⟩
    rw [← hcell j' hj']
    congr 2
    omega
  · rw [List.getElem?_drop, List.getElem?_take] at hx
    split at hx
    · exact hi _ x hx
    · cases hx
section
variable {P : Program}
/-- A slice, whatever it is, appended to a row of its own. -/
theorem run_appendV (w : World) (base : Nat) (t ty e : TypeId) (z : Value) (sz bytes : Nat) (ht : P.underlying t = some (.slice e)) (hrow : (P.info? e).map (fun i => (i.zero, i.size, i.bytes)) = some (some z, sz, bytes)) (hzs : z.cells.size = sz) (hsz0 : 0 < sz)
    (v : Value) (n : Nat) (xs : List Value) (hown : w.ownsRow base e sz v n xs) (a : Option Addr) (m c : Nat) (us : List Value) (hus : us.length = m * sz)
    (hu : m = 0 ∨ ∃ b o, a = some ⟨b, o, none⟩ ∧ ∀ j y, us[j]? = some y → w.cell? ⟨b, o + j, none⟩ = some y) (h1 : ∀ y ∈ us, y.oneCell' = true)
    (h63 : n + m ≤ 1099511627776) (hby : bytes ≤ 64) (hbase : base ≤ w.heap.size) :
    ∃ v' w', (Builtin.append_ #[t, t] ty #[v, .slice a m c]).run P w = .ok v' w' ∧ w'.ownsRow base e sz v' (n + m) (xs ++ us) ∧ Fr (fun k => some k = v.ownBlock) w w' ∧ ∀ k, v'.ownBlock = some k → v.ownBlock = some k ∨ w.heap.size ≤ k := by
  obtain ⟨i, hi, hz, hsz, hbt⟩ := info_parts hrow
  by_cases hm0 : m = 0
  · subst hm0
    have hus0 : us = [] := List.eq_nil_of_length_eq_zero (by rw [hus]; simp)
    subst hus0
    have hrun : ∀ (b0 : Option Addr) (s0 c0 : Nat), s0 ≤ c0 → (Builtin.append_ #[t, t] ty #[.slice b0 s0 c0, .slice a 0 c]).run P w = .ok (.slice b0 s0 c0) w := by
      intro b0 s0 c0 h0
      cases a <;> cases b0 <;> simp [Builtin.append_, run_underlying ht, sizeOf, typeInfo, hi, Builtin.lenOf, Builtin.firstCells, loadCells, loadCellsFrom, storeCells, h0]
    obtain ⟨b0, s0, c0, rfl, h0⟩ : ∃ b0 s0 c0, v = .slice b0 s0 c0 ∧ s0 ≤ c0 := by
      rcases hown.2 with ⟨rfl, rfl⟩ | ⟨g, cap, cur, rfl, _, _, hc, _⟩
      · exact ⟨_, _, _, rfl, Nat.le_refl _⟩
      · exact ⟨_, _, _, rfl, hc⟩
    exact ⟨_, _, hrun _ _ _ h0, by simpa using hown, Fr.refl _ _, fun k hk => .inl hk⟩
  · obtain ⟨g0, o0, rfl, hu2⟩ := hu.resolve_left hm0
    have hb2 : (n + m) * bytes ≤ 140737488355328 := by
      have := Nat.mul_le_mul h63 hby
      omega
    have hcells : ∀ j y, us[j]? = some y → w.cell? ((⟨g0, o0, none⟩ : Addr).add j) = some y := by
      intro j y hy
      have : (⟨g0, o0, none⟩ : Addr).add j = ⟨g0, o0 + j, none⟩ := by unfold Addr.add; split <;> simp_all
      rw [this]
      exact hu2 j y hy
    have hmx : n + m ≤ maxLen := by unfold maxLen; omega
    obtain ⟨v', w', hr, ho', hg, hnil⟩ := run_append_own (P := P) w base t ty e i z sz bytes ht hi hz hsz hbt hzs hsz0 v n xs hown ⟨g0, o0, none⟩ m c us hus hcells h1 hmx hb2 hbase
    refine ⟨v', w', hr, ho', Fr.of_grownBy hg, fun k hk => ?_⟩
    rcases hown.2 with ⟨rfl, rfl⟩ | ⟨g1, cap1, cur1, rfl, hb1, hg1, hnc, hcm, hcs, htk⟩
    · have e1 := run_append_nil (P := P) w t ty e i z ht hi hz ⟨g0, o0, none⟩ m c us (by rw [hsz]; exact hus) hcells (by omega) (by unfold maxLen at hmx; omega) (by rw [hbt]; simp only [Nat.zero_add] at hb2; omega)
      rw [hr] at e1
      simp only [Result.ok.injEq] at e1
      rw [e1.1] at hk
      simp only [Value.ownBlock, Option.some.injEq] at hk
      exact .inr (by omega)
    · by_cases hroom : n + m ≤ cap1
      · have e1 := run_append_room (P := P) w t ty e i ht hi g1 n cap1 cur1 hg1 ⟨g0, o0, none⟩ m c us (by rw [hsz]; exact hus) hcells h1 hroom (by rw [hsz, hus, hcs]; have := Nat.mul_le_mul_right sz hroom; rw [Nat.add_mul] at this; exact this)
        rw [hr] at e1
        simp only [Result.ok.injEq] at e1
        rw [e1.1] at hk
        exact .inl hk
      · have holds : ∀ j u, xs[j]? = some u → w.cell? ((⟨g1, 0, none⟩ : Addr).add j) = some u := hown.cells (g := g1) rfl
        have e1 := run_append_grow (P := P) w t ty e i z ht hi hz ⟨g1, 0, none⟩ n cap1 xs (by rw [hsz]; exact hown.1) holds ⟨g0, o0, none⟩ m c us (by rw [hsz]; exact hus) hcells (by unfold maxLen at hmx; omega) (by omega) (growslice_fits (by omega) (by rw [hbt]; exact hb2))
        rw [hr] at e1
        simp only [Result.ok.injEq] at e1
        rw [e1.1] at hk
        simp only [Value.ownBlock, Option.some.injEq] at hk
        exact .inr (by omega)
end
/-- A slice of values appended to a row of values. -/
theorem run_appendVL (w : World) (base : Nat) (v v2 : Value) (l m : List V) (xs : List Value) (D : Nat → Prop) (hown : w.ownsRow base 30 4 v l.length xs) (hx : VC D w l xs) (hv : VL D w m v2) (hD : ∀ k, v.ownBlock = some k → ¬ D k)
    (h63 : l.length + m.length ≤ 1099511627776) (hbase : base ≤ w.heap.size) (ty : TypeId) :
    ∃ v' w' xs', (Builtin.append_ #[22, 22] ty #[v, v2]).run Try.prog w = .ok v' w' ∧ w'.ownsRow base 30 4 v' (l ++ m).length xs' ∧ VC D w' (l ++ m) xs' ∧ Fr (fun k => some k = v.ownBlock) w w' ∧ (∀ k, v'.ownBlock = some k → v.ownBlock = some k ∨ w.heap.size ≤ k) ∧
      ∀ D' : Nat → Prop, (∀ k, D' k → v.ownBlock ≠ some k) → ∀ (l' : List V) (v'' : Value), VL D' w l' v'' → VL D' w' l' v'' := by
  obtain ⟨a, c, us, rfl, -⟩ := id hv
  obtain ⟨-, us', hc, hcell⟩ := hv.cells
  obtain ⟨v', w', hr, ho, hf, hn⟩ := run_appendV (P := Try.prog) w base 22 ty 30 (.agg #[.int .i64 0, .int .i64 0, .string ⟨#[]⟩, .slice none 0 0]) 4 56 Try.underlying22 Try.info_val rfl (by decide) v l.length xs hown a m.length c us' hc.1 (hcell.imp id fun ⟨b, o, e, _, r⟩ => ⟨b, o, e, r⟩) hc.one h63 (by decide) hbase
  refine ⟨v', w', xs ++ us', hr, by rw [List.length_append]; exact ho, (hx.app hc).frame hf (fun k hk e => hD k e.symm hk), hf, hn, fun D' hD' l' v'' h => h.frame hf fun k hk e => hD' k hk e.symm⟩
end Go.Proofs.Ytebanmigaikhhaa
