/- A row that a value owns from some place on (a slice that was resliced from the front); one element appended to it. -/
import Derived.Test.YtlfiljebfnejbaaDoorLib
import Derived.Deep.AppendSrc
namespace Go.Proofs.YtlfiljebfnejbaaDoor
open Go.RowKit

/-- Value v owns n elements of one cell each, xs, in a block from base on, from some place of it on. -/
def OwnO (base e : Nat) (w : World) (v : Value) (n : Nat) (xs : List Value) : Prop :=
  xs.length = n ∧ ((v = .slice none 0 0 ∧ n = 0) ∨ ∃ g off cap cur, v = .slice (some ⟨g, off, none⟩) n cap ∧ base ≤ g ∧ w.heap[g]? = some (.cells cur e (0, 0)) ∧ n ≤ cap ∧ cap ≤ maxLen ∧ off + cap ≤ cur.size ∧ (cur.toList.drop off).take n = xs)
theorem OwnO.nil (base e : Nat) (w : World) : OwnO base e w (.slice none 0 0) 0 [] := ⟨rfl, .inl ⟨rfl, rfl⟩⟩
theorem OwnO.frame {base e n : Nat} {w w' : World} {v : Value} {xs : List Value} {S : Nat → Prop} (h : OwnO base e w v n xs) (hf : Fr S w w') (hS : ∀ k, v.ownBlock = some k → ¬ S k) : OwnO base e w' v n xs := by
  refine ⟨h.1, ?_⟩
  rcases h.2 with hn | ⟨g, off, cap, cur, rfl, hb, hg, r⟩
  · exact .inl hn
  · exact .inr ⟨g, off, cap, cur, rfl, hb, hf.heap hg (hS g rfl), r⟩
theorem OwnO.lt {base e n : Nat} {w : World} {v : Value} {xs : List Value} (h : OwnO base e w v n xs) : ∀ k, v.ownBlock = some k → base ≤ k ∧ k < w.heap.size := by
  intro k hk
  rcases h.2 with ⟨rfl, _⟩ | ⟨g, off, cap, cur, rfl, hb, hg, r⟩
  · cases hk
  · simp only [Value.ownBlock, Option.some.injEq] at hk
    subst hk
    exact ⟨hb, heap_lt hg⟩
theorem OwnO.ne_cells {base e n e2 B : Nat} {w : World} {v : Value} {xs : List Value} {c : Array Value} {fz : Nat × Nat} (h : OwnO base e w v n xs) (h2 : w.heap[B]? = some (.cells c e2 fz)) (he : e ≠ e2) : ∀ k, v.ownBlock = some k → k ≠ B := by
  intro k hk hkB
  rcases h.2 with ⟨rfl, _⟩ | ⟨g, off, cap, cur, rfl, hb, hg, r⟩
  · cases hk
  · simp only [Value.ownBlock, Option.some.injEq] at hk
    subst hk
    subst hkB
    rw [hg] at h2
    simp only [Option.some.injEq, Obj.cells.injEq] at h2
    exact he h2.2.1
theorem OwnO.shape {base e n : Nat} {w : World} {v : Value} {xs : List Value} (h : OwnO base e w v n xs) : ∃ a c, v = .slice a n c ∧ n ≤ c ∧ c ≤ maxLen ∧ (a = none → c = 0 ∧ n = 0) ∧ ∀ j, j < n → ∃ b o, a = some ⟨b, o, none⟩ ∧ w.cell? ⟨b, o + j, none⟩ = xs[j]? := by
  rcases h.2 with ⟨rfl, rfl⟩ | ⟨g, off, cap, cur, rfl, hb, hg, h1, h2, h3, ht⟩
  · exact ⟨none, 0, rfl, Nat.le_refl _, by simp [maxLen], fun _ => ⟨rfl, rfl⟩, fun j hj => by omega⟩
  · refine ⟨_, cap, rfl, h1, h2, (fun h => by cases h), fun j hj => ⟨g, off, rfl, ?_⟩⟩
    rw [cell_of_row _ _ _ _ _ _ hg, ← ht, List.getElem?_take, if_pos hj, List.getElem?_drop]
    simp
/-- v[1:], where there is one. -/
theorem OwnO.tail {base e n : Nat} {w : World} {a a' : Option Addr} {c : Nat} {x : Value} {xs : List Value} (h : OwnO base e w (.slice a (n + 1) c) (n + 1) (x :: xs)) (ha : a' = if c = 1 then a else a.map fun p => p.add 1) : OwnO base e w (.slice a' n (c - 1)) n xs := by
  refine ⟨by have := h.1; simpa using this, ?_⟩
  rcases h.2 with ⟨h1, h2⟩ | ⟨g, off, cap, cur, hv, hb, hg, h1, h2, h3, ht⟩
  · omega
  · simp only [Value.slice.injEq] at hv
    obtain ⟨rfl, _, rfl⟩ := hv
    right
    have htl : (cur.toList.drop (off + 1)).take n = xs := by
      have : (cur.toList.drop off).take (n + 1) = x :: xs := ht
      cases hd : cur.toList.drop off with
      | nil => rw [hd] at this; simp at this
      | cons y ys =>
        rw [hd] at this
        simp only [List.take_succ_cons, List.cons.injEq] at this
        rw [← List.drop_drop, hd]
        simpa using this.2
    by_cases hc : c = 1
    · subst hc
      rw [if_pos rfl] at ha
      have hn0 : n = 0 := by omega
      subst hn0
      exact ⟨g, off, 0, cur, by rw [ha], hb, hg, by omega, by omega, by omega, by simpa using htl⟩
    · rw [if_neg hc] at ha
      refine ⟨g, off + 1, c - 1, cur, ?_, hb, hg, by omega, by omega, by omega, htl⟩
      rw [ha]
      simp only [Option.map_some]
      congr 2

theorem info_parts' {P : Program} {e : TypeId} {z : Value} {n b : Nat} (h : (P.info? e).map (fun i => (i.zero, i.size, i.bytes)) = some (some z, n, b)) : ∃ i, P.info? e = some i ∧ i.zero = some z ∧ i.size = n ∧ i.bytes = b := info_parts h
/-- One element appended: it lies in a cell at 'ad'. -/
theorem wp_append1O {P : Program} {o : Oper} {a : Act} {w : World} {K : Act → World → Prop} {Q : Exit → Act → World → Prop} (s x : Operand) (t : TypeId)
    (ho : o.op = .call { callee := .builtin .append, args := #[s, x], argTypes := #[t, t] })
    (e : TypeId) (z : Value) (bytes : Nat) (ht : P.underlying t = some (.slice e)) (hrow : (P.info? e).map (fun i => (i.zero, i.size, i.bytes)) = some (some z, 1, bytes)) (hzs : z.cells.size = 1)
    (v : Value) (hs : a.eval s = v) (base n : Nat) (xs : List Value) (hown : OwnO base e w v n xs)
    (g0 c : Nat) (u : Value) (hx : a.eval x = .slice (some ⟨g0, 0, none⟩) 1 c) (hu : w.cell? ⟨g0, 0, none⟩ = some u) (h1 : u.oneCell' = true)
    (h63 : n + 1 ≤ 1099511627776) (hby : bytes ≤ 64) (hbase : base ≤ w.heap.size)
    (h : ∀ v' w', OwnO base e w' v' (n + 1) (xs ++ [u]) → Fr (fun k => some k = v.ownBlock) w w' → (v'.ownBlock = v.ownBlock ∨ ∃ k, v'.ownBlock = some k ∧ w.heap.size ≤ k) → K (a.put o.dst v') w') : o.wp P a w K Q := by
  obtain ⟨i, hi, hz, hsz, hbt⟩ := info_parts hrow
  have hb2 : (n + 1) * bytes ≤ 140737488355328 := by
    have := Nat.mul_le_mul h63 hby
    omega
  have hcells : ∀ j y, [u][j]? = some y → w.cell? ((⟨g0, 0, none⟩ : Addr).add j) = some y := by
    intro j y hy
    have : j = 0 := by
      have := (List.getElem?_eq_some_iff.1 hy).1
      simpa using this
    subst this
    simp at hy
    subst hy
    simpa [Addr.add] using hu
  have hmx : n + 1 ≤ maxLen := by unfold maxLen; omega
  have hsrc : Src P i.size t (.slice (some ⟨g0, 0, none⟩) 1 c) 1 [u] w := Src.ofSlice w ht ⟨g0, 0, none⟩ 1 c [u] (by simp [hsz]) hcells (by intro y hy; simp at hy; subst hy; exact h1)
  have key : ∃ v' w', (Builtin.append_ #[t, t] o.type #[v, .slice (some ⟨g0, 0, none⟩) 1 c]).run P w = .ok v' w' ∧ OwnO base e w' v' (n + 1) (xs ++ [u]) ∧ Fr (fun k => some k = v.ownBlock) w w' ∧ (v'.ownBlock = v.ownBlock ∨ ∃ k, v'.ownBlock = some k ∧ w.heap.size ≤ k) := by
    have fresh : ∀ olds : List Value, olds = xs → ∀ capn, n + 1 ≤ capn → capn ≤ maxLen → OwnO base e (w.drew.alloc (.cells ((olds ++ [u]).toArray ++ Builtin.zeroCells z.cells (capn - (n + 1))) e)) (.slice (some ⟨w.heap.size, 0, none⟩) (n + 1) capn) (n + 1) (xs ++ [u]) := by
      intro olds ho capn h1 h2
      subst ho
      refine ⟨by simp [hown.1], .inr ⟨w.heap.size, 0, capn, _, rfl, hbase, heap_alloc_new w.drew _, h1, h2, ?_, ?_⟩⟩
      · simp [Builtin.zeroCells, hown.1, hzs]
        omega
      · simp only [Nat.zero_add, List.drop_zero, Array.toList_append, List.append_assoc]
        have hl := hown.1
        rw [List.take_append, List.take_of_length_le (by omega), hl, show n + 1 - n = 1 by omega]
        simp
    rcases hown.2 with ⟨rfl, rfl⟩ | ⟨g, off, cap, cur, rfl, hb, hg, hnc, hcm, hcs, htk⟩
    · have e1 := run_append_nil (P := P) w t o.type e i z ht hi hz ⟨g0, 0, none⟩ 1 c [u] (by simp [hsz]) hcells (by decide) (by decide) (by simp [hbt]; omega)
      have hx0 : xs = [] := List.eq_nil_of_length_eq_zero hown.1
      refine ⟨_, _, e1, ?_, ((Fr.refl _ w).drew).alloc _, .inr ⟨w.heap.size, rfl, Nat.le_refl _⟩⟩
      have := fresh [] hx0.symm (grownCap w 1 0 e) (by simpa using grownCap_ge w 1 0 e) (grownCap_le_maxLen w 1 0 e (by simp [maxLen]))
      simpa using this
    · by_cases hroom : n + 1 ≤ cap
      · have hlt : off + n * i.size < cur.size := by rw [hsz]; omega
        have hcell : w.cell? ⟨g, off + n, none⟩ = some cur[off + n] := by rw [cell_of_row _ _ _ _ _ _ hg]; simp [show off + n < cur.size by omega]
        have e1 := run_append_room_src (P := P) w t t o.type e i ht hi g off n cap _ 1 [u] hsrc hroom (fun j hj => by
          have : j = 0 := by simpa using hj
          subst this
          rw [hsz, Nat.mul_one, Nat.add_zero, hcell]; rfl) (fun j hj => frozen_of_row _ _ _ _ _ hg)
        refine ⟨_, _, e1, ⟨by simp [hown.1], .inr ⟨g, off, cap, cur.setIfInBounds (off + n) u, rfl, hb, ?_, hroom, hcm, by simpa using hcs, ?_⟩⟩, ?_, .inl rfl⟩
        · have := setCell_row (off + n) u hg
          simpa [World.setCells, hsz] using this
        · rw [Array.toList_setIfInBounds, List.drop_set, if_neg (by omega), show off + n - off = n by omega, List.take_set, List.take_add_one, htk]
          have hd : (cur.toList.drop off)[n]? = some cur[off + n] := by rw [List.getElem?_drop]; simp [show off + n < cur.size by omega]
          rw [hd]
          simp only [Option.toList_some]
          rw [List.set_append_right _ _ (by rw [hown.1]; omega), hown.1, Nat.sub_self]
          rfl
        · have := (Fr.refl (fun k => some k = (Value.slice (some ⟨g, off, none⟩) n cap).ownBlock) w).setCell (p := ⟨g, off + n, none⟩) (.inl rfl) u
          simpa [World.setCells, hsz] using this
      · have holds : ∀ j y, xs[j]? = some y → w.cell? ((⟨g, off, none⟩ : Addr).add j) = some y := by
          intro j y hy
          have hj : j < n := by have := (List.getElem?_eq_some_iff.1 hy).1; rw [hown.1] at this; exact this
          have hadd : (⟨g, off, none⟩ : Addr).add j = ⟨g, off + j, none⟩ := by unfold Addr.add; split <;> simp_all
          rw [hadd, cell_of_row _ _ _ _ _ _ hg]
          rw [← htk, List.getElem?_take, if_pos hj, List.getElem?_drop] at hy
          simpa using hy
        have e1 := run_append_grow (P := P) w t o.type e i z ht hi hz ⟨g, off, none⟩ n cap xs (by rw [hsz, hown.1, Nat.mul_one]) holds ⟨g0, 0, none⟩ 1 c [u] (by simp [hsz]) hcells (by omega) (by unfold maxLen at hmx; omega) (growslice_fits (by omega) (by rw [hbt]; exact hb2))
        refine ⟨_, _, e1, ?_, ((Fr.refl _ w).drew).alloc _, .inr ⟨w.heap.size, rfl, Nat.le_refl _⟩⟩
        have := fresh xs rfl (grownCap w (n + 1) cap e) (grownCap_ge w (n + 1) cap e) (grownCap_le_maxLen w (n + 1) cap e hmx)
        simpa using this
  obtain ⟨v', w', hr, ho', hg, hw⟩ := key
  unfold Oper.wp execOp
  simp only [ho, resolve, invoke, builtin, Sem.run_bind, Sem.run_pure, Result.andThen_ok, List.map_toArray, List.map_cons, List.map_nil, hs, hx, hr]
  exact h v' w' ho' hg hw
end Go.Proofs.YtlfiljebfnejbaaDoor
