/- A slice of elements of k cells, read as a list. -/
import Derived.Test.YtlhbgobjhddhlaaGreatDoorLib
namespace Go.Proofs.YtlhbgobjhddhlaaGreatDoor
open Go.RowKit

/-- The slice v reads as l: element i's cells are enc of it. -/
def Rk {α : Type} (k : Nat) (enc : α → List Value) (D : Nat → Prop) (w : World) (v : Value) (l : List α) : Prop :=
  ∃ a c, v = .slice a l.length c ∧ l.length ≤ c ∧ c ≤ maxLen ∧ (a = none → c = 0) ∧ ∀ i x, l[i]? = some x → ∃ b o, a = some ⟨b, o, none⟩ ∧ D b ∧ ∀ j u, (enc x)[j]? = some u → w.cell? ⟨b, o + i * k + j, none⟩ = some u
theorem Rk.frame {α : Type} {k : Nat} {enc : α → List Value} {D S : Nat → Prop} {w w' : World} {v : Value} {l : List α} (h : Rk k enc D w v l) (hf : Fr S w w') (hd : ∀ k, D k → ¬ S k) : Rk k enc D w' v l := by
  obtain ⟨a, c, rfl, h1, h2, h3, h4⟩ := h
  refine ⟨a, c, rfl, h1, h2, h3, fun i x hx => ?_⟩
  obtain ⟨b, o, e, hD, hc⟩ := h4 i x hx
  exact ⟨b, o, e, hD, fun j u hj => hf.cell (hc j u hj) (hd _ hD)⟩
theorem Rk.mono {α : Type} {k : Nat} {enc : α → List Value} {D E : Nat → Prop} {w : World} {v : Value} {l : List α} (h : Rk k enc D w v l) (hd : ∀ k, D k → E k) : Rk k enc E w v l := by
  obtain ⟨a, c, rfl, h1, h2, h3, h4⟩ := h
  refine ⟨a, c, rfl, h1, h2, h3, fun i x hx => ?_⟩
  obtain ⟨b, o, e, hD, hc⟩ := h4 i x hx
  exact ⟨b, o, e, hd _ hD, hc⟩
/-- An owned row of elements of k cells reads as what it was made of. -/
theorem Rk.own {α : Type} {k e base : Nat} {enc : α → List Value} (hk : ∀ x, (enc x).length = k) {w : World} {v : Value} {l : List α} (h : w.ownsRow base e k v l.length (l.flatMap enc)) : Rk k enc (fun b => v.ownBlock = some b) w v l := by
  rcases h.2 with ⟨rfl, h0⟩ | ⟨g, cap, cur, rfl, _, hg, h1, h2, _, ht⟩
  · have hl : l = [] := List.eq_nil_of_length_eq_zero h0
    subst hl
    exact ⟨none, 0, rfl, Nat.le_refl _, Nat.zero_le _, fun _ => rfl, fun i x hx => by simp at hx⟩
  · refine ⟨_, _, rfl, h1, h2, (fun h => by cases h), fun i x hx => ⟨g, 0, rfl, rfl, fun j u hj => ?_⟩⟩
    have hil := (List.getElem?_eq_some_iff.1 hx).1
    have hjl : j < k := by have := (List.getElem?_eq_some_iff.1 hj).1; rwa [hk] at this
    have hm : i * k + j < l.length * k := by
      have := Nat.mul_le_mul_right k (show i + 1 ≤ l.length from hil)
      rw [Nat.add_mul, Nat.one_mul] at this
      omega
    rw [Nat.zero_add, cell_of_row w g (i * k + j) cur e (0, 0) hg]
    have h3 : (cur.toList.take (l.length * k))[i * k + j]? = (l.flatMap enc)[i * k + j]? := by rw [ht]
    rw [List.getElem?_take, if_pos hm] at h3
    simp only [Array.getElem?_toList] at h3
    rw [h3]
    have key : ∀ (l : List α) (i : Nat), l[i]? = some x → (l.flatMap enc)[i * k + j]? = some u := by
      intro l
      induction l with
      | nil => intro i hx; simp at hx
      | cons y r ih =>
        intro i hx
        rw [List.flatMap_cons]
        cases i with
        | zero =>
          simp at hx
          subst hx
          rw [List.getElem?_append_left (by rw [hk]; omega), Nat.zero_mul, Nat.zero_add]
          exact hj
        | succ i =>
          rw [List.getElem?_append_right (by rw [hk, Nat.add_mul]; omega), ← ih i (by simpa using hx)]
          congr 1
          rw [hk, Nat.add_mul]
          omega
    exact key l i hx
end Go.Proofs.YtlhbgobjhddhlaaGreatDoor
