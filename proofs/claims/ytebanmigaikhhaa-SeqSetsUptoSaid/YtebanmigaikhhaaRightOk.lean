/- What a right value is: within the bounds, and each kind with what it may have. -/
import Derived.Test.YtebanmigaikhhaaRefRight
import Derived.Test.YtebanmigaikhhaaVDeep
namespace Go.Proofs.Ytebanmigaikhhaa
open Go.RowKit

mutual
def V.kinded : V → Prop
  | .mk k _ s l => (k ≠ 2 → s.size = 0) ∧ (k ≠ 4 → l = []) ∧ kindedL l
def kindedL : List V → Prop
  | [] => True
  | x :: r => V.kinded x ∧ kindedL r
end
theorem shape_ok {k n : Int} {s : ByteArray} {e : Bool} (h : oddShape k n s e = false) : (k ≠ 2 → s.size = 0) ∧ (k ≠ 4 → e = true) := by
  unfold oddShape at h
  simp only [Bool.or_eq_false_iff, Bool.and_eq_false_iff] at h
  obtain ⟨⟨⟨-, h1⟩, h2⟩, -⟩ := h
  refine ⟨fun hk => ?_, fun hk => ?_⟩
  · rcases h1 with h1 | h1
    · simp at h1; exact absurd h1 hk
    · simpa using h1
  · rcases h2 with h2 | h2
    · simp at h2; exact absurd h2 hk
    · simpa using h2
mutual
theorem V.odd_fine : ∀ (x : V) (deep sz : Nat), (x.odd deep sz).1 = 0 → (x.odd deep sz).2 = sz + x.size ∧ deep + x.deep ≤ 41 ∧ sz + x.size ≤ 4096 ∧ x.kinded
  | .mk k n s l, deep, sz, h => by
    rw [V.odd] at h ⊢
    by_cases h1 : 40 < deep
    · rw [if_pos h1] at h; simp at h
    · rw [if_neg h1] at h ⊢
      by_cases h2 : 4096 < oddSize k s sz
      · rw [if_pos h2] at h; simp at h
      · rw [if_neg h2] at h ⊢
        by_cases h3 : oddRange k n = true
        · rw [if_pos h3] at h; simp at h
        · rw [if_neg h3] at h ⊢
          by_cases h4 : oddShape k n s l.isEmpty = true
          · rw [if_pos h4] at h; simp at h
          · rw [if_neg h4] at h ⊢
            obtain ⟨g1, g2⟩ := shape_ok (Bool.eq_false_iff.2 h4)
            have hsz : oddSize k s sz = sz + 1 + s.size := by
              unfold oddSize
              by_cases hk : k = 2
              · rw [if_pos hk]
              · rw [if_neg hk, g1 hk]
            obtain ⟨f1, f2, f3, f4⟩ := oddL_fine l (deep + 1) (oddSize k s sz) h (by omega) (by omega)
            refine ⟨?_, ?_, ?_, g1, fun hk => by simpa using g2 hk, f4⟩
            · rw [f1, hsz, V.size]; omega
            · rw [V.deep]; omega
            · rw [hsz] at f3; rw [V.size]; omega
theorem oddL_fine : ∀ (l : List V) (deep sz : Nat), (oddL l deep sz).1 = 0 → deep ≤ 41 → sz ≤ 4096 → (oddL l deep sz).2 = sz + sizeL l ∧ deep + deepL l ≤ 41 ∧ sz + sizeL l ≤ 4096 ∧ kindedL l
  | [], deep, sz, h, hd, hs => by simp [oddL, sizeL, deepL, kindedL, hd, hs]
  | x :: r, deep, sz, h, hd, hs => by
    rw [oddL] at h ⊢
    by_cases h1 : (x.odd deep sz).1 = 0
    · rw [if_pos h1] at h ⊢
      obtain ⟨a1, a2, a3, a4⟩ := V.odd_fine x deep sz h1
      obtain ⟨b1, b2, b3, b4⟩ := oddL_fine r deep _ h hd (by rw [a1]; exact a3)
      rw [a1] at b1 b3
      refine ⟨?_, ?_, ?_, a4, b4⟩
      · rw [a1, b1, sizeL]; omega
      · rw [deepL]; omega
      · rw [sizeL]; omega
    · rw [if_neg h1] at h
      exact absurd h h1
end
theorem right_ok {x : V} (h : x.right = true) : x.deep ≤ 40 ∧ x.size ≤ 4096 ∧ x.kinded := by
  have h1 : (x.odd 1 0).1 = 0 := by
    unfold V.right V.valid at h
    simpa using h
  obtain ⟨-, b, c, d⟩ := V.odd_fine x 1 0 h1
  exact ⟨by omega, by omega, d⟩
theorem kindedL_get : ∀ {l : List V}, kindedL l → ∀ {i : Nat} {x : V}, l[i]? = some x → x.kinded
  | [], _, i, x, h => by simp at h
  | y :: r, hw, 0, x, h => by simp at h; subst h; exact hw.1
  | y :: r, hw, i + 1, x, h => kindedL_get hw.2 (by simpa using h)
theorem kindedL_all : ∀ {l : List V}, (∀ x ∈ l, x.kinded) → kindedL l
  | [], _ => trivial
  | y :: r, h => ⟨h y (by simp), kindedL_all fun x hx => h x (List.mem_cons_of_mem _ hx)⟩
theorem kindedL_mem {l : List V} (h : kindedL l) {x : V} (hx : x ∈ l) : x.kinded := by
  obtain ⟨i, hi, rfl⟩ := List.getElem_of_mem hx
  exact kindedL_get h (List.getElem?_eq_getElem hi)
end Go.Proofs.Ytebanmigaikhhaa
