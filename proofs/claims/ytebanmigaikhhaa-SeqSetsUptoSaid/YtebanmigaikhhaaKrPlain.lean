/- Right values have kinds from 0 to 4. -/
import Derived.Test.YtebanmigaikhhaaValCmp
import Derived.Test.YtebanmigaikhhaaRightOk
namespace Go.Proofs.Ytebanmigaikhhaa
open Go.RowKit

mutual
theorem odd_kr : ∀ (x : V) (deep sz : Nat), (x.odd deep sz).1 = 0 → x.kr
  | .mk k n s l, deep, sz, h => by
    rw [V.odd] at h
    by_cases h1 : 40 < deep
    · rw [if_pos h1] at h; simp at h
    · rw [if_neg h1] at h
      by_cases h2 : 4096 < oddSize k s sz
      · rw [if_pos h2] at h; simp at h
      · rw [if_neg h2] at h
        by_cases h3 : oddRange k n = true
        · rw [if_pos h3] at h; simp at h
        · rw [if_neg h3] at h
          by_cases h4 : oddShape k n s l.isEmpty = true
          · rw [if_pos h4] at h; simp at h
          · rw [if_neg h4] at h
            have h5 : 0 ≤ k ∧ k ≤ 4 := by
              unfold oddRange at h3
              simp at h3
              omega
            exact ⟨h5.1, h5.2, oddL_kr l _ _ h⟩
theorem oddL_kr : ∀ (l : List V) (deep sz : Nat), (oddL l deep sz).1 = 0 → krL l
  | [], _, _, _ => trivial
  | x :: r, deep, sz, h => by
    rw [oddL] at h
    by_cases h1 : (x.odd deep sz).1 = 0
    · rw [if_pos h1] at h
      exact ⟨odd_kr x _ _ h1, oddL_kr r _ _ h⟩
    · rw [if_neg h1] at h
      exact absurd h h1
end
theorem right_kr {x : V} (h : x.right = true) : x.kr := by
  have h1 : (x.odd 1 0).1 = 0 := by
    unfold V.right V.valid at h
    simpa using h
  exact odd_kr x 1 0 h1
end Go.Proofs.Ytebanmigaikhhaa
