/- Contract of inglenookworld.Number: the remainder that is not below 0. -/
import Derived.Test.YtlhbgobjhddhlaaGreatDoorLib
namespace Go.Proofs.YtlhbgobjhddhlaaGreatDoor
open Go.RowKit

theorem tmod_emod (n m : Int) (hm : 0 < m) : (n % m = if n.tmod m < 0 then n.tmod m + m else n.tmod m) ∧ -m < n.tmod m := by
  have h1 := Int.tmod_eq_emod (a := n) (b := m)
  have h2 := Int.emod_nonneg n (show m ≠ 0 by omega)
  have h3 := Int.emod_lt_of_pos n hm
  have hna : (m.natAbs : Int) = m := by omega
  by_cases hd : 0 ≤ n ∨ m ∣ n
  · rw [if_pos hd] at h1
    have h4 : n.tmod m = n % m := by simpa using h1
    rw [h4]
    rw [if_neg (by omega)]
    exact ⟨rfl, by omega⟩
  · rw [if_neg hd, hna] at h1
    have hpos : n % m ≠ 0 := fun e => hd (.inr (Int.dvd_of_emod_eq_zero e))
    rw [h1, if_pos (by omega)]
    exact ⟨by omega, by omega⟩

end Go.Proofs.YtlhbgobjhddhlaaGreatDoor
