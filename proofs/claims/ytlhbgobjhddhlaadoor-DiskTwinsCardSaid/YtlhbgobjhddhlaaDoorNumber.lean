/- Contract of inglenookworld.Number: the remainder that is not below 0. -/
import Derived.Test.YtlhbgobjhddhlaaDoorLib
namespace Go.Proofs.YtlhbgobjhddhlaaDoor
open Go.RowKit

theorem tmod_emod (n m : Int) (hm : 0 < m) : (n % m = if n.tmod m < 0 then n.tmod m + m else n.tmod m) ∧ -m < n.tmod m := by
  have h1 := Int.tmod_eq_emod (a := n) (b := m)
  have h2 := Int.emod_nonneg n (show m ≠ 0 by omega)
  have h3 := Int.emod_lt_of_pos n hm
  have hna : (m.natAbs : Int) = m := by omega
  by_cases hd : 0 ≤ n ∨ m ∣ n
  · rw [if_pos hd] at h1
    have h4 : n.tmod m = n % m := by simpa using h1
    rw [h4]
    rw [if_neg (by omega)]
    exact ⟨rfl, by omega⟩
  · rw [if_neg hd, hna] at h1
    have hpos : n % m ≠ 0 := fun e => hd (.inr (Int.dvd_of_emod_eq_zero e))
    rw [h1, if_pos (by omega)]
    exact ⟨by omega, by omega⟩

theorem number_any (n m : Int) (w : World) (hm : 0 < m) (hm2 : m < 4611686018427387904) (hn1 : -9223372036854775808 ≤ n) (hn2 : n ≤ 9223372036854775807) :
    Calls Tryd.prog 12 #[.int .i64 n, .int .i64 m] w fun e w' => e = .returned (.int .i64 (n % m)) ∧ w = w' := by
  obtain ⟨h1, b2⟩ := tmod_emod n m hm
  have b1 : n.tmod m < m := Int.tmod_lt_of_pos n hm
  have hm0 : (m == 0) = false := by rw [beq_eq_false_iff_ne]; omega
  have hm1 : (m == -1) = false := by rw [beq_eq_false_iff_ne]; omega
  have H1 := hid h1; clear h1
  by_cases h : n.tmod m < 0
  · go_enter Tryd.func12, Tryd.ntmps12
    go_wp2
    go_ret
    exact ⟨ret_int (by rw [H1.out, if_pos h]), rfl⟩
  · go_enter Tryd.func12, Tryd.ntmps12
    go_wp2
    go_ret
    exact ⟨ret_int (by rw [H1.out, if_neg (by omega)]), rfl⟩
end Go.Proofs.YtlhbgobjhddhlaaDoor
