/- Lists in lists: how great, how deep, and whether right; a text of one sign. -/
import Derived.Test.YteadegaclnibhaaDoorVFlat
import Derived.Test.YteadegaclnibhaaDoorVDeep
namespace Go.Proofs.YteadegaclnibhaaDoor
open Go.RowKit

def nest : Nat → V
  | 0 => .mk 0 3 ⟨#[]⟩ []
  | n + 1 => .mk 4 0 ⟨#[]⟩ [nest n]
theorem nest_size : ∀ n, (nest n).size = n + 1
  | 0 => rfl
  | n + 1 => by
    have := nest_size n
    simp [nest, V.size, sizeL, this, ByteArray.size]
    omega
theorem nest_deep : ∀ n, (nest n).deep = n + 1
  | 0 => rfl
  | n + 1 => by
    have := nest_deep n
    simp [nest, V.deep, deepL, this]
    omega
theorem nest_odd : ∀ n deep sz, sz + n + 1 ≤ 4096 → (deep + n ≤ 40 → (nest n).odd deep sz = (0, sz + n + 1)) ∧ (40 < deep + n → ((nest n).odd deep sz).1 = 112)
  | 0, deep, sz, h => by
    constructor
    · intro hd
      simp [nest, V.odd, oddSize, oddRange, oddShape, oddL, printed, ByteArray.size, show ¬ 40 < deep by omega, show ¬ 4096 < sz + 1 by omega]
    · intro hd
      simp [nest, V.odd, show 40 < deep by omega]
  | n + 1, deep, sz, h => by
    obtain ⟨h1, h2⟩ := nest_odd n (deep + 1) (sz + 1) (by omega)
    by_cases h40 : 40 < deep
    · refine ⟨fun hd => by omega, fun hd => ?_⟩
      simp [nest, V.odd, h40]
    · have e : (nest (n + 1)).odd deep sz = oddL [nest n] (deep + 1) (sz + 1) := by
        simp [nest, V.odd, oddSize, oddRange, oddShape, printed, ByteArray.size, h40, show ¬ 4096 < sz + 1 by omega]
      rw [e]
      simp only [oddL]
      constructor
      · intro hd
        rw [h1 (by omega)]
        simp
        omega
      · intro hd
        have := h2 (by omega)
        rw [if_neg (by rw [this]; decide)]
        exact this
theorem nest_valid (n : Nat) (hn : n < 60) : (nest n).valid = if 40 < n + 1 then 112 else 0 := by
  obtain ⟨h1, h2⟩ := nest_odd n 1 0 (by omega)
  unfold V.valid
  split
  · exact h2 (by omega)
  · rw [h1 (by omega)]
theorem nest_wf_size (n : Nat) (hn : n < 60) : (nest n).size ≤ 1099511627776 := by rw [nest_size]; omega

/-- A text of so many x. -/
def xs (t : Nat) : ByteArray := ⟨(List.replicate t (120 : UInt8)).toArray⟩
theorem xs_size (t : Nat) : (xs t).size = t := by simp [xs, ByteArray.size]
theorem xs_printed (t : Nat) : printed (xs t) = true := by
  unfold printed xs
  rw [List.all_eq_true]
  intro c hc
  simp at hc
  obtain ⟨_, rfl⟩ := hc
  decide
theorem xs_valid (t : Nat) : (V.mk 2 0 (xs t) []).valid = if 4096 < t + 1 then 104 else 0 := by
  by_cases h : 4096 < t + 1
  · simp [V.valid, V.odd, oddSize, xs_size, h, show 4096 < 0 + 1 + t by omega]
  · simp [V.valid, V.odd, oddSize, xs_size, h, oddRange, oddShape, xs_printed, oddL, show ¬ 4096 < 0 + 1 + t by omega]
end Go.Proofs.YteadegaclnibhaaDoor
