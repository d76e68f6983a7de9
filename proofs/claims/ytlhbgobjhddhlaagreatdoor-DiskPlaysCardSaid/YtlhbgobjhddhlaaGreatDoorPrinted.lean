/- inglenookref1.Printed: all bytes are of 32 to 126. -/
import Derived.Test.YtlhbgobjhddhlaaGreatDoorLib
namespace Go.Proofs.YtlhbgobjhddhlaaGreatDoor
open Go.RowKit

/-- All bytes are printable. -/
def printed (s : ByteArray) : Bool := s.data.toList.all fun c => decide (32 ≤ c.toNat) && decide (c.toNat ≤ 126)
theorem printed_true {s : ByteArray} (h : ∀ k, k < s.size → 32 ≤ (s.data.toList.getD k 0).toNat ∧ (s.data.toList.getD k 0).toNat ≤ 126) : printed s = true := by
  unfold printed
  rw [List.all_eq_true]
  intro c hc
  obtain ⟨k, hk, rfl⟩ := List.getElem_of_mem hc
  have := h k (by simpa using hk)
  simp only [List.getD, List.getElem?_eq_getElem hk, Option.getD_some] at this
  simp only [this, decide_true, Bool.and_self]
theorem printed_false {s : ByteArray} (k : Nat) (hk : k < s.size) (h : ¬ (32 ≤ (s.data.toList.getD k 0).toNat ∧ (s.data.toList.getD k 0).toNat ≤ 126)) : printed s = false := by
  unfold printed
  rw [List.all_eq_false]
  have hk' : k < s.data.toList.length := by simpa using hk
  refine ⟨_, List.getElem_mem hk', ?_⟩
  simp only [List.getD, List.getElem?_eq_getElem hk', Option.getD_some] at h
  simpa using h

theorem all_step {p : Nat → Prop} {k : Nat} (h : ∀ j, j < k → p j) (hk : p k) : ∀ j, j < k + 1 → p j := fun j hj => by
  rcases Nat.lt_succ_iff_lt_or_eq.1 hj with h1 | rfl
  · exact h j h1
  · exact hk

end Go.Proofs.YtlhbgobjhddhlaaGreatDoor
