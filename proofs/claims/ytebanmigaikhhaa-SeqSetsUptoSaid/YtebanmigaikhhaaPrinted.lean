/- inglenookref1.Printed: all bytes are of 32 to 126. -/
import Derived.Test.YtebanmigaikhhaaLib
namespace Go.Proofs.Ytebanmigaikhhaa
open Go.RowKit

/-- All bytes are printable. -/
def printed (s : ByteArray) : Bool := s.data.toList.all fun c => decide (32 ≤ c.toNat) && decide (c.toNat ≤ 126)
theorem printed_true {s : ByteArray} (h : ∀ k, k < s.size → 32 ≤ (s.data.toList.getD k 0).toNat ∧ (s.data.toList.getD k 0).toNat ≤ 126) : printed s = true := by
  unfold printed
  rw [List.all_eq_true]
  intro c hc
  obtain ⟨k, hk, rfl⟩ := List.getElem_of_mem hc
  have := h k (by simpa using hk)
  simp only [List.getD, List.getElem?_eq_getElem hk, Option.getD_some] at this
  simp only [this, decide_true, Bool.and_self]
theorem printed_false {s : ByteArray} (k : Nat) (hk : k < s.size) (h : ¬ (32 ≤ (s.data.toList.getD k 0).toNat ∧ (s.data.toList.getD k 0).toNat ≤ 126)) : printed s = false := by
  unfold printed
  rw [List.all_eq_false]
  have hk' : k < s.data.toList.length := by simpa using hk
  refine ⟨_, List.getElem_mem hk', ?_⟩
  simp only [List.getD, List.getElem?_eq_getElem hk', Option.getD_some] at h
  simpa using h

theorem all_step {p : Nat → Prop} {k : Nat} (h : ∀ j, j < k → p j) (hk : p k) : ∀ j, j < k + 1 → p j := fun j hj => by
  rcases Nat.lt_succ_iff_lt_or_eq.1 hj with h1 | rfl
  · exact h j h1
  · exact hk

set_option maxHeartbeats 800000 in
theorem printed_any (s : ByteArray) (hs : s.size ≤ 1099511627776) (w : World) : Calls Try.prog 65 #[.string s] w fun e w' => e = .returned (.bool (printed s)) ∧ w = w' := by
  go_enter Try.func65, Try.ntmps65
  go_wp2
  go_loopw [3] (fun i wr => ∃ k : Nat, k ≤ s.size ∧ i = .int .i64 k ∧ w = wr ∧ ∀ j, j < k → 32 ≤ (s.data.toList.getD j 0).toNat ∧ (s.data.toList.getD j 0).toNat ≤ 126) (fun i _ => s.size - (intOf i).toNat)
  case atStart => exact ⟨0, Nat.zero_le _, rfl, rfl, fun j hj => by omega⟩
  case round =>
    obtain ⟨k, hk, rfl, rfl, hall⟩ := hrel
    by_cases hlt : k < s.size
    · have hbk : (s.data.toList.getD k 0).toNat = s[k].toNat := by
        have : k < s.data.toList.length := by simpa using hlt
        simp [List.getD, hlt]; rfl
      go_wp2_with fail
      all_goals first
        | (go_ret; exact ⟨congrArg (fun b => Ending.returned (.bool b)) (printed_false k hlt (by omega)).symm, rfl⟩)
        | exact ⟨⟨k + 1, by omega, by go_num, trivial, all_step hall (by omega)⟩, by simp [intOf]; omega⟩
        | (go_roundw <;> first | exact ⟨k + 1, by omega, by go_num, rfl, all_step hall (by omega)⟩ | (simp [intOf]; omega))
    · go_wp2
      go_ret
      exact ⟨congrArg (fun b => Ending.returned (.bool b)) (printed_true fun j hj => hall j (by omega)).symm, rfl⟩
end Go.Proofs.Ytebanmigaikhhaa
