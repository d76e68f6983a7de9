/- val.Printable: all bytes are of 32 to 126. -/
import Derived.Test.YteihmagldhmjgaaDoorPrinted
namespace Go.Proofs.YteihmagldhmjgaaDoor
open Go.RowKit

set_option maxHeartbeats 800000 in
theorem vprintable_any (s : ByteArray) (hs : s.size ≤ 1099511627776) (w : World) : Calls Tryd.prog 115 #[.string s] w fun e w' => e = .returned (.bool (printed s)) ∧ w = w' := by
  go_enter Tryd.func115, Tryd.ntmps115
  go_wp2
  go_loopw [6] (fun i wr => ∃ k : Nat, k ≤ s.size ∧ i = .int .i64 k ∧ w = wr ∧ ∀ j, j < k → 32 ≤ (s.data.toList.getD j 0).toNat ∧ (s.data.toList.getD j 0).toNat ≤ 126) (fun i _ => s.size - (intOf i).toNat)
  case atStart => exact ⟨0, Nat.zero_le _, rfl, rfl, fun j hj => by omega⟩
  case round =>
    obtain ⟨k, hk, rfl, rfl, hall⟩ := hrel
    by_cases hlt : k < s.size
    · have hbk : (s.data.toList.getD k 0).toNat = s[k].toNat := by
        have : k < s.data.toList.length := by simpa using hlt
        simp [List.getD, hlt]; rfl
      go_wp2_with fail
      all_goals first
        | (go_ret; exact ⟨congrArg (fun b => Ending.returned (.bool b)) (printed_false k hlt (by omega)).symm, rfl⟩)
        | exact ⟨⟨k + 1, by omega, by go_num, trivial, all_step hall (by omega)⟩, by simp [intOf]; omega⟩
        | (go_roundw <;> first | exact ⟨k + 1, by omega, by go_num, rfl, all_step hall (by omega)⟩ | (simp [intOf]; omega))
    · go_wp2
      go_ret
      exact ⟨congrArg (fun b => Ending.returned (.bool b)) (printed_true fun j hj => hall j (by omega)).symm, rfl⟩
end Go.Proofs.YteihmagldhmjgaaDoor
