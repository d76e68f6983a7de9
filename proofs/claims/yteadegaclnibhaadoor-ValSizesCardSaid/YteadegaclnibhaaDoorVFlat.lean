/- val.Valid of what has no items. -/
import Derived.Test.YteadegaclnibhaaDoorVValid
import Derived.Test.YteadegaclnibhaaDoorVSmall
namespace Go.Proofs.YteadegaclnibhaaDoor
open Go.RowKit

theorem flat_int (n : Int) : (V.mk 0 n ⟨#[]⟩ []).valid = 0 := by simp [V.valid, V.odd, oddSize, oddRange, oddShape, oddL, printed, ByteArray.size]
theorem flat_obj (n : Int) : (V.mk 1 n ⟨#[]⟩ []).valid = if decide (-2147483648 ≤ n) && decide (n ≤ 2147483647) then 0 else 105 := by
  by_cases h1 : n < -2147483648
  · simp [V.valid, V.odd, oddSize, oddRange, h1, show ¬ -2147483648 ≤ n by omega]
  by_cases h2 : 2147483647 < n
  · simp [V.valid, V.odd, oddSize, oddRange, h2, show ¬ n ≤ 2147483647 by omega]
  simp [V.valid, V.odd, oddSize, oddRange, oddShape, oddL, printed, ByteArray.size, h1, h2, show -2147483648 ≤ n by omega, show n ≤ 2147483647 by omega]
theorem flat_err (n : Int) : (V.mk 3 n ⟨#[]⟩ []).valid = if decide (0 ≤ n) && decide (n ≤ 14) then 0 else 105 := by
  by_cases h1 : n < 0
  · simp [V.valid, V.odd, oddSize, oddRange, h1, show ¬ 0 ≤ n by omega]
  by_cases h2 : 14 < n
  · simp [V.valid, V.odd, oddSize, oddRange, h2, show ¬ n ≤ 14 by omega]
  simp [V.valid, V.odd, oddSize, oddRange, oddShape, oddL, printed, ByteArray.size, h1, h2, show 0 ≤ n by omega, show n ≤ 14 by omega]
theorem flat_str (s : ByteArray) (hs : s.size ≤ 4095) : (V.mk 2 0 s []).valid = if printed s then 0 else 103 := by
  cases h : printed s <;> simp [V.valid, V.odd, oddSize, oddRange, oddShape, oddL, h, show ¬ 4096 < 0 + 1 + s.size by omega]
section
variable (eD eM eR eS : Value) (tR tS : TypeId) (vR vS : Value) (i1 : IsErr eD) (i2 : IsErr eM) (i3 : eR = .iface tR vR) (i4 : eS = .iface tS vS) (w : World) (hE : Errs w eD eM eR eS) (h4 : 4 ≤ w.heap.size)
include i1 i2 i3 i4 hE h4
theorem validI_any (n : Int) : Calls Tryd.prog 8 #[.agg #[.int .i64 0, .int .i64 n, .string ⟨#[]⟩, .slice none 0 0]] w fun e w' => e = .returned .nilIface ∧ Fr (fun _ => False) w w' := by
  refine (vvalid_any eD eM eR eS i1 i2 ⟨_, _, i3⟩ ⟨_, _, i4⟩ _ (by simp [V.size, sizeL, ByteArray.size]) (fun _ => True) w _ ((VL.nil _ _).close 0 n ⟨#[]⟩) hE h4).mono fun e w' h => ⟨?_, h.2⟩
  rw [h.1, flat_int]
  rfl
theorem validO_any (n : Int) : Calls Tryd.prog 8 #[.agg #[.int .i64 1, .int .i64 n, .string ⟨#[]⟩, .slice none 0 0]] w fun e w' => e = .returned (cond (decide (-2147483648 ≤ n) && decide (n ≤ 2147483647)) .nilIface (.iface tR vR)) ∧ Fr (fun _ => False) w w' := by
  refine (vvalid_any eD eM eR eS i1 i2 ⟨_, _, i3⟩ ⟨_, _, i4⟩ _ (by simp [V.size, sizeL, ByteArray.size]) (fun _ => True) w _ ((VL.nil _ _).close 1 n ⟨#[]⟩) hE h4).mono fun e w' h => ⟨?_, h.2⟩
  rw [h.1, flat_obj]
  cases (decide (-2147483648 ≤ n) && decide (n ≤ 2147483647)) <;> simp [ev, i3]
theorem validE_any (n : Int) : Calls Tryd.prog 8 #[.agg #[.int .i64 3, .int .i64 n, .string ⟨#[]⟩, .slice none 0 0]] w fun e w' => e = .returned (cond (decide (0 ≤ n) && decide (n ≤ 14)) .nilIface (.iface tR vR)) ∧ Fr (fun _ => False) w w' := by
  refine (vvalid_any eD eM eR eS i1 i2 ⟨_, _, i3⟩ ⟨_, _, i4⟩ _ (by simp [V.size, sizeL, ByteArray.size]) (fun _ => True) w _ ((VL.nil _ _).close 3 n ⟨#[]⟩) hE h4).mono fun e w' h => ⟨?_, h.2⟩
  rw [h.1, flat_err]
  cases (decide (0 ≤ n) && decide (n ≤ 14)) <;> simp [ev, i3]
theorem validS_any (s : ByteArray) (hs : s.size ≤ 200) : Calls Tryd.prog 8 #[.agg #[.int .i64 2, .int .i64 0, .string s, .slice none 0 0]] w fun e w' => e = .returned (cond (printed s) .nilIface (.iface tS vS)) ∧ Fr (fun _ => False) w w' := by
  refine (vvalid_any eD eM eR eS i1 i2 ⟨_, _, i3⟩ ⟨_, _, i4⟩ _ (by simp [V.size, sizeL]; omega) (fun _ => True) w _ ((VL.nil _ _).close 2 0 s) hE h4).mono fun e w' h => ⟨?_, h.2⟩
  rw [h.1, flat_str s (by omega)]
  cases printed s <;> simp [ev, i4]
end
end Go.Proofs.YteadegaclnibhaaDoor
