/- The law's first: a lone Break may not be. -/
import Derived.Test.YteihmagldhmjgaaDoorTreeJ
import Derived.Test.YteihmagldhmjgaaDoorSeeAt
namespace Go.Proofs.YteihmagldhmjgaaDoor
open Go.RowKit

set_option maxRecDepth 100000 in
set_option maxHeartbeats 1600000 in
theorem tfirst_any (pa : Nat → Addr) (w : World) (hE : Sent17 w pa) (hg : 7 ≤ w.heap.size) : Calls Tryd.prog 9 #[] w fun e w' => e = .returned (.bool true) ∧ Fr (fun _ => False) w w' := by
  have hf := (Fr.refl (fun _ => False) w).alloc (.cells (nU 45 (.slice none 0 0)) 29)
  have hnl := NL.lit1 (D := fun _ => True) (heap_alloc_new w (.cells (nU 45 (.slice none 0 0)) 29)) trivial (nd0_in 45 (NL.nil _ _))
  have HC := hid (tvalid_any pa _ (by show 2 ≤ _; decide) _ _ _ hnl (hE.frame hf) (Nat.le_trans hg hf.size))
  have HF := hid hf
  have hp := pValid_tree [] (by decide) 45 (.inl rfl)
  have HP := hid (show pValid [nd0 45 []] 7 = ⟨103, true, 0⟩ from hp)
  clear hf hnl hp hE hg
  unfold nU at HC HF
  go_enter Tryd.func9, Tryd.ntmps9
  go_wp2_with fail
  refine HC.out.mono ?_
  rintro e w2 ⟨v, rfl, hf2, hv⟩
  rw [HP.out] at hv
  have HF2 := hid (HF.out.trans' hf2)
  obtain ⟨-, ⟨h, -⟩ | ⟨-, -, b, rfl, -⟩⟩ := hv
  · cases h
  clear hf2
  go_wp2_with fail
  go_ret
  exact ⟨rfl, HF2.out⟩

end Go.Proofs.YteihmagldhmjgaaDoor
