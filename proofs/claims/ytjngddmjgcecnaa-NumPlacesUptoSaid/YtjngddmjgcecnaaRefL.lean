/- inglenookref1.L. -/
import Derived.Test.YtjngddmjgcecnaaRefValue
namespace Go.Proofs.Ytjngddmjgcecnaa
open Go.RowKit

set_option maxHeartbeats 1600000 in
theorem rL_any (l : List V) (hM : sizeL l ≤ 1099511627776) (D : Nat → Prop) (w : World) (v : Value) (h : VL D w l v) :
    Calls Try.prog 12 #[v] w fun e w' => ∃ u', e = .returned (.agg u') ∧ Fr (fun _ => False) w w' ∧ VIn (fun b => w.heap.size ≤ b ∧ Soft w' b) w' (.mk 4 0 ⟨#[]⟩ l) u' := by
  have hcall := rvalues_of (sizeL l) (rvalue_any (sizeL l)) l (Nat.le_refl _) hM D
  obtain ⟨a, cap, us, rfl, -⟩ := id h
  have hb2 : (w.alloc (.cells #[.int .i64 0, .int .i64 0, .string ⟨#[]⟩, .slice none 0 0] 24)).heap[w.heap.size]? = some (.cells #[.int .i64 0, .int .i64 0, .string ⟨#[]⟩, .slice none 0 0] 24) := heap_alloc_new w _
  have hF : Fr (fun _ => False) w (w.alloc (.cells #[.int .i64 0, .int .i64 0, .string ⟨#[]⟩, .slice none 0 0] 24)) := (Fr.refl _ _).alloc _
  have hsz : (w.alloc (.cells #[.int .i64 0, .int .i64 0, .string ⟨#[]⟩, .slice none 0 0] 24)).heap.size = w.heap.size + 1 := by simp
  have H2 := hid hb2; have HF := hid hF; have HZ := hid hsz; have HC := hid hcall; have HH := hid h
  clear hb2 hF hsz hcall h
  go_enter Try.func12, Try.ntmps12
  go_wp2_with fail
  refine (HC.out _ _ (HH.out.frame HF.out fun _ _ => id)).mono ?_
  rintro e w2 ⟨v', rfl, hf2, hv'⟩
  obtain ⟨a9, c9, us9, rfl, hv9⟩ := id hv'
  clear hv9
  have hb2 := hf2.heap H2.out not_false
  have e0 : w2.cell? ⟨w.heap.size, 0, none⟩ = some (.int .i64 0) := by rw [cell_of_row w2 _ 0 _ _ _ hb2]; rfl
  have e1 : w2.cell? ⟨w.heap.size, 1, none⟩ = some (.int .i64 0) := by rw [cell_of_row w2 _ 1 _ _ _ hb2]; rfl
  have e2 : w2.cell? ⟨w.heap.size, 2, none⟩ = some (.string ⟨#[]⟩) := by rw [cell_of_row w2 _ 2 _ _ _ hb2]; rfl
  have e3 : w2.cell? ⟨w.heap.size, 3, none⟩ = some (.slice none 0 0) := by rw [cell_of_row w2 _ 3 _ _ _ hb2]; rfl
  have F2 : ∀ i, w2.frozen? ⟨w.heap.size, i, none⟩ = false := fun i => frozen_of_row w2 _ i _ _ hb2
  have HB2 := hid hb2; have HV := hid hv'; have HW := hid (HF.out.trans' hf2)
  clear hb2 hv' hf2
  go_wp2
  have hR := setCell_row 3 (.slice a9 l.length c9) (setCell_row 2 (.string ⟨#[]⟩) (setCell_row 1 (.int .i64 0) (setCell_row 0 (.int .i64 4) HB2.out)))
  simp only [List.setIfInBounds_toArray, List.set_cons_zero, List.set_cons_succ] at hR
  have hf8 : Fr (fun q => q = w.heap.size) w2 ((((w2.setCell ⟨w.heap.size, 0, none⟩ (.int .i64 4)).setCell ⟨w.heap.size, 1, none⟩ (.int .i64 0)).setCell ⟨w.heap.size, 2, none⟩ (.string ⟨#[]⟩)).setCell ⟨w.heap.size, 3, none⟩ (.slice a9 l.length c9)) :=
    ((((Fr.refl (fun q => q = w.heap.size) w2).setCell (p := ⟨w.heap.size, 0, none⟩) (.inl rfl) _).setCell (p := ⟨w.heap.size, 1, none⟩) (.inl rfl) _).setCell (p := ⟨w.heap.size, 2, none⟩) (.inl rfl) _).setCell (p := ⟨w.heap.size, 3, none⟩) (.inl rfl) _
  refine bodyPost_ret (results_cell_row rfl _ _ w.heap.size _ _ _ _ rfl hR Try.underlying24 rfl (by kernel_rfl)) rfl ?_
  refine ⟨_, rfl, HW.out.trans hf8 (fun _ _ => id) (fun q hq e => by omega), ?_⟩
  exact ((HV.out.close 4 0 ⟨#[]⟩).soft hf8 (fun q hq e => by have := HZ.out; omega)).mono fun q _ hq => ⟨by have := HZ.out; omega, hq.2⟩
end Go.Proofs.Ytjngddmjgcecnaa
