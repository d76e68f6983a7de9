/- The chapter's examples hold: first. -/
import Derived.Test.YteadegaclnibhaaDoorValL
import Derived.Test.YteadegaclnibhaaDoorVSmall
namespace Go.Proofs.YteadegaclnibhaaDoor
open Go.RowKit

theorem vlist2 (w : World) : VL (fun _ => True) (w.alloc (.cells #[.int .i64 0, .int .i64 1, .string ⟨#[]⟩, .slice none 0 0, .int .i64 2, .int .i64 0, .string ⟨#[97, 98]⟩, .slice none 0 0] 24)) [.mk 0 1 ⟨#[]⟩ [], .mk 2 0 ⟨#[97, 98]⟩ []] (.slice (some ⟨w.heap.size, 0, none⟩) 2 2) := by
  refine ⟨some ⟨w.heap.size, 0, none⟩, 2, fun i => if i = 0 then #[.int .i64 0, .int .i64 1, .string ⟨#[]⟩, .slice none 0 0] else #[.int .i64 2, .int .i64 0, .string ⟨#[97, 98]⟩, .slice none 0 0], rfl, by decide, by decide, (fun h => by cases h), fun i hi => ?_, fun i x hx => ?_⟩
  · refine ⟨w.heap.size, 0, rfl, trivial, by dsimp only; split <;> rfl, fun j hj => ?_⟩
    have h0 := heap_alloc_new w (.cells #[.int .i64 0, .int .i64 1, .string ⟨#[]⟩, .slice none 0 0, .int .i64 2, .int .i64 0, .string ⟨#[97, 98]⟩, .slice none 0 0] 24)
    rw [cell_of_row _ _ _ _ _ _ h0]
    simp only [List.length_cons, List.length_nil] at hi
    match i, hi, j, hj with
    | 0, _, 0, _ | 0, _, 1, _ | 0, _, 2, _ | 0, _, 3, _ | 1, _, 0, _ | 1, _, 1, _ | 1, _, 2, _ | 1, _, 3, _ => rfl
  · match i, hx with
    | 0, hx => simp at hx; subst hx; exact (VL.nil _ _).close 0 1 ⟨#[]⟩
    | 1, hx => simp at hx; subst hx; exact (VL.nil _ _).close 2 0 ⟨#[97, 98]⟩
    | i + 2, hx => simp at hx

set_option maxHeartbeats 800000 in
theorem first_any (w : World) : Calls Tryd.prog 6 #[] w fun e w' => e = .returned (.bool true) ∧ Fr (fun _ => False) w w' := by
  go_enter Tryd.func6, Tryd.ntmps6
  go_wp2_with fail
  refine (vI_any 1 _).mono ?_
  rintro e w2 ⟨rfl, hf2⟩
  go_wp2_with fail
  refine (vS_any ⟨#[97, 98]⟩ _).mono ?_
  rintro e w3 ⟨rfl, hf3⟩
  go_wp2_with fail
  refine (vL_any [.mk 0 1 ⟨#[]⟩ [], .mk 2 0 ⟨#[97, 98]⟩ []] (by simp [sizeL, V.size, ByteArray.size]) (fun _ => True) _ _ (vlist2 w3)).mono ?_
  rintro e w4 ⟨u, rfl, hf4, hv, -⟩
  go_wp2_with fail
  refine (vsize_any 10 _ (by simp [sizeL, V.size, ByteArray.size]) (by simp [sizeL, V.size, ByteArray.size]) _ _ _ hv).mono ?_
  rintro e w5 ⟨rfl, hf5⟩
  go_wp2
  go_ret
  exact ⟨ret_bool (by simp [sizeL, V.size, ByteArray.size]), (((hf2.trans' hf3).alloc _).trans' hf4).trans' hf5⟩
end Go.Proofs.YteadegaclnibhaaDoor
