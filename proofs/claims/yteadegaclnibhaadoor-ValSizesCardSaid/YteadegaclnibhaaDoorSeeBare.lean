/- inglenookref.Bare, None; SameFault of a fault with itself. -/
import Derived.Test.YteadegaclnibhaaDoorRefSame
import Derived.Test.YteadegaclnibhaaDoorValClone
namespace Go.Proofs.YteadegaclnibhaaDoor
open Go.RowKit

/-- A fault with nothing around it. -/
def bareV (n : Int) : Value := .agg #[.int .i64 n, .bool false, .int .i64 0, .int .i64 0, .int .i64 0, .string ⟨#[]⟩, .slice none 0 0]
set_option maxHeartbeats 800000 in
theorem bare_any (n : Int) (w : World) : Calls Tryd.prog 25 #[.int .i64 n] w fun e w' => e = .returned (bareV n) ∧ Fr (fun _ => False) w w' := by
  go_enter Tryd.func25, Tryd.ntmps25
  go_wp2
  have hR : (w.alloc (.cells #[.int .i64 n, .bool false, .int .i64 0, .int .i64 0, .int .i64 0, .string ⟨#[]⟩, .slice none 0 0] 48)).heap[w.heap.size]? = some (.cells #[.int .i64 n, .bool false, .int .i64 0, .int .i64 0, .int .i64 0, .string ⟨#[]⟩, .slice none 0 0] 48) := heap_alloc_new w _
  refine bodyPost_ret (results_cell_row rfl _ _ w.heap.size _ _ _ _ rfl hR Tryd.underlying48 rfl (by kernel_rfl)) rfl ?_
  exact ⟨rfl, (Fr.refl _ _).alloc _⟩
set_option maxHeartbeats 800000 in
theorem none_any (w : World) : Calls Tryd.prog 34 #[] w fun e w' => e = .returned (bareV 0) ∧ Fr (fun _ => False) w w' := by
  go_enter Tryd.func34, Tryd.ntmps34
  go_wp2
  have hR : (w.alloc (.cells #[.int .i64 0, .bool false, .int .i64 0, .int .i64 0, .int .i64 0, .string ⟨#[]⟩, .slice none 0 0] 48)).heap[w.heap.size]? = some (.cells #[.int .i64 0, .bool false, .int .i64 0, .int .i64 0, .int .i64 0, .string ⟨#[]⟩, .slice none 0 0] 48) := heap_alloc_new w _
  refine bodyPost_ret (results_cell_row rfl _ _ w.heap.size _ _ _ _ rfl hR Tryd.underlying48 rfl (by kernel_rfl)) rfl ?_
  exact ⟨rfl, (Fr.refl _ _).alloc _⟩

set_option maxHeartbeats 1600000 in
theorem samefault_any (n : Int) (w : World) : Calls Tryd.prog 30 #[bareV n, bareV n] w fun e w' => e = .returned (.bool true) ∧ Fr (fun _ => False) w w' := by
  have hsv := fun (w' : World) => rsame_refl 1 (.mk 0 0 ⟨#[]⟩ []) (by simp [V.size, sizeL, ByteArray.size]) (fun _ => True) (fun _ => True) w' _ _ ((VL.nil _ _).close 0 0 ⟨#[]⟩) ((VL.nil _ _).close 0 0 ⟨#[]⟩)
  have HS := hid hsv
  clear hsv
  unfold bareV
  go_enter Tryd.func30, Tryd.ntmps30
  go_wp2_with fail
  refine (HS.out _).mono ?_
  rintro e w2 ⟨rfl, hf2⟩
  have hF : ∀ o1 o2 : Obj, Fr (fun _ => False) w ((w.alloc o1).alloc o2) := fun o1 o2 => ((Fr.refl _ _).alloc _).alloc _
  have h1 := hf2.heap (k := w.heap.size) (((Fr.refl (fun _ => False) _).alloc _).heap (heap_alloc_new w (.cells #[.int .i64 n, .bool false, .int .i64 0, .int .i64 0, .int .i64 0, .string ⟨#[]⟩, .slice none 0 0] 48)) not_false) not_false
  have h2 := hf2.heap (k := w.heap.size + 1) (o := .cells #[.int .i64 n, .bool false, .int .i64 0, .int .i64 0, .int .i64 0, .string ⟨#[]⟩, .slice none 0 0] 48) (by
    have := heap_alloc_new (w.alloc (.cells #[.int .i64 n, .bool false, .int .i64 0, .int .i64 0, .int .i64 0, .string ⟨#[]⟩, .slice none 0 0] 48)) (.cells #[.int .i64 n, .bool false, .int .i64 0, .int .i64 0, .int .i64 0, .string ⟨#[]⟩, .slice none 0 0] 48)
    simpa using this) not_false
  have x0 : w2.cell? ⟨w.heap.size, 0, none⟩ = some (.int .i64 n) := by rw [cell_of_row _ _ 0 _ _ _ h1]; rfl
  have x1 : w2.cell? ⟨w.heap.size, 1, none⟩ = some (.bool false) := by rw [cell_of_row _ _ 1 _ _ _ h1]; rfl
  have x2 : w2.cell? ⟨w.heap.size, 2, none⟩ = some (.int .i64 0) := by rw [cell_of_row _ _ 2 _ _ _ h1]; rfl
  have y0 : w2.cell? ⟨w.heap.size + 1, 0, none⟩ = some (.int .i64 n) := by rw [cell_of_row _ _ 0 _ _ _ h2]; rfl
  have y1 : w2.cell? ⟨w.heap.size + 1, 1, none⟩ = some (.bool false) := by rw [cell_of_row _ _ 1 _ _ _ h2]; rfl
  have y2 : w2.cell? ⟨w.heap.size + 1, 2, none⟩ = some (.int .i64 0) := by rw [cell_of_row _ _ 2 _ _ _ h2]; rfl
  have HF := hid ((hF _ _).trans' hf2)
  clear h1 h2 hf2 hF
  have hn : (n == n) = true := by simp
  go_wp2
  go_ret
  exact ⟨rfl, HF.out⟩
end Go.Proofs.YteadegaclnibhaaDoor
