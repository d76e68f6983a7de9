/- inglenookref.Bare, None; SameFault of two faults with nothing around them, by their numbers. For seats that hold no val. -/
import Derived.Test.YtlhbgobjhddhlaaGreatDoorLib
import Derived.Test.YtlhbgobjhddhlaaGreatDoorRegion
namespace Go.Proofs.YtlhbgobjhddhlaaGreatDoor
open Go.RowKit

/-- A fault with nothing around it. -/
def bareV (n : Int) : Value := .agg #[.int .i64 n, .bool false, .int .i64 0, .int .i64 0, .int .i64 0, .string ⟨#[]⟩, .slice none 0 0]
set_option maxHeartbeats 800000 in
theorem bare_any (n : Int) (w : World) : Calls Tryz.prog 34 #[.int .i64 n] w fun e w' => e = .returned (bareV n) ∧ Fr (fun _ => False) w w' := by
  go_enter Tryz.func34, Tryz.ntmps34
  go_wp2
  have hR : (w.alloc (.cells #[.int .i64 n, .bool false, .int .i64 0, .int .i64 0, .int .i64 0, .string ⟨#[]⟩, .slice none 0 0] 73)).heap[w.heap.size]? = some (.cells #[.int .i64 n, .bool false, .int .i64 0, .int .i64 0, .int .i64 0, .string ⟨#[]⟩, .slice none 0 0] 73) := heap_alloc_new w _
  refine bodyPost_ret (results_cell_row rfl _ _ w.heap.size _ _ _ _ rfl hR Tryz.underlying73 rfl (by kernel_rfl)) rfl ?_
  exact ⟨rfl, (Fr.refl _ _).alloc _⟩
set_option maxHeartbeats 800000 in
theorem none_any (w : World) : Calls Tryz.prog 76 #[] w fun e w' => e = .returned (bareV 0) ∧ Fr (fun _ => False) w w' := by
  go_enter Tryz.func76, Tryz.ntmps76
  go_wp2
  have hR : (w.alloc (.cells #[.int .i64 0, .bool false, .int .i64 0, .int .i64 0, .int .i64 0, .string ⟨#[]⟩, .slice none 0 0] 73)).heap[w.heap.size]? = some (.cells #[.int .i64 0, .bool false, .int .i64 0, .int .i64 0, .int .i64 0, .string ⟨#[]⟩, .slice none 0 0] 73) := heap_alloc_new w _
  refine bodyPost_ret (results_cell_row rfl _ _ w.heap.size _ _ _ _ rfl hR Tryz.underlying73 rfl (by kernel_rfl)) rfl ?_
  exact ⟨rfl, (Fr.refl _ _).alloc _⟩


theorem svs_nil (w : World) : Calls Tryz.prog 91 #[.slice none 0 0, .slice none 0 0] w fun e w' => e = .returned (.bool true) ∧ w = w' := by
  go_enter Tryz.func91, Tryz.ntmps91
  go_wp2
  go_loop [5] (fun i => i = .int .i64 0) (fun _ => 0)
  case atStart => rfl
  case round =>
    subst hrel
    go_wp2
    go_ret
    exact ⟨rfl, rfl⟩
def zeroV : Array Value := #[.int .i64 0, .int .i64 0, .string ⟨#[]⟩, .slice none 0 0]
theorem sv_zero (w : World) : Calls Tryz.prog 75 #[.agg #[.int .i64 0, .int .i64 0, .string ⟨#[]⟩, .slice none 0 0], .agg #[.int .i64 0, .int .i64 0, .string ⟨#[]⟩, .slice none 0 0]] w fun e w' => e = .returned (.bool true) ∧ Fr (fun _ => False) w w' := by
  go_enter Tryz.func75, Tryz.ntmps75
  go_wp2_with fail
  refine (svs_nil _).mono ?_
  rintro e w2 ⟨rfl, rfl⟩
  go_wp2
  go_ret
  exact ⟨rfl, ((Fr.refl _ _).alloc _).alloc _⟩

set_option maxHeartbeats 1600000 in
theorem samefault_num (m n : Int) (w : World) : Calls Tryz.prog 66 #[bareV m, bareV n] w fun e w' => e = .returned (.bool (decide (m = n))) ∧ Fr (fun _ => False) w w' := by
  have hd : decide (m = n) = (m == n) := by
    rw [Bool.eq_iff_iff]
    simp
  have HD := hid hd
  clear hd
  unfold bareV
  go_enter Tryz.func66, Tryz.ntmps66
  go_wp2_with fail
  refine (sv_zero _).mono ?_
  rintro e w2 ⟨rfl, hf2⟩
  have hF : ∀ o1 o2 : Obj, Fr (fun _ => False) w ((w.alloc o1).alloc o2) := fun o1 o2 => ((Fr.refl _ _).alloc _).alloc _
  have h1 := hf2.heap (k := w.heap.size) (((Fr.refl (fun _ => False) _).alloc _).heap (heap_alloc_new w (.cells #[.int .i64 m, .bool false, .int .i64 0, .int .i64 0, .int .i64 0, .string ⟨#[]⟩, .slice none 0 0] 73)) not_false) not_false
  have h2 := hf2.heap (k := w.heap.size + 1) (o := .cells #[.int .i64 n, .bool false, .int .i64 0, .int .i64 0, .int .i64 0, .string ⟨#[]⟩, .slice none 0 0] 73) (by
    have := heap_alloc_new (w.alloc (.cells #[.int .i64 m, .bool false, .int .i64 0, .int .i64 0, .int .i64 0, .string ⟨#[]⟩, .slice none 0 0] 73)) (.cells #[.int .i64 n, .bool false, .int .i64 0, .int .i64 0, .int .i64 0, .string ⟨#[]⟩, .slice none 0 0] 73)
    simpa using this) not_false
  have x0 : w2.cell? ⟨w.heap.size, 0, none⟩ = some (.int .i64 m) := by rw [cell_of_row _ _ 0 _ _ _ h1]; rfl
  have x1 : w2.cell? ⟨w.heap.size, 1, none⟩ = some (.bool false) := by rw [cell_of_row _ _ 1 _ _ _ h1]; rfl
  have x2 : w2.cell? ⟨w.heap.size, 2, none⟩ = some (.int .i64 0) := by rw [cell_of_row _ _ 2 _ _ _ h1]; rfl
  have y0 : w2.cell? ⟨w.heap.size + 1, 0, none⟩ = some (.int .i64 n) := by rw [cell_of_row _ _ 0 _ _ _ h2]; rfl
  have y1 : w2.cell? ⟨w.heap.size + 1, 1, none⟩ = some (.bool false) := by rw [cell_of_row _ _ 1 _ _ _ h2]; rfl
  have y2 : w2.cell? ⟨w.heap.size + 1, 2, none⟩ = some (.int .i64 0) := by rw [cell_of_row _ _ 2 _ _ _ h2]; rfl
  have HF := hid ((hF _ _).trans' hf2)
  clear h1 h2 hf2 hF
  cases hmn : (m == n) with
  | false =>
    rw [hmn] at HD
    go_wp2
    go_ret
    exact ⟨ret_bool HD.out.symm, HF.out⟩
  | true =>
    rw [hmn] at HD
    go_wp2
    go_ret
    exact ⟨ret_bool HD.out.symm, HF.out⟩
end Go.Proofs.YtlhbgobjhddhlaaGreatDoor
