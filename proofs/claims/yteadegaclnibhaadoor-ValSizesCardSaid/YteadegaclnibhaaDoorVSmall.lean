/- val.S, val.I, val.O, val.E. -/
import Derived.Test.YteadegaclnibhaaDoorValClone
namespace Go.Proofs.YteadegaclnibhaaDoor
open Go.RowKit

set_option maxHeartbeats 800000 in
theorem vS_any (s : ByteArray) (w : World) : Calls Tryd.prog 14 #[.string s] w fun e w' => e = .returned (.agg #[.int .i64 2, .int .i64 0, .string s, .slice none 0 0]) ∧ Fr (fun _ => False) w w' := by
  go_enter Tryd.func14, Tryd.ntmps14
  go_wp2
  have hR : (w.alloc (.cells #[.int .i64 2, .int .i64 0, .string s, .slice none 0 0] 24)).heap[w.heap.size]? = some (.cells #[.int .i64 2, .int .i64 0, .string s, .slice none 0 0] 24) := heap_alloc_new w _
  refine bodyPost_ret (results_cell_row rfl _ _ w.heap.size _ _ _ _ rfl hR Tryd.underlying24 rfl (by kernel_rfl)) rfl ?_
  exact ⟨rfl, (Fr.refl _ _).alloc _⟩
set_option maxHeartbeats 800000 in
theorem vI_any (n : Int) (w : World) : Calls Tryd.prog 12 #[.int .i64 n] w fun e w' => e = .returned (.agg #[.int .i64 0, .int .i64 n, .string ⟨#[]⟩, .slice none 0 0]) ∧ Fr (fun _ => False) w w' := by
  go_enter Tryd.func12, Tryd.ntmps12
  go_wp2
  have hR : (w.alloc (.cells #[.int .i64 0, .int .i64 n, .string ⟨#[]⟩, .slice none 0 0] 24)).heap[w.heap.size]? = some (.cells #[.int .i64 0, .int .i64 n, .string ⟨#[]⟩, .slice none 0 0] 24) := heap_alloc_new w _
  refine bodyPost_ret (results_cell_row rfl _ _ w.heap.size _ _ _ _ rfl hR Tryd.underlying24 rfl (by kernel_rfl)) rfl ?_
  exact ⟨rfl, (Fr.refl _ _).alloc _⟩
set_option maxHeartbeats 800000 in
theorem vO_any (n : Int) (h1 : -9223372036854775808 ≤ n) (h2 : n ≤ 9223372036854775807) (w : World) : Calls Tryd.prog 19 #[.int .i64 n] w fun e w' => e = .returned (.agg #[.int .i64 1, .int .i64 n, .string ⟨#[]⟩, .slice none 0 0]) ∧ Fr (fun _ => False) w w' := by
  go_enter Tryd.func19, Tryd.ntmps19
  go_wp2
  have hR : (w.alloc (.cells #[.int .i64 1, .int .i64 n, .string ⟨#[]⟩, .slice none 0 0] 24)).heap[w.heap.size]? = some (.cells #[.int .i64 1, .int .i64 n, .string ⟨#[]⟩, .slice none 0 0] 24) := heap_alloc_new w _
  refine bodyPost_ret (results_cell_row rfl _ _ w.heap.size _ _ _ _ rfl hR Tryd.underlying24 rfl (by kernel_rfl)) rfl ?_
  exact ⟨rfl, (Fr.refl _ _).alloc _⟩
set_option maxHeartbeats 800000 in
theorem vE_any (n : Int) (h1 : -9223372036854775808 ≤ n) (h2 : n ≤ 9223372036854775807) (w : World) : Calls Tryd.prog 20 #[.int .i64 n] w fun e w' => e = .returned (.agg #[.int .i64 3, .int .i64 n, .string ⟨#[]⟩, .slice none 0 0]) ∧ Fr (fun _ => False) w w' := by
  go_enter Tryd.func20, Tryd.ntmps20
  go_wp2
  have hR : (w.alloc (.cells #[.int .i64 3, .int .i64 n, .string ⟨#[]⟩, .slice none 0 0] 24)).heap[w.heap.size]? = some (.cells #[.int .i64 3, .int .i64 n, .string ⟨#[]⟩, .slice none 0 0] 24) := heap_alloc_new w _
  refine bodyPost_ret (results_cell_row rfl _ _ w.heap.size _ _ _ _ rfl hR Tryd.underlying24 rfl (by kernel_rfl)) rfl ?_
  exact ⟨rfl, (Fr.refl _ _).alloc _⟩
end Go.Proofs.YteadegaclnibhaaDoor
