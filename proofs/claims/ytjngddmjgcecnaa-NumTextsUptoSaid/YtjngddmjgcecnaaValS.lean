/- val.S. -/
import Derived.Test.YtjngddmjgcecnaaValClone
namespace Go.Proofs.Ytjngddmjgcecnaa
open Go.RowKit

set_option maxHeartbeats 800000 in
theorem vS_any (s : ByteArray) (w : World) : Calls Try.prog 15 #[.string s] w fun e w' => e = .returned (.agg #[.int .i64 2, .int .i64 0, .string s, .slice none 0 0]) ∧ Fr (fun _ => False) w w' := by
  go_enter Try.func15, Try.ntmps15
  go_wp2
  have hR : (w.alloc (.cells #[.int .i64 2, .int .i64 0, .string s, .slice none 0 0] 24)).heap[w.heap.size]? = some (.cells #[.int .i64 2, .int .i64 0, .string s, .slice none 0 0] 24) := heap_alloc_new w _
  refine bodyPost_ret (results_cell_row rfl _ _ w.heap.size _ _ _ _ rfl hR Try.underlying24 rfl (by kernel_rfl)) rfl ?_
  exact ⟨rfl, (Fr.refl _ _).alloc _⟩
end Go.Proofs.Ytjngddmjgcecnaa
