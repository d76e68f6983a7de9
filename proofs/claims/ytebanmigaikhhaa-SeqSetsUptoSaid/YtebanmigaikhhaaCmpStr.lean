/- strings.Compare. -/
import Derived.Test.YtebanmigaikhhaaLib
import Derived.Lib.Bytealg
import Derived.Shelf.Small.Strs
namespace Go.Proofs.Ytebanmigaikhhaa
open Go.RowKit

def cb (s t : ByteArray) : Int := Lib.compareBytes s.data.toList t.data.toList
theorem cmpbyte_any (a b : ByteArray) (w : World) : Calls Try.prog 68 #[.string a, .string b] w fun e w' => e = .returned (.int .i64 (cb a b)) ∧ w' = w := by
  go_enter Try.func68, Try.ntmps68
  go_wp2
  rw [run_callFunc_extern Try.func70 (by kernel_rfl) (by kernel_rfl) (by kernel_rfl) (e := Extern.BytealgCompare.compare) (by kernel_rfl), Lib.run_compareString]
  simp only [Result.andThen]
  rw [Oper.upon_value]
  go_wp2
  go_ret
  exact ⟨rfl, rfl⟩
theorem cmpstr_any (a b : ByteArray) (w : World) : Calls Try.prog 64 #[.string a, .string b] w fun e w' => e = .returned (.int .i64 (cb a b)) ∧ w = w' := by
  go_enter Try.func64, Try.ntmps64
  go_wp2_with fail
  refine (cmpbyte_any a b w).mono ?_
  rintro e w2 ⟨rfl, rfl⟩
  go_wp2_with fail
  go_ret
  exact ⟨rfl, rfl⟩
end Go.Proofs.Ytebanmigaikhhaa
