/- Contracts of package perm, by frames; the chapter's example. -/
import Derived.Test.YtpjlpnnopibclaaPermA
import Derived.Test.YtpjlpnnopibclaaPermB
import Derived.Test.YtpjlpnnopibclaaPermC
import Derived.Test.YtpjlpnnopibclaaPermD
import Derived.Test.YtpjlpnnopibclaaPermE
import Derived.Test.YtpjlpnnopibclaaPermF
import Derived.Test.YtpjlpnnopibclaaBits
import Derived.Test.YtpjlpnnopibclaaRegion
namespace Go.Proofs.Ytpjlpnnopibclaa
open Go.RowKit
theorem controls_fr (id : Int) (wz pr : Bool) (oi oo of : Int) (o1 o3 o5 o6 o7 o8 o9 : Value) (w : World) :
    Calls Try.prog 13 #[whoV id wz pr, .agg #[.int .i64 oi, o1, .int .i64 oo, o3, .int .i64 of, o5, o6, o7, o8, o9]] w fun e w' => e = .returned (.bool (ownsB id wz oo)) ∧ Fr (fun _ => False) w w' :=
  (controls_any id wz pr oi oo of o1 o3 o5 o6 o7 o8 o9 w).mono fun _ _ h => ⟨h.1, h.2 ▸ (((Fr.refl _ _).alloc _).alloc _).alloc _⟩
theorem rcontrols_fr (id : Int) (wz pr : Bool) (oi oo of : Int) (o1 o3 o5 o6 o7 o8 o9 : Value) (w : World) :
    Calls Try.prog 14 #[whoV id wz pr, .agg #[.int .i64 oi, o1, .int .i64 oo, o3, .int .i64 of, o5, o6, o7, o8, o9]] w fun e w' => e = .returned (.bool (ownsB id wz oo)) ∧ Fr (fun _ => False) w w' :=
  (rcontrols_any id wz pr oi oo of o1 o3 o5 o6 o7 o8 o9 w).mono fun _ _ h => ⟨h.1, h.2 ▸ ((Fr.refl _ _).alloc _).alloc _⟩
theorem first_any (w : World) : Calls Try.prog 8 #[] w fun e w' => e = .returned (.bool true) ∧ Fr (fun _ => False) w w' := by
  have e1 : ownsB 1 true 9 = true := by decide
  have e2 : ownsB 1 false 9 = false := by decide
  go_enter Try.func8, Try.ntmps8
  go_wp2_with fail
  refine (controls_fr _ _ _ _ _ _ _ _ _ _ _ _ _ w).mono ?_
  rw [e1]
  rintro e w1 ⟨rfl, h1⟩
  go_wp2_with fail
  refine (controls_fr _ _ _ _ _ _ _ _ _ _ _ _ _ w1).mono ?_
  rw [e2]
  rintro e w2 ⟨rfl, h2⟩
  go_wp2_with fail
  go_ret
  exact ⟨rfl, h1.trans' h2⟩
end Go.Proofs.Ytpjlpnnopibclaa
