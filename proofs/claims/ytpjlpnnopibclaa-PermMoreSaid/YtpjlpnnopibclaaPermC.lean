/- Contracts of package perm and of the document's answers beside it, a part: each returns what a plain function says, and makes only new memory. -/
import Derived.Test.YtpjlpnnopibclaaPerm
namespace Go.Proofs.Ytpjlpnnopibclaa
open Go.RowKit

set_option maxHeartbeats 6000000 in
theorem two_any (id op : Int) (wz pr : Bool) (oi oo of : Int) (o1 o3 o5 o6 o7 o8 o9 : Value) (pi po pf : Int) (p1 p3 p5 p6 p7 p8 p9 : Value) (w : World) :
    Calls Try.prog 19 #[whoV id wz pr, .int .i64 op, .agg #[.int .i64 oi, o1, .int .i64 oo, o3, .int .i64 of, o5, o6, o7, o8, o9], .agg #[.int .i64 pi, p1, .int .i64 po, p3, .int .i64 pf, p5, p6, p7, p8, p9]] w fun e w' => e = .returned (.bool (twoB (ownsB id wz oi) (ownsB id wz oo) (ownsB id wz po) pr op pf)) ∧ Fr (fun _ => False) w w' := by
  unfold twoB hasB
  cases hf : Go.bits BinOp.and IntKind.i64 pf 32 != 0
  all_goals
    cases hb : ownsB id wz oi
    all_goals
      cases hc : ownsB id wz oo
      all_goals
        cases pr
        all_goals
          by_cases h9 : op = 9
          · subst h9
            go_enter Try.func19, Try.ntmps19
            go_wp2_with (first | (go_at_call 21; refine (owns_any _ _ _ _ _).mono ?_; rintro e w' ⟨rfl, rfl⟩) | (go_at_call 13; refine (controls_any _ _ _ _ _ _ _ _ _ _ _ _ _ _).mono ?_; rintro e w' ⟨rfl, rfl⟩))
            all_goals go_ret
            all_goals exact ⟨ret_bool (by simp [*]), by repeat (first | exact Fr.refl _ _ | apply Fr.alloc | apply Fr.drew | apply Fr.drewN)⟩
          have e9 : (op == 9) = false := beq_eq_false_iff_ne.2 h9
          by_cases h11 : op = 11
          · subst h11
            go_enter Try.func19, Try.ntmps19
            go_wp2_with (first | (go_at_call 21; refine (owns_any _ _ _ _ _).mono ?_; rintro e w' ⟨rfl, rfl⟩) | (go_at_call 13; refine (controls_any _ _ _ _ _ _ _ _ _ _ _ _ _ _).mono ?_; rintro e w' ⟨rfl, rfl⟩))
            all_goals go_ret
            all_goals exact ⟨ret_bool (by simp [*]), by repeat (first | exact Fr.refl _ _ | apply Fr.alloc | apply Fr.drew | apply Fr.drewN)⟩
          have e11 : (op == 11) = false := beq_eq_false_iff_ne.2 h11
          go_enter Try.func19, Try.ntmps19
          go_wp2_with (first | (go_at_call 21; refine (owns_any _ _ _ _ _).mono ?_; rintro e w' ⟨rfl, rfl⟩) | (go_at_call 13; refine (controls_any _ _ _ _ _ _ _ _ _ _ _ _ _ _).mono ?_; rintro e w' ⟨rfl, rfl⟩))
          all_goals go_ret
          all_goals exact ⟨ret_bool (by simp [*]), by repeat (first | exact Fr.refl _ _ | apply Fr.alloc | apply Fr.drew | apply Fr.drewN)⟩
end Go.Proofs.Ytpjlpnnopibclaa
