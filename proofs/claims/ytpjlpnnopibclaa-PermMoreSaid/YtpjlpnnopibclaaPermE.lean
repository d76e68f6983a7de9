/- Contracts of package perm and of the document's answers beside it, a part: each returns what a plain function says, and makes only new memory. -/
import Derived.Test.YtpjlpnnopibclaaPerm
namespace Go.Proofs.Ytpjlpnnopibclaa
open Go.RowKit

set_option maxHeartbeats 6000000 in
theorem robject_any (id op : Int) (wz pr : Bool) (oi oo of : Int) (o1 o3 o5 o6 o7 o8 o9 : Value) (w : World) :
    Calls Try.prog 18 #[whoV id wz pr, .int .i64 op, .agg #[.int .i64 oi, o1, .int .i64 oo, o3, .int .i64 of, o5, o6, o7, o8, o9]] w fun e w' => e = .returned (.bool (objB (ownsB id wz oo) wz pr op of)) ∧ Fr (fun _ => False) w w' := by
  unfold objB hasB
  cases hb : ownsB id wz oo
  all_goals
    cases pr
    all_goals
      by_cases h3 : op = 3
      · subst h3
        go_enter Try.func18, Try.ntmps18
        go_wp2_with (go_at_call 14; refine (rcontrols_any _ _ _ _ _ _ _ _ _ _ _ _ _ _).mono ?_; rintro e w' ⟨rfl, rfl⟩)
        all_goals go_ret
        all_goals exact ⟨ret_bool (by simp [*]), by repeat (first | exact Fr.refl _ _ | apply Fr.alloc | apply Fr.drew | apply Fr.drewN)⟩
      have e3 : (op == 3) = false := beq_eq_false_iff_ne.2 h3
      by_cases h8 : op = 8
      · subst h8
        go_enter Try.func18, Try.ntmps18
        go_wp2_with (go_at_call 14; refine (rcontrols_any _ _ _ _ _ _ _ _ _ _ _ _ _ _).mono ?_; rintro e w' ⟨rfl, rfl⟩)
        all_goals go_ret
        all_goals exact ⟨ret_bool (by simp [*]), by repeat (first | exact Fr.refl _ _ | apply Fr.alloc | apply Fr.drew | apply Fr.drewN)⟩
      have e8 : (op == 8) = false := beq_eq_false_iff_ne.2 h8
      by_cases h10 : op = 10
      · subst h10
        go_enter Try.func18, Try.ntmps18
        go_wp2_with (go_at_call 14; refine (rcontrols_any _ _ _ _ _ _ _ _ _ _ _ _ _ _).mono ?_; rintro e w' ⟨rfl, rfl⟩)
        all_goals go_ret
        all_goals exact ⟨ret_bool (by simp [*]), by repeat (first | exact Fr.refl _ _ | apply Fr.alloc | apply Fr.drew | apply Fr.drewN)⟩
      have e10 : (op == 10) = false := beq_eq_false_iff_ne.2 h10
      by_cases h12 : op = 12
      · subst h12
        go_enter Try.func18, Try.ntmps18
        go_wp2_with (go_at_call 14; refine (rcontrols_any _ _ _ _ _ _ _ _ _ _ _ _ _ _).mono ?_; rintro e w' ⟨rfl, rfl⟩)
        all_goals go_ret
        all_goals exact ⟨ret_bool (by simp [*]), by repeat (first | exact Fr.refl _ _ | apply Fr.alloc | apply Fr.drew | apply Fr.drewN)⟩
      have e12 : (op == 12) = false := beq_eq_false_iff_ne.2 h12
      by_cases h14 : op = 14
      · subst h14
        go_enter Try.func18, Try.ntmps18
        go_wp2_with (go_at_call 14; refine (rcontrols_any _ _ _ _ _ _ _ _ _ _ _ _ _ _).mono ?_; rintro e w' ⟨rfl, rfl⟩)
        all_goals go_ret
        all_goals exact ⟨ret_bool (by simp [*]), by repeat (first | exact Fr.refl _ _ | apply Fr.alloc | apply Fr.drew | apply Fr.drewN)⟩
      have e14 : (op == 14) = false := beq_eq_false_iff_ne.2 h14
      by_cases h13 : op = 13
      · subst h13
        go_enter Try.func18, Try.ntmps18
        go_wp2_with (go_at_call 14; refine (rcontrols_any _ _ _ _ _ _ _ _ _ _ _ _ _ _).mono ?_; rintro e w' ⟨rfl, rfl⟩)
        all_goals go_ret
        all_goals exact ⟨ret_bool (by simp [*]), by repeat (first | exact Fr.refl _ _ | apply Fr.alloc | apply Fr.drew | apply Fr.drewN)⟩
      have e13 : (op == 13) = false := beq_eq_false_iff_ne.2 h13
      by_cases h15 : op = 15
      · subst h15
        go_enter Try.func18, Try.ntmps18
        go_wp2_with (go_at_call 14; refine (rcontrols_any _ _ _ _ _ _ _ _ _ _ _ _ _ _).mono ?_; rintro e w' ⟨rfl, rfl⟩)
        all_goals go_ret
        all_goals exact ⟨ret_bool (by simp [*]), by repeat (first | exact Fr.refl _ _ | apply Fr.alloc | apply Fr.drew | apply Fr.drewN)⟩
      have e15 : (op == 15) = false := beq_eq_false_iff_ne.2 h15
      go_enter Try.func18, Try.ntmps18
      go_wp2_with (go_at_call 14; refine (rcontrols_any _ _ _ _ _ _ _ _ _ _ _ _ _ _).mono ?_; rintro e w' ⟨rfl, rfl⟩)
      all_goals go_ret
      all_goals exact ⟨ret_bool (by simp [*]), by repeat (first | exact Fr.refl _ _ | apply Fr.alloc | apply Fr.drew | apply Fr.drewN)⟩
end Go.Proofs.Ytpjlpnnopibclaa
