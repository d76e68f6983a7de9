/- Contracts of package perm and of the document's answers beside it, a part: each returns what a plain function says, and makes only new memory. -/
import Derived.Test.YtpjlpnnopibclaaPerm
namespace Go.Proofs.Ytpjlpnnopibclaa
open Go.RowKit

set_option maxHeartbeats 6000000 in
theorem rtwo_any (id op : Int) (wz pr : Bool) (oi oo of : Int) (o1 o3 o5 o6 o7 o8 o9 : Value) (pi po pf : Int) (p1 p3 p5 p6 p7 p8 p9 : Value) (w : World) :
    Calls Try.prog 20 #[whoV id wz pr, .int .i64 op, .agg #[.int .i64 oi, o1, .int .i64 oo, o3, .int .i64 of, o5, o6, o7, o8, o9], .agg #[.int .i64 pi, p1, .int .i64 po, p3, .int .i64 pf, p5, p6, p7, p8, p9]] w fun e w' => e = .returned (.bool (twoB (ownsB id wz oi) (ownsB id wz oo) (ownsB id wz po) pr op pf)) ∧ Fr (fun _ => False) w w' := by
  unfold twoB hasB
  have hsw : (oi == id) = (id == oi) := by
    rw [Bool.eq_iff_iff, beq_iff_eq, beq_iff_eq]
    exact eq_comm
  have ho : ownsB id wz oi = (wz || id == oi) := rfl
  cases hf : Go.bits BinOp.and IntKind.i64 pf 32 != 0
  all_goals
    cases hb : id == oi
    all_goals
      cases hc : ownsB id wz oo
      all_goals
        cases wz
        all_goals
          cases pr
          all_goals
            by_cases h9 : op = 9
            · subst h9
              go_enter Try.func20, Try.ntmps20
              go_wp2_with (go_at_call 14; refine (rcontrols_any _ _ _ _ _ _ _ _ _ _ _ _ _ _).mono ?_; rintro e w' ⟨rfl, rfl⟩)
              all_goals go_ret
              all_goals exact ⟨ret_bool (by simp [*]), by repeat (first | exact Fr.refl _ _ | apply Fr.alloc | apply Fr.drew | apply Fr.drewN)⟩
            have e9 : (op == 9) = false := beq_eq_false_iff_ne.2 h9
            by_cases h11 : op = 11
            · subst h11
              go_enter Try.func20, Try.ntmps20
              go_wp2_with (go_at_call 14; refine (rcontrols_any _ _ _ _ _ _ _ _ _ _ _ _ _ _).mono ?_; rintro e w' ⟨rfl, rfl⟩)
              all_goals go_ret
              all_goals exact ⟨ret_bool (by simp [*]), by repeat (first | exact Fr.refl _ _ | apply Fr.alloc | apply Fr.drew | apply Fr.drewN)⟩
            have e11 : (op == 11) = false := beq_eq_false_iff_ne.2 h11
            go_enter Try.func20, Try.ntmps20
            go_wp2_with (go_at_call 14; refine (rcontrols_any _ _ _ _ _ _ _ _ _ _ _ _ _ _).mono ?_; rintro e w' ⟨rfl, rfl⟩)
            all_goals go_ret
            all_goals exact ⟨ret_bool (by simp [*]), by repeat (first | exact Fr.refl _ _ | apply Fr.alloc | apply Fr.drew | apply Fr.drewN)⟩

theorem plain_any (id : Int) (wz pr : Bool) (w : World) : Calls Try.prog 12 #[whoV id wz pr] w fun e w' => e = .returned (whoV id wz pr) ∧ Fr (fun _ => False) w w' := by
  go_enter Try.func12, Try.ntmps12
  go_wp2
  exact bodyPost_ret (v := whoV id wz pr) (by simp [results, Try.results12, go_sem]) rfl ⟨rfl, ((Fr.refl _ _).alloc _).alloc _⟩
end Go.Proofs.Ytpjlpnnopibclaa
