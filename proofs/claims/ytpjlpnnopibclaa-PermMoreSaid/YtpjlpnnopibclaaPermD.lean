/- Contracts of package perm and of the document's answers beside it, a part: each returns what a plain function says, and makes only new memory. -/
import Derived.Test.YtpjlpnnopibclaaPerm
namespace Go.Proofs.Ytpjlpnnopibclaa
open Go.RowKit

set_option maxHeartbeats 6000000 in
theorem rslot_any (id op so sb : Int) (wz pr : Bool) (x0 x3 x4 x5 x6 x7 : Value) (w : World) :
    Calls Try.prog 15 #[whoV id wz pr, .int .i64 op, .agg #[x0, .int .i64 so, .int .i64 sb, x3, x4, x5, x6, x7]] w fun e w' => e = .returned (.bool (rslotB (ownsB id wz so) op sb)) ∧ Fr (fun _ => False) w w' := by
  unfold rslotB hasB ownsB
  have hsw : (so == id) = (id == so) := by
    rw [Bool.eq_iff_iff, beq_iff_eq, beq_iff_eq]
    exact eq_comm
  cases hb : id == so
  all_goals
    cases wz
    all_goals
      by_cases h1 : op = 1
      · subst h1
        go_enter Try.func15, Try.ntmps15
        go_wp2
        all_goals go_ret
        all_goals exact ⟨ret_bool (by simp [*]), by repeat (first | exact Fr.refl _ _ | apply Fr.alloc | apply Fr.drew | apply Fr.drewN)⟩
      have e1 : (op == 1) = false := beq_eq_false_iff_ne.2 h1
      by_cases h2 : op = 2
      · subst h2
        go_enter Try.func15, Try.ntmps15
        go_wp2
        all_goals go_ret
        all_goals exact ⟨ret_bool (by simp [*]), by repeat (first | exact Fr.refl _ _ | apply Fr.alloc | apply Fr.drew | apply Fr.drewN)⟩
      have e2 : (op == 2) = false := beq_eq_false_iff_ne.2 h2
      by_cases h4 : op = 4
      · subst h4
        go_enter Try.func15, Try.ntmps15
        go_wp2
        all_goals go_ret
        all_goals exact ⟨ret_bool (by simp [*]), by repeat (first | exact Fr.refl _ _ | apply Fr.alloc | apply Fr.drew | apply Fr.drewN)⟩
      have e4 : (op == 4) = false := beq_eq_false_iff_ne.2 h4
      go_enter Try.func15, Try.ntmps15
      go_wp2
      all_goals go_ret
      all_goals exact ⟨ret_bool (by simp [*]), by repeat (first | exact Fr.refl _ _ | apply Fr.alloc | apply Fr.drew | apply Fr.drewN)⟩
set_option maxHeartbeats 6000000 in
theorem rverb_any (id op vo vb : Int) (wz pr : Bool) (x0 x3 x4 : Value) (w : World) :
    Calls Try.prog 16 #[whoV id wz pr, .int .i64 op, .agg #[x0, .int .i64 vo, .int .i64 vb, x3, x4]] w fun e w' => e = .returned (.bool (verbB (ownsB id wz vo) pr op vb)) ∧ Fr (fun _ => False) w w' := by
  unfold verbB hasB ownsB
  have hsw : (vo == id) = (id == vo) := by
    rw [Bool.eq_iff_iff, beq_iff_eq, beq_iff_eq]
    exact eq_comm
  cases hb : id == vo
  all_goals
    cases wz
    all_goals
      cases pr
      all_goals
        by_cases h5 : op = 5
        · subst h5
          go_enter Try.func16, Try.ntmps16
          go_wp2
          all_goals go_ret
          all_goals exact ⟨ret_bool (by simp [*]), by repeat (first | exact Fr.refl _ _ | apply Fr.alloc | apply Fr.drew | apply Fr.drewN)⟩
        have e5 : (op == 5) = false := beq_eq_false_iff_ne.2 h5
        by_cases h6 : op = 6
        · subst h6
          go_enter Try.func16, Try.ntmps16
          go_wp2
          all_goals go_ret
          all_goals exact ⟨ret_bool (by simp [*]), by repeat (first | exact Fr.refl _ _ | apply Fr.alloc | apply Fr.drew | apply Fr.drewN)⟩
        have e6 : (op == 6) = false := beq_eq_false_iff_ne.2 h6
        by_cases h7 : op = 7
        · subst h7
          go_enter Try.func16, Try.ntmps16
          go_wp2
          all_goals go_ret
          all_goals exact ⟨ret_bool (by simp [*]), by repeat (first | exact Fr.refl _ _ | apply Fr.alloc | apply Fr.drew | apply Fr.drewN)⟩
        have e7 : (op == 7) = false := beq_eq_false_iff_ne.2 h7
        go_enter Try.func16, Try.ntmps16
        go_wp2
        all_goals go_ret
        all_goals exact ⟨ret_bool (by simp [*]), by repeat (first | exact Fr.refl _ _ | apply Fr.alloc | apply Fr.drew | apply Fr.drewN)⟩
end Go.Proofs.Ytpjlpnnopibclaa
