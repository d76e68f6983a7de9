/- Contracts of package perm and of the document's answers beside it: each returns what a plain function says, and makes only new memory. -/
import Derived.Test.YtpjlpnnopibclaaLib
namespace Go.Proofs.Ytpjlpnnopibclaa
open Go.RowKit

def ownsB (id : Int) (wz : Bool) (o : Int) : Bool := wz || id == o
def hasB (a b : Int) : Bool := Go.bits BinOp.and IntKind.i64 a b != 0
/-- Who, as it is handed over. -/
abbrev whoV (id : Int) (wz pr : Bool) : Value := .agg #[.int .i64 id, .bool wz, .bool pr]
abbrev whoC (id : Int) (wz pr : Bool) : Obj := .cells #[.int .i64 id, .bool wz, .bool pr] 25
def slotB (own : Bool) (op sb : Int) : Bool := if op = 1 then own || hasB sb 1 else if op = 2 then own || hasB sb 2 else if op = 4 then own || hasB sb 0 else false
def rslotB (own : Bool) (op sb : Int) : Bool := if op = 1 then own || hasB sb 1 else if op = 2 then own || hasB sb 2 else if op = 4 then own else false
def verbB (own pr : Bool) (op vb : Int) : Bool := if op = 5 then own || hasB vb 1 else if op = 6 then pr && (own || hasB vb 2) else if op = 7 then hasB vb 4 else false
def objB (own wz pr : Bool) (op fl : Int) : Bool := if op = 8 then pr && (own || hasB fl 16) else if op = 3 then own || hasB fl 16 else if op = 13 then (if hasB fl 1 = true then wz else own) else if op = 10 then own else if op = 12 then own else if op = 14 then own else if op = 15 then wz else false
def twoB (own1 own2 own3 pr : Bool) (op pf : Int) : Bool := if op = 9 then pr && own1 && (hasB pf 32 || own3) else if op = 11 then own2 && (hasB pf 32 || own3) else false

theorem owns_any (id : Int) (wz pr : Bool) (o : Int) (w : World) :
    Calls Try.prog 21 #[whoV id wz pr, .int .i64 o] w fun e w' => e = .returned (.bool (ownsB id wz o)) ∧ w.alloc (whoC id wz pr) = w' := by
  cases wz
  all_goals
    go_enter Try.func21, Try.ntmps21
    go_wp2
    go_ret
    exact ⟨ret_bool (by simp [ownsB]), rfl⟩
theorem controls_any (id : Int) (wz pr : Bool) (oi oo of : Int) (o1 o3 o5 o6 o7 o8 o9 : Value) (w : World) :
    Calls Try.prog 13 #[whoV id wz pr, .agg #[.int .i64 oi, o1, .int .i64 oo, o3, .int .i64 of, o5, o6, o7, o8, o9]] w fun e w' => e = .returned (.bool (ownsB id wz oo)) ∧ ((w.alloc (whoC id wz pr)).alloc (.cells #[.int .i64 oi, o1, .int .i64 oo, o3, .int .i64 of, o5, o6, o7, o8, o9] 41)).alloc (whoC id wz pr) = w' := by
  go_enter Try.func13, Try.ntmps13
  go_wp2_with (go_at_call 21; refine (owns_any _ _ _ _ _).mono ?_; rintro e w' ⟨rfl, rfl⟩)
  go_ret
  exact ⟨rfl, rfl⟩
theorem rcontrols_any (id : Int) (wz pr : Bool) (oi oo of : Int) (o1 o3 o5 o6 o7 o8 o9 : Value) (w : World) :
    Calls Try.prog 14 #[whoV id wz pr, .agg #[.int .i64 oi, o1, .int .i64 oo, o3, .int .i64 of, o5, o6, o7, o8, o9]] w fun e w' => e = .returned (.bool (ownsB id wz oo)) ∧ (w.alloc (.cells #[.int .i64 id, .bool wz, .bool pr] 42)).alloc (.cells #[.int .i64 oi, o1, .int .i64 oo, o3, .int .i64 of, o5, o6, o7, o8, o9] 41) = w' := by
  have hsw : (oo == id) = (id == oo) := by
    rw [Bool.eq_iff_iff, beq_iff_eq, beq_iff_eq]
    exact eq_comm
  have HS := hid hsw; clear hsw
  cases wz
  all_goals
    go_enter Try.func14, Try.ntmps14
    go_wp2
    go_ret
    exact ⟨ret_bool (by simp [ownsB, HS.out]), rfl⟩

end Go.Proofs.Ytpjlpnnopibclaa
