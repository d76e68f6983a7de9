/- errors.Is of api's errors. -/
import Derived.Test.YtpceckmjoicdlaaDoorSee
import Derived.LaidEql
import Derived.Stop.Asserts
import Derived.RowKitTokens
namespace Go.Proofs.YtpceckmjoicdlaaDoor
open Go.RowKit Go.Extern.Stop Go.Stop Go.Extern

theorem Tryd.isTypeOf (v : Value) (w : World) : (Extern.ReflectliteType.typeOf #[.iface 168 v]).run Tryd.prog w = .ok (.iface 111 (.agg #[.pointer (some ⟨17, 168, none⟩)])) w := by kernel_rfl
theorem Tryd.isComparable (w : World) : ((Extern.ReflectliteType.method fun t => do Extern.Rtype.noPackHeld "Comparable" t; pure (.bool (← typeInfo t).comparable)) #[.agg #[.pointer (some ⟨17, 168, none⟩)]]).run Tryd.prog w = .ok (.bool true) w := by kernel_rfl
theorem Tryd.isMethodComparable (v : Value) (w : World) : (Go.method 303 111 v "Comparable").run Tryd.prog w = .ok (127, v) w := by kernel_rfl
theorem Tryd.runTypeOf (v : Value) (w : World) : (callFunc 50 #[.iface 168 v]).run Tryd.prog w = .ok (.value (.iface 111 (.agg #[.pointer (some ⟨17, 168, none⟩)]))) w := by
  rw [@run_callFunc_extern Tryd.prog 50 _ Extern.ReflectliteType.typeOf Tryd.func50 (by kernel_rfl) (by kernel_rfl) (by kernel_rfl) (by kernel_rfl), Tryd.isTypeOf]
  rfl
theorem Tryd.runComparable (w : World) : (callFunc 127 #[.agg #[.pointer (some ⟨17, 168, none⟩)]]).run Tryd.prog w = .ok (.value (.bool true)) w := by
  rw [@run_callFunc_extern Tryd.prog 127 _ (Extern.ReflectliteType.method fun t => do Extern.Rtype.noPackHeld "Comparable" t; pure (.bool (← typeInfo t).comparable)) Tryd.func127 (by kernel_rfl) (by kernel_rfl) (by kernel_rfl) (by kernel_rfl), Tryd.isComparable]
  rfl
theorem Tryd.isComp : (Tryd.prog.info? 168).map (·.comparable) = some true := by kernel_rfl
theorem Tryd.isSize : (Tryd.prog.info? 192).map (·.size) = some 1 := by kernel_rfl
theorem Tryd.noIsE (v : Value) (xT : TypeId) (w : World) : (Instr.typeAssert (.iface 168 v) xT 113 true).run Tryd.prog w = .ok (.tuple #[.nilIface, .bool false]) w := run_typeAssert_lacksB Tryd.underlying113 (by kernel_rfl) (by kernel_rfl) v xT w
theorem Tryd.noUnwrapE (v : Value) (xT : TypeId) (w : World) : (Instr.typeAssert (.iface 168 v) xT 116 true).run Tryd.prog w = .ok (.tuple #[.nilIface, .bool false]) w := run_typeAssert_lacksB Tryd.underlying116 (by kernel_rfl) (by kernel_rfl) v xT w
theorem Tryd.noUnwrapsE (v : Value) (xT : TypeId) (w : World) : (Instr.typeAssert (.iface 168 v) xT 117 true).run Tryd.prog w = .ok (.tuple #[.nilIface, .bool false]) w := run_typeAssert_lacksB Tryd.underlying117 (by kernel_rfl) (by kernel_rfl) v xT w
set_option maxRecDepth 100000 in
set_option maxHeartbeats 1600000 in
theorem eis_same (a : Addr) (w : World) : Calls Tryd.prog 24 #[.iface 168 (.pointer (some a)), .iface 168 (.pointer (some a))] w fun e w' => e = .returned (.bool true) ∧ w = w' := by
  obtain ⟨i, hi, hcmp⟩ := Option.map_eq_some_iff.1 Tryd.isComp
  obtain ⟨j, hj, hjs⟩ := Option.map_eq_some_iff.1 Tryd.isSize
  have h8 := Tryd.runTypeOf
  have h32 := Tryd.runComparable
  have mR := Tryd.isMethodComparable
  have heq := run_eql_iface_ptr_same (P := Tryd.prog) w a Tryd.underlying26 Tryd.underlying168 hi hcmp hj
  go_enter Tryd.func24, Tryd.ntmps24
  go_wp2
  refine wp_loop_rounds 1 ?_
  rw [rounds_succ]
  go_wp2
  go_ret
  exact ⟨rfl, rfl⟩
theorem eis_nil (b : Addr) (w : World) : Calls Tryd.prog 24 #[.nilIface, .iface 168 (.pointer (some b))] w fun e w' => e = .returned (.bool false) ∧ w = w' := by
  have hn := run_eql_iface_nil_left (P := Tryd.prog) w 168 (.pointer (some b)) Tryd.underlying26
  go_enter Tryd.func24, Tryd.ntmps24
  go_wp2
  go_ret
  exact ⟨rfl, rfl⟩
set_option maxRecDepth 100000 in
set_option maxHeartbeats 1600000 in
theorem eis_other {a b : Addr} {w : World} (hne : a ≠ b) (ha : Rowed w a) (hb : Rowed w b) : Calls Tryd.prog 24 #[.iface 168 (.pointer (some a)), .iface 168 (.pointer (some b))] w fun e w' => e = .returned (.bool false) ∧ w = w' := by
  obtain ⟨i, hi, hcmp⟩ := Option.map_eq_some_iff.1 Tryd.isComp
  obtain ⟨j, hj, hjs⟩ := Option.map_eq_some_iff.1 Tryd.isSize
  have h8 := Tryd.runTypeOf
  have h32 := Tryd.runComparable
  have mR := Tryd.isMethodComparable
  have nE := Tryd.noIsE
  have uE := Tryd.noUnwrapE
  have vE := Tryd.noUnwrapsE
  obtain ⟨ca, ta, ha⟩ := ha
  obtain ⟨cb, tb, hb⟩ := hb
  have heq := run_eql_iface_ptr_other (P := Tryd.prog) w Tryd.underlying26 Tryd.underlying168 hi hcmp hj (by rw [hjs]; decide) hne ha hb
  go_enter Tryd.func24, Tryd.ntmps24
  go_wp2
  refine wp_loop_rounds 1 ?_
  rw [rounds_succ]
  go_wp2
  go_ret
  exact ⟨rfl, rfl⟩
/-- errors.Is(err, ErrX). -/
theorem eis_any {w : World} {pa : Nat → Addr} (h : Sent17 w pa) (m : Nat) (hm : ErrNo m) (j : Nat) (hj : 101 ≤ j ∧ j ≤ 117) : Calls Tryd.prog 24 #[errV pa m, .iface 168 (.pointer (some (pa (j - 101))))] w fun e w' => e = .returned (.bool (decide (m = j))) ∧ w = w' := by
  rcases hm with rfl | ⟨h1, h2⟩
  · rw [decide_eq_false (by omega)]
    exact eis_nil _ _
  · unfold errV
    rw [if_neg (by omega)]
    by_cases e : m = j
    · subst e
      rw [decide_eq_true rfl]
      exact eis_same _ _
    · rw [decide_eq_false e]
      exact eis_other (h.n (m - 101) (j - 101) (by omega) (by omega) (by omega)) (h.r _ (by omega)) (h.r _ (by omega))
end Go.Proofs.YtpceckmjoicdlaaDoor
