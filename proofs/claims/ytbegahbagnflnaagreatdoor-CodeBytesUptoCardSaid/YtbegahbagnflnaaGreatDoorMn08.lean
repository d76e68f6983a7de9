import Derived.Test.YtbegahbagnflnaaGreatDoorMn07
import Derived.Test.YtbegahbagnflnaaGreatDoorMn04
import Derived.Test.YtbegahbagnflnaaGreatDoorMn01
import Derived.Deep.CutRange
set_option linter.unusedSimpArgs false
set_option linter.unusedVariables false
set_option linter.unnecessarySimpa false
namespace Go.Proofs.YtbegahbagnflnaaGreatDoor
section
open Go.RowKit
theorem dexpr_any (op : Int) (w : World) : Calls Tryz.prog 96 #[.int .i64 op] w fun e w' => e = .returned (.bool (isExpr op)) ∧ w = w' := by
 by_cases h1 : 1 ≤ op
 ·by_cases h2 : op ≤ 29
  ·by_cases h3 : op = 26
   ·subst h3
    go_enter Tryz.func96, Tryz.ntmps96
    go_wp2
    go_ret
    exact ⟨rfl, rfl⟩
   ·have q3 : (op != 26) = true := by simpa using h3
    have HE := hid (show isExpr op = true by unfold isExpr; rw [decide_eq_true h1, decide_eq_true h2, q3]; rfl)
    clear h3
    go_enter Tryz.func96, Tryz.ntmps96
    go_wp2
    go_ret
    exact ⟨ret_bool HE.out.symm, rfl⟩
  ·have HE := hid (show isExpr op = false by unfold isExpr; rw [decide_eq_true h1, decide_eq_false h2]; rfl)
   go_enter Tryz.func96, Tryz.ntmps96
   go_wp2
   go_ret
   exact ⟨ret_bool HE.out.symm, rfl⟩
 ·have HE := hid (show isExpr op = false by unfold isExpr; rw [decide_eq_false h1]; rfl)
  go_enter Tryz.func96, Tryz.ntmps96
  go_wp2
  go_ret
  exact ⟨ret_bool HE.out.symm, rfl⟩
theorem dstmt_any (op : Int) (w : World) : Calls Tryz.prog 97 #[.int .i64 op] w fun e w' => e = .returned (.bool (pStands op 7)) ∧ w = w' := by
 have HS := hid (show pStands op 7 = (decide (40 ≤ op) && decide (op ≤ 51) && op != 50) from rfl)
 by_cases h1 : 40 ≤ op
 ·by_cases h2 : op ≤ 51
  ·by_cases h3 : op = 50
   ·subst h3
    go_enter Tryz.func97, Tryz.ntmps97
    go_wp2
    go_ret
    exact ⟨rfl, rfl⟩
   ·have q3 : (op != 50) = true := by simpa using h3
    have HE := hid (show pStands op 7 = true by rw [HS.out, decide_eq_true h1, decide_eq_true h2, q3]; rfl)
    clear h3
    go_enter Tryz.func97, Tryz.ntmps97
    go_wp2
    go_ret
    exact ⟨ret_bool HE.out.symm, rfl⟩
  ·have HE := hid (show pStands op 7 = false by rw [HS.out, decide_eq_true h1, decide_eq_false h2]; rfl)
   go_enter Tryz.func97, Tryz.ntmps97
   go_wp2
   go_ret
   exact ⟨ret_bool HE.out.symm, rfl⟩
 ·have HE := hid (show pStands op 7 = false by rw [HS.out, decide_eq_false h1]; rfl)
  go_enter Tryz.func97, Tryz.ntmps97
  go_wp2
  go_ret
  exact ⟨ret_bool HE.out.symm, rfl⟩
def plc (role : Int) : Int := if role = 7 then 9 else if role = 8 then 8 else role + 1
set_option maxRecDepth 100000 in
set_option maxHeartbeats 3200000 in
theorem dstands_any (op role : Int) (h0 : 0 ≤ role) (h8 : role ≤ 8) (w : World) : Calls Tryz.prog 72 #[.int .i64 op, .int .i64 (plc role)] w fun e w' => e = .returned (.bool (pStands op role)) ∧ w = w' := by
 have HX := hid (dexpr_any op w)
 have HS := hid (dstmt_any op w)
 have hrole : role = 0 ∨ role = 1 ∨ role = 2 ∨ role = 3 ∨ role = 4 ∨ role = 5 ∨ role = 6 ∨ role = 7 ∨ role = 8 := by omega
 clear h0 h8
 rcases hrole with rfl | rfl | rfl | rfl | rfl | rfl | rfl | rfl | rfl
 ·rw [show plc 0 = 1 from rfl]
  go_enter Tryz.func72, Tryz.ntmps72
  go_wp2_with fail
  refine HX.out.mono ?_
  rintro e w2 ⟨rfl, rfl⟩
  go_wp2
  go_ret
  exact ⟨rfl, rfl⟩
 ·rw [show plc 1 = 2 from rfl]
  have HE := hid (show pStands op 1 = (isExpr op || op == 26) from rfl)
  generalize isExpr op = b at *
  cases b
  all_goals
   go_enter Tryz.func72, Tryz.ntmps72
   go_wp2_with fail
   refine HX.out.mono ?_
   rintro e w2 ⟨rfl, rfl⟩
   go_wp2
   go_ret
   exact ⟨ret_bool HE.out.symm, rfl⟩
 ·rw [show plc 2 = 3 from rfl]
  have HE := hid (show pStands op 2 = (op == 2 || op == 22 || op == 20) from rfl)
  cases q1 : (op == 2)
  ·cases q2 : (op == 22)
   ·have HE2 := hid (show pStands op 2 = (op == 20) by rw [HE.out, q1, q2]; rfl)
    clear HE
    go_enter Tryz.func72, Tryz.ntmps72
    go_wp2
    go_ret
    exact ⟨ret_bool HE2.out.symm, rfl⟩
   ·have HE2 := hid (show pStands op 2 = true by rw [HE.out, q1, q2]; rfl)
    clear HE
    go_enter Tryz.func72, Tryz.ntmps72
    go_wp2
    go_ret
    exact ⟨ret_bool HE2.out.symm, rfl⟩
  ·have HE2 := hid (show pStands op 2 = true by rw [HE.out, q1]; rfl)
   clear HE
   go_enter Tryz.func72, Tryz.ntmps72
   go_wp2
   go_ret
   exact ⟨ret_bool HE2.out.symm, rfl⟩
 ·rw [show plc 3 = 4 from rfl]
  go_enter Tryz.func72, Tryz.ntmps72
  go_wp2
  go_ret
  exact ⟨rfl, rfl⟩
 ·rw [show plc 4 = 5 from rfl]
  have HE := hid (show pStands op 4 = (op == 2 || op == 26) from rfl)
  cases q1 : (op == 2)
  ·have HE2 := hid (show pStands op 4 = (op == 26) by rw [HE.out, q1]; rfl)
   clear HE
   go_enter Tryz.func72, Tryz.ntmps72
   go_wp2
   go_ret
   exact ⟨ret_bool HE2.out.symm, rfl⟩
  ·have HE2 := hid (show pStands op 4 = true by rw [HE.out, q1]; rfl)
   clear HE
   go_enter Tryz.func72, Tryz.ntmps72
   go_wp2
   go_ret
   exact ⟨ret_bool HE2.out.symm, rfl⟩
 ·rw [show plc 5 = 6 from rfl]
  go_enter Tryz.func72, Tryz.ntmps72
  go_wp2
  go_ret
  exact ⟨rfl, rfl⟩
 ·rw [show plc 6 = 7 from rfl]
  go_enter Tryz.func72, Tryz.ntmps72
  go_wp2
  go_ret
  exact ⟨rfl, rfl⟩
 ·rw [show plc 7 = 9 from rfl]
  generalize pStands op 7 = b at *
  go_enter Tryz.func72, Tryz.ntmps72
  go_wp2_with fail
  refine HS.out.mono ?_
  rintro e w2 ⟨rfl, rfl⟩
  go_wp2
  go_ret
  exact ⟨rfl, rfl⟩
 ·rw [show plc 8 = 8 from rfl]
  go_enter Tryz.func72, Tryz.ntmps72
  go_wp2
  go_ret
  exact ⟨rfl, rfl⟩
def dCounts (op : Int) (n : Nat) : Bool :=
 if op = 1 ∨ op = 2 ∨ op = 45 ∨ op = 46 then decide (n = 0) else if op = 3 ∨ op = 4 ∨ op = 26 ∨ op = 40 then decide (n = 1) else if op = 19 ∨ op = 21 ∨ op = 43 then decide (n = 3) else if op = 23 ∨ op = 28 ∨ op = 41 ∨ op = 49 then decide (2 ≤ n)
 else if op = 24 ∨ op = 25 ∨ op = 52 then true else if op = 29 then decide (n = 2) || decide (n = 3) else if op = 47 then decide (n ≤ 1) else decide (n = 2)
set_option maxRecDepth 100000 in
set_option maxHeartbeats 3200000 in
theorem dcounts_any (op : Int) (n : Nat) (hn : n ≤ 4611686018427387904) (w : World) : Calls Tryz.prog 73 #[.int .i64 op, .int .i64 n] w fun e w' => e = .returned (.bool (dCounts op n)) ∧ w = w' := by
 have hnI : (n : Int) ≤ 4611686018427387904 := by omega
 by_cases h1 : op = 1
 ·subst h1
  have HR := hid (show dCounts 1 n = decide (n = 0) from rfl)
  have hb : ((n : Int) == 0) = decide (n = 0) := by
   by_cases h : n = 0
   ·rw [h]; rfl
   ·rw [decide_eq_false h, beq_eq_false_iff_ne]; omega
  go_enter Tryz.func73, Tryz.ntmps73
  go_wp2
  go_ret
  first | exact ⟨ret_bool HR.out.symm, rfl⟩ | exact ⟨ret_bool (hb.trans HR.out.symm), rfl⟩
 have q1 : (op == 1) = false := by simpa using h1
 by_cases h2 : op = 2
 ·subst h2
  have HR := hid (show dCounts 2 n = decide (n = 0) from rfl)
  have hb : ((n : Int) == 0) = decide (n = 0) := by
   by_cases h : n = 0
   ·rw [h]; rfl
   ·rw [decide_eq_false h, beq_eq_false_iff_ne]; omega
  go_enter Tryz.func73, Tryz.ntmps73
  go_wp2
  go_ret
  first | exact ⟨ret_bool HR.out.symm, rfl⟩ | exact ⟨ret_bool (hb.trans HR.out.symm), rfl⟩
 have q2 : (op == 2) = false := by simpa using h2
 by_cases h45 : op = 45
 ·subst h45
  have HR := hid (show dCounts 45 n = decide (n = 0) from rfl)
  have hb : ((n : Int) == 0) = decide (n = 0) := by
   by_cases h : n = 0
   ·rw [h]; rfl
   ·rw [decide_eq_false h, beq_eq_false_iff_ne]; omega
  go_enter Tryz.func73, Tryz.ntmps73
  go_wp2
  go_ret
  first | exact ⟨ret_bool HR.out.symm, rfl⟩ | exact ⟨ret_bool (hb.trans HR.out.symm), rfl⟩
 have q45 : (op == 45) = false := by simpa using h45
 by_cases h46 : op = 46
 ·subst h46
  have HR := hid (show dCounts 46 n = decide (n = 0) from rfl)
  have hb : ((n : Int) == 0) = decide (n = 0) := by
   by_cases h : n = 0
   ·rw [h]; rfl
   ·rw [decide_eq_false h, beq_eq_false_iff_ne]; omega
  go_enter Tryz.func73, Tryz.ntmps73
  go_wp2
  go_ret
  first | exact ⟨ret_bool HR.out.symm, rfl⟩ | exact ⟨ret_bool (hb.trans HR.out.symm), rfl⟩
 have q46 : (op == 46) = false := by simpa using h46
 by_cases h3 : op = 3
 ·subst h3
  have HR := hid (show dCounts 3 n = decide (n = 1) from rfl)
  have hb : ((n : Int) == 1) = decide (n = 1) := by
   by_cases h : n = 1
   ·rw [h]; rfl
   ·rw [decide_eq_false h, beq_eq_false_iff_ne]; omega
  go_enter Tryz.func73, Tryz.ntmps73
  go_wp2
  go_ret
  first | exact ⟨ret_bool HR.out.symm, rfl⟩ | exact ⟨ret_bool (hb.trans HR.out.symm), rfl⟩
 have q3 : (op == 3) = false := by simpa using h3
 by_cases h4 : op = 4
 ·subst h4
  have HR := hid (show dCounts 4 n = decide (n = 1) from rfl)
  have hb : ((n : Int) == 1) = decide (n = 1) := by
   by_cases h : n = 1
   ·rw [h]; rfl
   ·rw [decide_eq_false h, beq_eq_false_iff_ne]; omega
  go_enter Tryz.func73, Tryz.ntmps73
  go_wp2
  go_ret
  first | exact ⟨ret_bool HR.out.symm, rfl⟩ | exact ⟨ret_bool (hb.trans HR.out.symm), rfl⟩
 have q4 : (op == 4) = false := by simpa using h4
 by_cases h26 : op = 26
 ·subst h26
  have HR := hid (show dCounts 26 n = decide (n = 1) from rfl)
  have hb : ((n : Int) == 1) = decide (n = 1) := by
   by_cases h : n = 1
   ·rw [h]; rfl
   ·rw [decide_eq_false h, beq_eq_false_iff_ne]; omega
  go_enter Tryz.func73, Tryz.ntmps73
  go_wp2
  go_ret
  first | exact ⟨ret_bool HR.out.symm, rfl⟩ | exact ⟨ret_bool (hb.trans HR.out.symm), rfl⟩
 have q26 : (op == 26) = false := by simpa using h26
 by_cases h40 : op = 40
 ·subst h40
  have HR := hid (show dCounts 40 n = decide (n = 1) from rfl)
  have hb : ((n : Int) == 1) = decide (n = 1) := by
   by_cases h : n = 1
   ·rw [h]; rfl
   ·rw [decide_eq_false h, beq_eq_false_iff_ne]; omega
  go_enter Tryz.func73, Tryz.ntmps73
  go_wp2
  go_ret
  first | exact ⟨ret_bool HR.out.symm, rfl⟩ | exact ⟨ret_bool (hb.trans HR.out.symm), rfl⟩
 have q40 : (op == 40) = false := by simpa using h40
 by_cases h19 : op = 19
 ·subst h19
  have HR := hid (show dCounts 19 n = decide (n = 3) from rfl)
  have hb : ((n : Int) == 3) = decide (n = 3) := by
   by_cases h : n = 3
   ·rw [h]; rfl
   ·rw [decide_eq_false h, beq_eq_false_iff_ne]; omega
  go_enter Tryz.func73, Tryz.ntmps73
  go_wp2
  go_ret
  first | exact ⟨ret_bool HR.out.symm, rfl⟩ | exact ⟨ret_bool (hb.trans HR.out.symm), rfl⟩
 have q19 : (op == 19) = false := by simpa using h19
 by_cases h21 : op = 21
 ·subst h21
  have HR := hid (show dCounts 21 n = decide (n = 3) from rfl)
  have hb : ((n : Int) == 3) = decide (n = 3) := by
   by_cases h : n = 3
   ·rw [h]; rfl
   ·rw [decide_eq_false h, beq_eq_false_iff_ne]; omega
  go_enter Tryz.func73, Tryz.ntmps73
  go_wp2
  go_ret
  first | exact ⟨ret_bool HR.out.symm, rfl⟩ | exact ⟨ret_bool (hb.trans HR.out.symm), rfl⟩
 have q21 : (op == 21) = false := by simpa using h21
 by_cases h43 : op = 43
 ·subst h43
  have HR := hid (show dCounts 43 n = decide (n = 3) from rfl)
  have hb : ((n : Int) == 3) = decide (n = 3) := by
   by_cases h : n = 3
   ·rw [h]; rfl
   ·rw [decide_eq_false h, beq_eq_false_iff_ne]; omega
  go_enter Tryz.func73, Tryz.ntmps73
  go_wp2
  go_ret
  first | exact ⟨ret_bool HR.out.symm, rfl⟩ | exact ⟨ret_bool (hb.trans HR.out.symm), rfl⟩
 have q43 : (op == 43) = false := by simpa using h43
 by_cases h23 : op = 23
 ·subst h23
  have HR := hid (show dCounts 23 n = decide (2 ≤ n) from rfl)
  have hb : decide ((n : Int) ≥ 2) = decide (2 ≤ n) := by
   by_cases h : 2 ≤ n
   ·rw [decide_eq_true h, decide_eq_true (by omega)]
   ·rw [decide_eq_false h, decide_eq_false (by omega)]
  go_enter Tryz.func73, Tryz.ntmps73
  go_wp2
  go_ret
  first | exact ⟨ret_bool HR.out.symm, rfl⟩ | exact ⟨ret_bool (hb.trans HR.out.symm), rfl⟩
 have q23 : (op == 23) = false := by simpa using h23
 by_cases h28 : op = 28
 ·subst h28
  have HR := hid (show dCounts 28 n = decide (2 ≤ n) from rfl)
  have hb : decide ((n : Int) ≥ 2) = decide (2 ≤ n) := by
   by_cases h : 2 ≤ n
   ·rw [decide_eq_true h, decide_eq_true (by omega)]
   ·rw [decide_eq_false h, decide_eq_false (by omega)]
  go_enter Tryz.func73, Tryz.ntmps73
  go_wp2
  go_ret
  first | exact ⟨ret_bool HR.out.symm, rfl⟩ | exact ⟨ret_bool (hb.trans HR.out.symm), rfl⟩
 have q28 : (op == 28) = false := by simpa using h28
 by_cases h41 : op = 41
 ·subst h41
  have HR := hid (show dCounts 41 n = decide (2 ≤ n) from rfl)
  have hb : decide ((n : Int) ≥ 2) = decide (2 ≤ n) := by
   by_cases h : 2 ≤ n
   ·rw [decide_eq_true h, decide_eq_true (by omega)]
   ·rw [decide_eq_false h, decide_eq_false (by omega)]
  go_enter Tryz.func73, Tryz.ntmps73
  go_wp2
  go_ret
  first | exact ⟨ret_bool HR.out.symm, rfl⟩ | exact ⟨ret_bool (hb.trans HR.out.symm), rfl⟩
 have q41 : (op == 41) = false := by simpa using h41
 by_cases h49 : op = 49
 ·subst h49
  have HR := hid (show dCounts 49 n = decide (2 ≤ n) from rfl)
  have hb : decide ((n : Int) ≥ 2) = decide (2 ≤ n) := by
   by_cases h : 2 ≤ n
   ·rw [decide_eq_true h, decide_eq_true (by omega)]
   ·rw [decide_eq_false h, decide_eq_false (by omega)]
  go_enter Tryz.func73, Tryz.ntmps73
  go_wp2
  go_ret
  first | exact ⟨ret_bool HR.out.symm, rfl⟩ | exact ⟨ret_bool (hb.trans HR.out.symm), rfl⟩
 have q49 : (op == 49) = false := by simpa using h49
 by_cases h24 : op = 24
 ·subst h24
  have HR := hid (show dCounts 24 n = true from rfl)
  go_enter Tryz.func73, Tryz.ntmps73
  go_wp2
  go_ret
  exact ⟨ret_bool HR.out.symm, rfl⟩
 have q24 : (op == 24) = false := by simpa using h24
 by_cases h25 : op = 25
 ·subst h25
  have HR := hid (show dCounts 25 n = true from rfl)
  go_enter Tryz.func73, Tryz.ntmps73
  go_wp2
  go_ret
  exact ⟨ret_bool HR.out.symm, rfl⟩
 have q25 : (op == 25) = false := by simpa using h25
 by_cases h52 : op = 52
 ·subst h52
  have HR := hid (show dCounts 52 n = true from rfl)
  go_enter Tryz.func73, Tryz.ntmps73
  go_wp2
  go_ret
  exact ⟨ret_bool HR.out.symm, rfl⟩
 have q52 : (op == 52) = false := by simpa using h52
 by_cases h29 : op = 29
 ·subst h29
  have HR := hid (show dCounts 29 n = (decide (n = 2) || decide (n = 3)) from rfl)
  by_cases h2 : n = 2
  ·subst h2
   go_enter Tryz.func73, Tryz.ntmps73
   go_wp2
   go_ret
   exact ⟨ret_bool HR.out.symm, rfl⟩
  have q2 : ((n : Int) == 2) = false := by rw [beq_eq_false_iff_ne]; omega
  have HR := hid (show dCounts 29 n = decide (n = 3) by rw [HR.out, decide_eq_false h2]; rfl)
  have hb : ((n : Int) == 3) = decide (n = 3) := by
   by_cases h : n = 3
   ·rw [h]; rfl
   ·rw [decide_eq_false h, beq_eq_false_iff_ne]; omega
  go_enter Tryz.func73, Tryz.ntmps73
  go_wp2
  go_ret
  first | exact ⟨ret_bool HR.out.symm, rfl⟩ | exact ⟨ret_bool (hb.trans HR.out.symm), rfl⟩
 have q29 : (op == 29) = false := by simpa using h29
 by_cases h47 : op = 47
 ·subst h47
  have HR := hid (show dCounts 47 n = decide (n ≤ 1) from rfl)
  have hb : decide ((n : Int) ≤ 1) = decide (n ≤ 1) := by
   by_cases h : n ≤ 1
   ·rw [decide_eq_true h, decide_eq_true (by omega)]
   ·rw [decide_eq_false h, decide_eq_false (by omega)]
  go_enter Tryz.func73, Tryz.ntmps73
  go_wp2
  go_ret
  first | exact ⟨ret_bool HR.out.symm, rfl⟩ | exact ⟨ret_bool (hb.trans HR.out.symm), rfl⟩
 have q47 : (op == 47) = false := by simpa using h47
 have HR := hid (show dCounts op n = decide (n = 2) by unfold dCounts; repeat rw [if_neg (by omega)])
 clear h1 h2 h45 h46 h3 h4 h26 h40 h19 h21 h43 h23 h28 h41 h49 h24 h25 h52 h29 h47
 have hb : ((n : Int) == 2) = decide (n = 2) := by
  by_cases h : n = 2
  ·rw [h]; rfl
  ·rw [decide_eq_false h, beq_eq_false_iff_ne]; omega
 go_enter Tryz.func73, Tryz.ntmps73
 go_wp2
 go_ret
 first | exact ⟨ret_bool HR.out.symm, rfl⟩ | exact ⟨ret_bool (hb.trans HR.out.symm), rfl⟩
theorem dCounts_eq (op : Int) (n : Nat) (role : Int) (h0 : 0 ≤ role) (h8 : role ≤ 8) (h : pStands op role = true) : dCounts op n = pCounts op n := by
 have hop : (1 ≤ op ∧ op ≤ 29) ∨ (40 ≤ op ∧ op ≤ 52) := by
  have hrole : role = 0 ∨ role = 1 ∨ role = 2 ∨ role = 3 ∨ role = 4 ∨ role = 5 ∨ role = 6 ∨ role = 7 ∨ role = 8 := by omega
  rcases hrole with rfl | rfl | rfl | rfl | rfl | rfl | rfl | rfl | rfl
  all_goals simp [pStands, isExpr] at h
  all_goals omega
 have hl : op = 1 ∨ op = 2 ∨ op = 45 ∨ op = 46 ∨ op = 3 ∨ op = 4 ∨ op = 26 ∨ op = 40 ∨ op = 19 ∨ op = 21 ∨ op = 43 ∨ op = 23 ∨ op = 28 ∨ op = 41 ∨ op = 49 ∨ op = 24 ∨ op = 25 ∨ op = 52 ∨ op = 29 ∨ op = 47 ∨ (((5 ≤ op ∧ op ≤ 18) ∨ op = 20 ∨ op = 22) ∨ op = 27 ∨ op = 42 ∨ op = 44 ∨ op = 48 ∨ op = 50 ∨ op = 51) := by omega
 rcases hl with rfl | rfl | rfl | rfl | rfl | rfl | rfl | rfl | rfl | rfl | rfl | rfl | rfl | rfl | rfl | rfl | rfl | rfl | rfl | rfl | hl
 all_goals try rfl
 unfold dCounts pCounts
 rcases hl with hl | hl
 ·rw [if_neg (by omega), if_neg (by omega), if_neg (by omega), if_neg (by omega), if_neg (by omega), if_neg (by omega), if_neg (by omega), if_neg (by omega), if_neg (by omega), if_pos (by omega)]
 ·rw [if_neg (by omega), if_neg (by omega), if_neg (by omega), if_neg (by omega), if_neg (by omega), if_neg (by omega), if_neg (by omega), if_neg (by omega), if_neg (by omega), if_neg (by omega), if_neg (by omega), if_neg (by omega), if_neg (by omega), if_pos (by omega)]
def dPlace (op : Int) (n : Nat) (own : Int) (i : Nat) : Int :=
 if op = 23 then (if 2 ≤ i then 2 else 1) else if op = 24 then 2 else if op = 25 then (if own ≠ 6 then 2 else 1) else if op = 26 then (if own = 5 then 4 else 1) else if op = 20 then (if own = 3 ∧ i = 0 then 3 else 1)
 else if op = 27 then (if i = 0 then 3 else 1) else if op = 28 then (if (i : Int) = n - 2 then 5 else if (i : Int) < n - 2 then 4 else 1) else if op = 29 then (if i = 1 then 6 else 1) else if op = 50 then (if i = 0 then 6 else 7)
 else if op = 41 then (if i % 2 = 1 ∨ (i : Int) = n - 1 then 7 else 1) else if op = 42 ∨ op = 48 ∨ op = 44 ∨ op = 43 then (if (i : Int) = n - 1 then 7 else 1) else if op = 49 then (if 0 < i then 8 else 7) else if op = 51 then 7 else if op = 52 then 9 else 1
set_option maxRecDepth 100000 in
set_option maxHeartbeats 6400000 in
theorem dplace_any (op ln vk vn : Int) (s vs : ByteArray) (va : Value) (la : Option Addr) (n lc : Nat) (hn : n ≤ 1048576) (own : Int) (i : Nat) (hi : i < n) (w : World) : Calls Tryz.prog 75 #[.agg #[.int .i64 op, .int .i64 ln, .string s, .int .i64 vk, .int .i64 vn, .string vs, va, .slice la n lc], .int .i64 own, .int .i64 i] w fun e w' => e = .returned (.int .i64 (dPlace op n own i)) ∧ Fr (fun _ => False) w w' := by
 have hnI : (n : Int) ≤ 1048576 := by omega
 have hiI : (i : Int) < n := by omega
 have HF := hid ((Fr.refl (fun _ => False) w).alloc (.cells #[.int .i64 op, .int .i64 ln, .string s, .int .i64 vk, .int .i64 vn, .string vs, va, .slice la n lc] 75))
 by_cases h23 : op = 23
 ·subst h23
  by_cases hc : 2 ≤ i
  ·have HR := hid (show dPlace 23 n own i = 2 by exact if_pos hc)
   have g1 : (i : Int) ≥ 2 := by omega
   go_enter Tryz.func75, Tryz.ntmps75
   go_wp2_with fail
   go_ret
   exact ⟨ret_int HR.out.symm, HF.out⟩
  ·have HR := hid (show dPlace 23 n own i = 1 by exact if_neg hc)
   have g1 : ¬ (i : Int) ≥ 2 := by omega
   go_enter Tryz.func75, Tryz.ntmps75
   go_wp2_with fail
   go_ret
   exact ⟨ret_int HR.out.symm, HF.out⟩
 have q23 : (op == 23) = false := by simpa using h23
 by_cases h24 : op = 24
 ·subst h24
  have HR := hid (show dPlace 24 n own i = 2 from rfl)
  go_enter Tryz.func75, Tryz.ntmps75
  go_wp2_with fail
  go_ret
  exact ⟨ret_int HR.out.symm, HF.out⟩
 have q24 : (op == 24) = false := by simpa using h24
 by_cases h25 : op = 25
 ·subst h25
  by_cases hc : own ≠ 6
  ·have HR := hid (show dPlace 25 n own i = 2 by exact if_pos hc)
   have g1 : (own != 6) = true := by simpa using hc
   go_enter Tryz.func75, Tryz.ntmps75
   go_wp2_with fail
   go_ret
   exact ⟨ret_int HR.out.symm, HF.out⟩
  ·have HR := hid (show dPlace 25 n own i = 1 by exact if_neg hc)
   have g1 : (own != 6) = false := by simpa using hc
   go_enter Tryz.func75, Tryz.ntmps75
   go_wp2_with fail
   go_ret
   exact ⟨ret_int HR.out.symm, HF.out⟩
 have q25 : (op == 25) = false := by simpa using h25
 by_cases h26 : op = 26
 ·subst h26
  by_cases hc : own = 5
  ·have HR := hid (show dPlace 26 n own i = 4 by exact if_pos hc)
   have g1 : (own == 5) = true := by simpa using hc
   clear hc
   go_enter Tryz.func75, Tryz.ntmps75
   go_wp2_with fail
   go_ret
   exact ⟨ret_int HR.out.symm, HF.out⟩
  ·have HR := hid (show dPlace 26 n own i = 1 by exact if_neg hc)
   have g1 : (own == 5) = false := by simpa using hc
   go_enter Tryz.func75, Tryz.ntmps75
   go_wp2_with fail
   go_ret
   exact ⟨ret_int HR.out.symm, HF.out⟩
 have q26 : (op == 26) = false := by simpa using h26
 by_cases h20 : op = 20
 ·subst h20
  by_cases hc : own = 3 ∧ i = 0
  ·have HR := hid (show dPlace 20 n own i = 3 from if_pos hc)
   obtain ⟨rfl, rfl⟩ := hc
   go_enter Tryz.func75, Tryz.ntmps75
   go_wp2_with fail
   go_ret
   exact ⟨ret_int HR.out.symm, HF.out⟩
  ·have HR := hid (show dPlace 20 n own i = 1 from if_neg hc)
   cases g1 : (own == 3)
   ·go_enter Tryz.func75, Tryz.ntmps75
    go_wp2_with fail
    go_ret
    exact ⟨ret_int HR.out.symm, HF.out⟩
   ·have g2 : ((i : Int) == 0) = false := by rw [beq_eq_false_iff_ne]; exact fun h => hc ⟨by simpa using g1, by omega⟩
    go_enter Tryz.func75, Tryz.ntmps75
    go_wp2_with fail
    go_ret
    exact ⟨ret_int HR.out.symm, HF.out⟩
 have q20 : (op == 20) = false := by simpa using h20
 by_cases h27 : op = 27
 ·subst h27
  by_cases hc : i = 0
  ·have HR := hid (show dPlace 27 n own i = 3 by exact if_pos hc)
   have g1 : ((i : Int) == 0) = true := by simp; omega
   go_enter Tryz.func75, Tryz.ntmps75
   go_wp2_with fail
   go_ret
   exact ⟨ret_int HR.out.symm, HF.out⟩
  ·have HR := hid (show dPlace 27 n own i = 1 by exact if_neg hc)
   have g1 : ((i : Int) == 0) = false := by rw [beq_eq_false_iff_ne]; omega
   go_enter Tryz.func75, Tryz.ntmps75
   go_wp2_with fail
   go_ret
   exact ⟨ret_int HR.out.symm, HF.out⟩
 have q27 : (op == 27) = false := by simpa using h27
 by_cases h28 : op = 28
 ·subst h28
  by_cases hc : (i : Int) = n - 2
  ·have HR := hid (show dPlace 28 n own i = 5 from if_pos hc)
   have g1 : ((i : Int) == (n : Int) - 2) = true := by simpa using hc
   clear hc
   go_enter Tryz.func75, Tryz.ntmps75
   go_wp2_with fail
   go_ret
   exact ⟨ret_int HR.out.symm, HF.out⟩
  ·have g1 : ((i : Int) == (n : Int) - 2) = false := by simpa using hc
   by_cases hd : (i : Int) < n - 2
   ·have HR := hid (show dPlace 28 n own i = 4 from (if_neg hc).trans (if_pos hd))
    clear hc
    go_enter Tryz.func75, Tryz.ntmps75
    go_wp2_with fail
    go_ret
    exact ⟨ret_int HR.out.symm, HF.out⟩
   ·have HR := hid (show dPlace 28 n own i = 1 from (if_neg hc).trans (if_neg hd))
    clear hc
    go_enter Tryz.func75, Tryz.ntmps75
    go_wp2_with fail
    go_ret
    exact ⟨ret_int HR.out.symm, HF.out⟩
 have q28 : (op == 28) = false := by simpa using h28
 by_cases h29 : op = 29
 ·subst h29
  by_cases hc : i = 1
  ·have HR := hid (show dPlace 29 n own i = 6 by exact if_pos hc)
   have g1 : ((i : Int) == 1) = true := by simp; omega
   go_enter Tryz.func75, Tryz.ntmps75
   go_wp2_with fail
   go_ret
   exact ⟨ret_int HR.out.symm, HF.out⟩
  ·have HR := hid (show dPlace 29 n own i = 1 by exact if_neg hc)
   have g1 : ((i : Int) == 1) = false := by rw [beq_eq_false_iff_ne]; omega
   go_enter Tryz.func75, Tryz.ntmps75
   go_wp2_with fail
   go_ret
   exact ⟨ret_int HR.out.symm, HF.out⟩
 have q29 : (op == 29) = false := by simpa using h29
 by_cases h50 : op = 50
 ·subst h50
  by_cases hc : i = 0
  ·have HR := hid (show dPlace 50 n own i = 6 by exact if_pos hc)
   have g1 : ((i : Int) == 0) = true := by simp; omega
   go_enter Tryz.func75, Tryz.ntmps75
   go_wp2_with fail
   go_ret
   exact ⟨ret_int HR.out.symm, HF.out⟩
  ·have HR := hid (show dPlace 50 n own i = 7 by exact if_neg hc)
   have g1 : ((i : Int) == 0) = false := by rw [beq_eq_false_iff_ne]; omega
   go_enter Tryz.func75, Tryz.ntmps75
   go_wp2_with fail
   go_ret
   exact ⟨ret_int HR.out.symm, HF.out⟩
 have q50 : (op == 50) = false := by simpa using h50
 by_cases h41 : op = 41
 ·subst h41
  have h41 : dPlace 41 n own i = if i % 2 = 1 ∨ (i : Int) = n - 1 then 7 else 1 := rfl
  have hmod : (i : Int).tmod 2 = ((i % 2 : Nat) : Int) := by rw [Int.tmod_eq_emod_of_nonneg (by omega)]; omega
  rcases Nat.mod_two_eq_zero_or_one i with hp | hp
  ·rw [hp] at hmod
   by_cases hd : (i : Int) = n - 1
   ·have HR := hid (show dPlace 41 n own i = 7 by rw [h41, if_pos (Or.inr hd)])
    have g1 : ((i : Int) == (n : Int) - 1) = true := by simpa using hd
    clear hd hp
    go_enter Tryz.func75, Tryz.ntmps75
    go_wp2_with fail
    go_ret
    exact ⟨ret_int HR.out.symm, HF.out⟩
   ·have HR := hid (show dPlace 41 n own i = 1 by rw [h41, if_neg (by omega)])
    have g1 : ((i : Int) == (n : Int) - 1) = false := by simpa using hd
    clear hd hp
    go_enter Tryz.func75, Tryz.ntmps75
    go_wp2_with fail
    go_ret
    exact ⟨ret_int HR.out.symm, HF.out⟩
  ·rw [hp] at hmod
   have HR := hid (show dPlace 41 n own i = 7 by rw [h41, if_pos (Or.inl hp)])
   clear hp
   go_enter Tryz.func75, Tryz.ntmps75
   go_wp2_with fail
   go_ret
   exact ⟨ret_int HR.out.symm, HF.out⟩
 have q41 : (op == 41) = false := by simpa using h41
 by_cases h42 : op = 42
 ·subst h42
  by_cases hc : (i : Int) = n - 1
  ·have HR := hid (show dPlace 42 n own i = 7 by exact if_pos hc)
   have g1 : ((i : Int) == (n : Int) - 1) = true := by simpa using hc
   clear hc
   go_enter Tryz.func75, Tryz.ntmps75
   go_wp2_with fail
   go_ret
   exact ⟨ret_int HR.out.symm, HF.out⟩
  ·have HR := hid (show dPlace 42 n own i = 1 by exact if_neg hc)
   have g1 : ((i : Int) == (n : Int) - 1) = false := by simpa using hc
   clear hc
   go_enter Tryz.func75, Tryz.ntmps75
   go_wp2_with fail
   go_ret
   exact ⟨ret_int HR.out.symm, HF.out⟩
 have q42 : (op == 42) = false := by simpa using h42
 by_cases h48 : op = 48
 ·subst h48
  by_cases hc : (i : Int) = n - 1
  ·have HR := hid (show dPlace 48 n own i = 7 by exact if_pos hc)
   have g1 : ((i : Int) == (n : Int) - 1) = true := by simpa using hc
   clear hc
   go_enter Tryz.func75, Tryz.ntmps75
   go_wp2_with fail
   go_ret
   exact ⟨ret_int HR.out.symm, HF.out⟩
  ·have HR := hid (show dPlace 48 n own i = 1 by exact if_neg hc)
   have g1 : ((i : Int) == (n : Int) - 1) = false := by simpa using hc
   clear hc
   go_enter Tryz.func75, Tryz.ntmps75
   go_wp2_with fail
   go_ret
   exact ⟨ret_int HR.out.symm, HF.out⟩
 have q48 : (op == 48) = false := by simpa using h48
 by_cases h44 : op = 44
 ·subst h44
  by_cases hc : (i : Int) = n - 1
  ·have HR := hid (show dPlace 44 n own i = 7 by exact if_pos hc)
   have g1 : ((i : Int) == (n : Int) - 1) = true := by simpa using hc
   clear hc
   go_enter Tryz.func75, Tryz.ntmps75
   go_wp2_with fail
   go_ret
   exact ⟨ret_int HR.out.symm, HF.out⟩
  ·have HR := hid (show dPlace 44 n own i = 1 by exact if_neg hc)
   have g1 : ((i : Int) == (n : Int) - 1) = false := by simpa using hc
   clear hc
   go_enter Tryz.func75, Tryz.ntmps75
   go_wp2_with fail
   go_ret
   exact ⟨ret_int HR.out.symm, HF.out⟩
 have q44 : (op == 44) = false := by simpa using h44
 by_cases h43 : op = 43
 ·subst h43
  by_cases hc : (i : Int) = n - 1
  ·have HR := hid (show dPlace 43 n own i = 7 by exact if_pos hc)
   have g1 : ((i : Int) == (n : Int) - 1) = true := by simpa using hc
   clear hc
   go_enter Tryz.func75, Tryz.ntmps75
   go_wp2_with fail
   go_ret
   exact ⟨ret_int HR.out.symm, HF.out⟩
  ·have HR := hid (show dPlace 43 n own i = 1 by exact if_neg hc)
   have g1 : ((i : Int) == (n : Int) - 1) = false := by simpa using hc
   clear hc
   go_enter Tryz.func75, Tryz.ntmps75
   go_wp2_with fail
   go_ret
   exact ⟨ret_int HR.out.symm, HF.out⟩
 have q43 : (op == 43) = false := by simpa using h43
 by_cases h49 : op = 49
 ·subst h49
  by_cases hc : 0 < i
  ·have HR := hid (show dPlace 49 n own i = 8 by exact if_pos hc)
   have g1 : (i : Int) > 0 := by omega
   go_enter Tryz.func75, Tryz.ntmps75
   go_wp2_with fail
   go_ret
   exact ⟨ret_int HR.out.symm, HF.out⟩
  ·have HR := hid (show dPlace 49 n own i = 7 by exact if_neg hc)
   have g1 : ¬ (i : Int) > 0 := by omega
   go_enter Tryz.func75, Tryz.ntmps75
   go_wp2_with fail
   go_ret
   exact ⟨ret_int HR.out.symm, HF.out⟩
 have q49 : (op == 49) = false := by simpa using h49
 by_cases h51 : op = 51
 ·subst h51
  have HR := hid (show dPlace 51 n own i = 7 from rfl)
  go_enter Tryz.func75, Tryz.ntmps75
  go_wp2_with fail
  go_ret
  exact ⟨ret_int HR.out.symm, HF.out⟩
 have q51 : (op == 51) = false := by simpa using h51
 by_cases h52 : op = 52
 ·subst h52
  have HR := hid (show dPlace 52 n own i = 9 from rfl)
  go_enter Tryz.func75, Tryz.ntmps75
  go_wp2_with fail
  go_ret
  exact ⟨ret_int HR.out.symm, HF.out⟩
 have q52 : (op == 52) = false := by simpa using h52
 have HR := hid (show dPlace op n own i = 1 by unfold dPlace; repeat rw [if_neg (by omega)])
 clear h23 h24 h25 h26 h20 h27 h28 h29 h50 h41 h42 h48 h44 h43 h49 h51 h52
 go_enter Tryz.func75, Tryz.ntmps75
 go_wp2_with fail
 go_ret
 exact ⟨ret_int HR.out.symm, HF.out⟩
end
section
open Go.RowKit
def bf : List UInt8 → List UInt8 → Bool
 | [], b => !b.isEmpty
 | _ :: _, [] => false
 | x :: r, y :: t => if x = y then bf r t else decide (x.toNat < y.toNat)
theorem bytes_drop (a : ByteArray) (k : Nat) (h : k < a.size) : a.data.toList.drop k = a[k] :: a.data.toList.drop (k + 1) := by
 have h' : k < a.data.toList.length := by simpa using h
 rw [List.drop_eq_getElem_cons h']
 rfl
set_option maxHeartbeats 1600000 in
theorem before_any (a b : ByteArray) (ha : a.size ≤ 1099511627776) (hb : b.size ≤ 1099511627776) (w : World) : Calls Tryz.prog 46 #[.string a, .string b] w fun e w' => e = .returned (.bool (bf a.data.toList b.data.toList)) ∧ Fr (fun _ => False) w w' := by
 have haI : (a.size : Int) ≤ 1099511627776 := by omega
 have hbI : (b.size : Int) ≤ 1099511627776 := by omega
 obtain ⟨r, hr⟩ : ∃ r, bf a.data.toList b.data.toList = r := ⟨_, rfl⟩
 rw [hr]
 have HR := hid hr
 clear hr ha hb
 go_enter Tryz.func46, Tryz.ntmps46
 go_wp2_with fail
 go_loopw [5] (fun i wr => ∃ k : Nat, k ≤ a.size ∧ k ≤ b.size ∧ i = .int .i64 k ∧ Hid (bf (a.data.toList.drop k) (b.data.toList.drop k) = r) ∧ Fr (fun _ => False) w wr) (fun i _ => a.size - (intOf i).toNat)
 case atStart => exact ⟨0, Nat.zero_le _, Nat.zero_le _, rfl, HR, Fr.refl _ _⟩
 case round =>
  obtain ⟨k, hka, hkb, rfl, HB, hf⟩ := hrel
  by_cases h1 : k < a.size
  ·by_cases h2 : k < b.size
   ·have h1I : (k : Int) < a.size := by omega
    have h2I : (k : Int) < b.size := by omega
    have HF := hid hf
    have hst : bf (a.data.toList.drop k) (b.data.toList.drop k) = if a[k] = b[k] then bf (a.data.toList.drop (k + 1)) (b.data.toList.drop (k + 1)) else decide (a[k].toNat < b[k].toNat) := by
     rw [bytes_drop a k h1, bytes_drop b k h2, bf]
    have HST := hid hst
    clear hst hf
    by_cases he : a[k] = b[k]
    ·have HB2 := hid (show bf (a.data.toList.drop (k + 1)) (b.data.toList.drop (k + 1)) = r by rw [← HB.out, HST.out, if_pos he])
     have hq : ((a[k].toNat : Int) != (b[k].toNat : Int)) = false := by rw [he]; simp
     clear he
     go_upto_region 4 with fail
     refine wp_region_cls (fun w' => Fr (fun _ => False) wr w') (by kernel_rfl) (by kernel_rfl) (Fr.refl _ _).drew ?_
     iterate 7 (refine q_take ?_ (by kernel_rfl) ?_ ?_; rotate_left; (· intro w' hS; go_simp; try with_reducible rfl); (try simp only [Act.put, List.setIfInBounds_toArray, List.set_cons_zero, List.set_cons_succ]))
     refine q_end (fun w' hw => ?_)
     have HF2 := hid (HF.out.trans' hw)
     clear hw
     go_wp2_with fail
     go_roundw
     case rel => exact ⟨k + 1, by omega, by omega, by go_num, HB2, HF2.out⟩
     case measure => simp [intOf]; omega
    ·have HR2 := hid (show decide (a[k].toNat < b[k].toNat) = r by rw [← HB.out, HST.out, if_neg he])
     have hne : a[k].toNat ≠ b[k].toNat := fun h => he (UInt8.toNat_inj.1 h)
     have hq : ((a[k].toNat : Int) != (b[k].toNat : Int)) = true := by simp; omega
     clear he hne
     go_upto_region 4 with fail
     refine wp_region_cls (fun w' => Fr (fun _ => False) wr w') (by kernel_rfl) (by kernel_rfl) (Fr.refl _ _).drew ?_
     iterate 7 (refine q_take ?_ (by kernel_rfl) ?_ ?_; rotate_left; (· intro w' hS; go_simp; try with_reducible rfl); (try simp only [Act.put, List.setIfInBounds_toArray, List.set_cons_zero, List.set_cons_succ]))
     refine q_end (fun w' hw => ?_)
     have HF2 := hid (HF.out.trans' hw)
     clear hw
     go_upto_region 5 with fail
     refine wp_region_cls (fun w2 => Fr (fun _ => False) w' w2) (by kernel_rfl) (by kernel_rfl) (Fr.refl _ _).drew ?_
     iterate 8 (refine q_take ?_ (by kernel_rfl) ?_ ?_; rotate_left; (· intro w' hS; go_simp; try with_reducible rfl); (try simp only [Act.put, List.setIfInBounds_toArray, List.set_cons_zero, List.set_cons_succ]))
     refine q_end (fun w2 hw => ?_)
     have HF3 := hid (HF2.out.trans' hw)
     clear hw
     go_wp2_with fail
     go_ret
     exact ⟨ret_bool HR2.out, HF3.out⟩
   ·have h1I : (k : Int) < a.size := by omega
    have h2I : ¬ (k : Int) < b.size := by omega
    have hbk : k = b.size := by omega
    have HR2 := hid (show false = r by
     rw [← HB.out, bytes_drop a k h1, List.drop_of_length_le (show b.data.toList.length ≤ k by simp; omega)]
     rfl)
    have hlt : ¬ (a.size : Int) < b.size := by omega
    have HF := hid hf
    go_wp2_with fail
    go_ret
    exact ⟨ret_bool HR2.out, HF.out⟩
  ·obtain rfl : k = a.size := by omega
   have HF := hid hf
   have HR2 := hid (show decide (a.size < b.size) = r by
    rw [← HB.out, List.drop_of_length_le (show a.data.toList.length ≤ a.size by simp)]
    rw [bf]
    by_cases h : a.size < b.size
    ·rw [decide_eq_true (by omega), bytes_drop b _ h]; rfl
    ·rw [decide_eq_false (by omega), List.drop_of_length_le (show b.data.toList.length ≤ a.size by simp; omega)]; rfl)
   clear hf
   go_wp2_with fail
   go_ret
   exact ⟨ret_bool HR2.out, HF.out⟩
theorem Tryz.info_st : (Tryz.prog.info? 9).map (fun i => (i.zero, i.size, i.bytes)) = some (some (.string ⟨#[]⟩), 1, 16) := by kernel_rfl
def insT (L : List ByteArray) (q : Nat) (y : ByteArray) : List ByteArray := L.take q ++ [y] ++ L.drop q
theorem insT_mem (L : List ByteArray) (q : Nat) (y s : ByteArray) : s ∈ insT L q y ↔ s ∈ L ∨ s = y := by
 have h : s ∈ L ↔ s ∈ L.take q ∨ s ∈ L.drop q := by rw [← List.mem_append, List.take_append_drop]
 simp only [insT, List.mem_append, List.mem_singleton, h]
 constructor
 ·rintro ((h | h) | h)
  ·exact .inl (.inl h)
  ·exact .inr h
  ·exact .inl (.inr h)
 ·rintro ((h | h) | h)
  ·exact .inl (.inl h)
  ·exact .inr h
  ·exact .inl (.inr h)
theorem insT_length (L : List ByteArray) (q : Nat) (y : ByteArray) (h : q ≤ L.length) : (insT L q y).length = L.length + 1 := by
 simp [insT]
 omega
theorem ba_ext {a b : ByteArray} (h : a.data.toList = b.data.toList) : a = b := by
 cases a; cases b; simp at h; rw [h]
theorem bf_trans : ∀ {a b c : List UInt8}, bf a b = true → bf b c = true → bf a c = true
 | [], _, [], _, h => by rename_i b _; cases b <;> simp [bf] at h
 | [], _, _ :: _, _, _ => rfl
 | _ :: _, [], _, h, _ => by simp [bf] at h
 | _ :: _, _ :: _, [], _, h => by simp [bf] at h
 | x :: r, y :: t, z :: u, h, h' => by
  rw [bf] at h h' ⊢
  by_cases e1 : x = y
  ·subst e1
   rw [if_pos rfl] at h
   by_cases e2 : x = z
   ·rw [if_pos e2] at h' ⊢; exact bf_trans h h'
   ·rw [if_neg e2] at h' ⊢; exact h'
  ·rw [if_neg e1] at h
   by_cases e2 : y = z
   ·subst e2; rw [if_neg e1]; exact h
   ·rw [if_neg e2] at h'
    have h1 := of_decide_eq_true h
    have h2 := of_decide_eq_true h'
    rw [if_neg (fun e => by subst e; omega)]
    exact decide_eq_true (by omega)
theorem bf_tri : ∀ {a b : List UInt8}, bf a b = false → a ≠ b → bf b a = true
 | [], [], _, h => absurd rfl h
 | [], _ :: _, h, _ => by simp [bf] at h
 | _ :: _, [], _, _ => rfl
 | x :: r, y :: t, h, hn => by
  rw [bf] at h ⊢
  by_cases e : x = y
  ·subst e
   rw [if_pos rfl] at h ⊢
   exact bf_tri h fun e => hn (by rw [e])
  ·rw [if_neg e] at h
   rw [if_neg (fun e' => e e'.symm)]
   have h1 := of_decide_eq_false h
   have h2 : x.toNat ≠ y.toNat := fun h => e (UInt8.toNat_inj.1 h)
   exact decide_eq_true (by omega)
def StrictT (L : List ByteArray) : Prop := L.Pairwise fun a b => bf a.data.toList b.data.toList = true
theorem insT_strict {L : List ByteArray} {q : Nat} {y : ByteArray} (h : StrictT L) (hq : q ≤ L.length) (h1 : ∀ j, j < q → bf (L.getD j ByteArray.empty).data.toList y.data.toList = true) (h2 : q < L.length → bf y.data.toList (L.getD q ByteArray.empty).data.toList = true) : StrictT (insT L q y) := by
 have hlow : ∀ x ∈ L.take q, bf x.data.toList y.data.toList = true := fun x hx => by
  obtain ⟨j, hj, rfl⟩ := List.mem_iff_getElem.1 hx
  have hjq : j < q := by simp at hj; omega
  have := h1 j hjq
  rw [List.getElem_take]
  simpa [List.getD, show j < L.length by omega] using this
 have hhigh : ∀ x ∈ L.drop q, bf y.data.toList x.data.toList = true := fun x hx => by
  by_cases hql : q < L.length
  ·have h3 := h2 hql
   have hd : L.drop q = L.getD q ByteArray.empty :: L.drop (q + 1) := by
    rw [List.drop_eq_getElem_cons hql]; simp [List.getD, hql]
   have hp : StrictT (L.drop q) := List.Pairwise.sublist (List.drop_sublist q L) h
   rw [hd] at hp hx
   rcases List.mem_cons.1 hx with rfl | hx
   ·exact h3
   ·exact bf_trans h3 ((List.pairwise_cons.1 hp).1 x hx)
  ·rw [List.drop_of_length_le (by omega)] at hx; cases hx
 unfold StrictT insT
 rw [List.append_assoc, List.pairwise_append]
 refine ⟨List.Pairwise.sublist (List.take_sublist q L) h, ?_, ?_⟩
 ·rw [List.singleton_append, List.pairwise_cons]
  exact ⟨hhigh, List.Pairwise.sublist (List.drop_sublist q L) h⟩
 ·intro a ha b hb
  rcases List.mem_append.1 hb with hb | hb
  ·rw [List.mem_singleton.1 hb]; exact hlow a ha
  ·exact bf_trans (hlow a ha) (hhigh b hb)
theorem mem_step {l : List ByteArray} {k : Nat} (h : k < l.length) (s : ByteArray) : s ∈ l.take (k + 1) ↔ s ∈ l.take k ∨ s = l.getD k ByteArray.empty := by
 rw [List.take_succ_eq_append_getElem h, List.mem_append]
 simp [List.getD, h]
set_option maxRecDepth 100000 in
set_option maxHeartbeats 6400000 in
theorem rising_exact (l : List ByteArray) (hl : l.length ≤ 1048576) (hs : ∀ s ∈ l, s.size ≤ 1099511627776) (D : Nat → Prop) (w : World) (v : Value) (h : Ss D w v l) : Calls Tryz.prog 22 #[v] w fun e w' => ∃ (L : List ByteArray) (v' : Value), e = .returned v' ∧ w'.ownsRow w.heap.size 9 1 v' L.length (sV L) ∧ (∀ s, s ∈ L ↔ s ∈ l) ∧ StrictT L ∧ L.length ≤ l.length ∧ Fr (fun _ => False) w w' := by
 obtain ⟨a, c, rfl, h1, h2, hk⟩ := h
 have HC := hid hk
 have hlI : (l.length : Int) ≤ 1048576 := by omega
 have HS := hid hs; have HLL := hid hl
 clear hk h1 h2 hs hl
 obtain ⟨si, i1, i2, i3, i4⟩ := info_parts Tryz.info_st
 have HI1 := hid i1; have HI2 := hid i2; have HI3 := hid i3; have HI4 := hid i4
 clear i1 i2 i3 i4
 go_enter Tryz.func22, Tryz.ntmps22
 go_wp2_with fail
 go_loopw [3, 4] (fun ov i wr => ∃ (k : Nat) (L : List ByteArray), k ≤ l.length ∧ i = .int .i64 k ∧ Hid (wr.ownsRow w.heap.size 9 1 ov L.length (sV L)) ∧ Hid (∀ s, s ∈ L ↔ s ∈ l.take k) ∧ Hid (StrictT L) ∧ L.length ≤ k ∧ Fr (fun _ => False) w wr) (fun _ i _ => l.length - (intOf i).toNat)
 case atStart => exact ⟨0, [], Nat.zero_le _, rfl, hid (World.ownsRow_nil _ _ _ _), hid (fun s => by simp), hid List.Pairwise.nil, Nat.le_refl _, Fr.refl _ _⟩
 case round =>
  obtain ⟨k, L, hk, rfl, HO, HM, HSTR, hLk, hf⟩ := hrel
  by_cases hlt : k < l.length
  ·obtain ⟨b, o, rfl, -, hcw⟩ := HC.out k hlt
   have hlt' : (k : Int) < l.length := by omega
   have HY := hid (hf.cell hcw not_false)
   have HMS := hid (fun s => mem_step hlt s)
   have HYS := hid (show (l.getD k ByteArray.empty).size ≤ 1099511627776 from HS.out _ (by simp [List.getD, hlt]))
   obtain ⟨y, hy⟩ : ∃ y, l.getD k ByteArray.empty = y := ⟨_, rfl⟩
   rw [hy] at HY HMS HYS
   have hLI : (L.length : Int) ≤ 1048576 := by have := HLL.out; omega
   have HLM := hid (show ∀ s ∈ L, s.size ≤ 1099511627776 from fun s hs => HS.out s (List.mem_of_mem_take ((HM.out s).1 hs)))
   have HF := hid hf
   have HLK := hid hLk
   obtain ⟨ao, oc, rfl, -, HAO, hsrc⟩ := own_src HO.out
   have HAO := hid HAO
   have HSR := hid hsrc
   clear hcw hf hy hsrc hLk
   generalize wr = wo at *
   go_wp2_with fail
   go_loopw [5] (fun j wq => ∃ q : Nat, q ≤ L.length ∧ j = .int .i64 q ∧ Hid (∀ j, j < q → bf (L.getD j ByteArray.empty).data.toList y.data.toList = true) ∧ Fr (fun _ => False) wo wq) (fun j _ => L.length - (intOf j).toNat)
   case atStart => exact ⟨0, Nat.zero_le _, rfl, hid (fun j hj => absurd hj (Nat.not_lt_zero j)), Fr.refl _ _⟩
   case round =>
    obtain ⟨q, hq, rfl, HLOW, hfq⟩ := hrel
    have HFQ := hid hfq
    clear hfq
    go_upto_region 6 with fail
    go_cut [27] from 13 to 27 (fun c wx => c = .bool (decide (q < L.length) && bf (L.getD q ByteArray.empty).data.toList y.data.toList) ∧ Hid (Fr (fun _ => False) wr wx))
    case first =>
     by_cases hql : q < L.length
     ·obtain ⟨b2, o2, rfl, hx⟩ := HSR.out q hql
      have hqI : (q : Int) < L.length := by omega
      have hx2 : wo.cell? ⟨b2, o2 + q, none⟩ = some (.string (L.getD q ByteArray.empty)) := by rw [hx]; simp [sV, List.getD, hql]
      have HX := hid hx2
      have HXS := hid (show (L.getD q ByteArray.empty).size ≤ 1099511627776 from HLM.out _ (by simp [List.getD, hql]))
      have hd : decide (q < L.length) = true := decide_eq_true hql
      clear hx hx2
      generalize L.getD q ByteArray.empty = x at *
      have HBF := hid (fun w => before_any x y HXS.out HYS.out w)
      generalize bf x.data.toList y.data.toList = bb at *
      refine wp_region_cls (fun w' => Fr (fun _ => False) wr w') (by kernel_rfl) (by kernel_rfl) (Fr.refl _ _).drew ?_
      iterate 8 (refine q_take ?_ (by kernel_rfl) ?_ ?_; rotate_left; (· intro w' hS; go_simp; try with_reducible rfl); (try simp only [Act.put, List.setIfInBounds_toArray, List.set_cons_zero, List.set_cons_succ]))
      (refine q_take ?_ (by kernel_rfl) ?_ ?_; rotate_left; (· intro w' hS; have d0 := (HFQ.out.trans' hS).cell HX.out not_false; go_simp; try with_reducible rfl); (try simp only [Act.put, List.setIfInBounds_toArray, List.set_cons_zero, List.set_cons_succ]))
      iterate 3 (refine q_take ?_ (by kernel_rfl) ?_ ?_; rotate_left; (· intro w' hS; go_simp; try with_reducible rfl); (try simp only [Act.put, List.setIfInBounds_toArray, List.set_cons_zero, List.set_cons_succ]))
      (refine q_take ?_ (by kernel_rfl) ?_ ?_; rotate_left; (· intro w' hS; have d0 := (HFQ.out.trans' hS).cell HY.out not_false; go_simp; try with_reducible rfl); (try simp only [Act.put, List.setIfInBounds_toArray, List.set_cons_zero, List.set_cons_succ]))
      (refine q_call ?_ ?_ (by kernel_rfl) ?_ ?_; rotate_left 2; (· intro w' hS; go_simp; first | with_reducible rfl | (constructor <;> with_reducible rfl)); (refine ⟨_, fun w' hw => (HBF.out w').mono fun _ _ h => ⟨h.1, hw.trans' h.2⟩, ?_⟩); (try simp only [Act.put, List.setIfInBounds_toArray, List.set_cons_zero, List.set_cons_succ]))
      (refine q_take ?_ (by kernel_rfl) ?_ ?_; rotate_left; (· intro w' hS; go_simp; try with_reducible rfl); (try simp only [Act.put, List.setIfInBounds_toArray, List.set_cons_zero, List.set_cons_succ]))
      refine q_end (fun w' hw => ?_)
      have HW := hid hw
      clear hw
      go_wp2_with fail
      go_meet
      exact ⟨by rw [hd]; rfl, HW⟩
     ·have hqI : ¬ (q : Int) < L.length := by omega
      have hd : decide (q < L.length) = false := decide_eq_false hql
      go_quiet (fail)
      go_wp2_with fail
      go_meet
      exact ⟨by rw [hd]; rfl, hid ((Fr.refl (fun _ => False) _).drewN _)⟩
    case rest =>
    obtain ⟨rfl, HWC⟩ := hcut
    obtain ⟨cb, hcb⟩ : ∃ cb, (decide (q < L.length) && bf (L.getD q ByteArray.empty).data.toList y.data.toList) = cb := ⟨_, rfl⟩
    rw [hcb]
    have HCB := hid hcb
    have HFC := hid (HFQ.out.trans' HWC.out)
    clear hcb
    cases cb
    case true =>
     have hql : q < L.length := by
      have := HCB.out
      simp at this
      exact this.1
     have hqI : (q : Int) < L.length := by omega
     have HLOW2 := hid (show ∀ j, j < q + 1 → bf (L.getD j ByteArray.empty).data.toList y.data.toList = true from fun j hj => by
      by_cases e : j = q
      ·subst e
       have := HCB.out
       rw [Bool.and_eq_true] at this
       exact this.2
      ·exact HLOW.out j (by omega))
     go_wp2_with fail
     go_roundw
     case rel => exact ⟨q + 1, by omega, by go_num, HLOW2, HFC.out⟩
     case measure => simp [intOf]; omega
    case false =>
    obtain ⟨w6, hw6⟩ : ∃ W, W = wc := ⟨wc, rfl⟩
    rw [← hw6] at HFC HWC ⊢
    clear hw6
    go_upto_region 8 with fail
    go_cut [44] from 30 to 44 (fun c wx => c = .bool (decide (q < L.length ∧ L.getD q ByteArray.empty = y)) ∧ Hid (Fr (fun _ => False) w6 wx))
    case first =>
     by_cases hql : q < L.length
     ·obtain ⟨b2, o2, rfl, hx⟩ := HSR.out q hql
      have hqI : (q : Int) < L.length := by omega
      have hx2 : wo.cell? ⟨b2, o2 + q, none⟩ = some (.string (L.getD q ByteArray.empty)) := by rw [hx]; simp [sV, List.getD, hql]
      have HX := hid hx2
      obtain ⟨eb, heb⟩ : ∃ eb, decide (q < L.length ∧ L.getD q ByteArray.empty = y) = eb := ⟨_, rfl⟩
      have hqe : ((L.getD q ByteArray.empty).toList == y.toList) = eb := by
       rw [← heb]
       by_cases h : L.getD q ByteArray.empty = y
       ·rw [decide_eq_true ⟨hql, h⟩]; exact toList_same h
       ·rw [decide_eq_false fun h' => h h'.2]; exact toList_ne h
      have HEB := hid heb
      clear hx hx2 heb
      generalize L.getD q ByteArray.empty = x at *
      refine wp_region_cls (fun w' => Fr (fun _ => False) w6 w') (by kernel_rfl) (by kernel_rfl) (Fr.refl _ _).drew ?_
      iterate 8 (refine q_take ?_ (by kernel_rfl) ?_ ?_; rotate_left; (· intro w' hS; go_simp; try with_reducible rfl); (try simp only [Act.put, List.setIfInBounds_toArray, List.set_cons_zero, List.set_cons_succ]))
      (refine q_take ?_ (by kernel_rfl) ?_ ?_; rotate_left; (· intro w' hS; have d0 := (HFC.out.trans' hS).cell HX.out not_false; go_simp; try with_reducible rfl); (try simp only [Act.put, List.setIfInBounds_toArray, List.set_cons_zero, List.set_cons_succ]))
      iterate 3 (refine q_take ?_ (by kernel_rfl) ?_ ?_; rotate_left; (· intro w' hS; go_simp; try with_reducible rfl); (try simp only [Act.put, List.setIfInBounds_toArray, List.set_cons_zero, List.set_cons_succ]))
      (refine q_take ?_ (by kernel_rfl) ?_ ?_; rotate_left; (· intro w' hS; have d0 := (HFC.out.trans' hS).cell HY.out not_false; go_simp; try with_reducible rfl); (try simp only [Act.put, List.setIfInBounds_toArray, List.set_cons_zero, List.set_cons_succ]))
      iterate 2 (refine q_take ?_ (by kernel_rfl) ?_ ?_; rotate_left; (· intro w' hS; go_simp; try with_reducible rfl); (try simp only [Act.put, List.setIfInBounds_toArray, List.set_cons_zero, List.set_cons_succ]))
      refine q_end (fun w' hw => ?_)
      have HW := hid hw
      clear hw
      go_wp2_with fail
      go_meet
      exact ⟨by rw [HEB.out], HW⟩
     ·have hqI : ¬ (q : Int) < L.length := by omega
      have hd : decide (q < L.length ∧ L.getD q ByteArray.empty = y) = false := decide_eq_false fun h => hql h.1
      go_quiet (fail)
      go_wp2_with fail
      go_meet
      exact ⟨by rw [hd], hid ((Fr.refl (fun _ => False) _).drewN _)⟩
    case rest =>
    obtain ⟨rfl, HWD⟩ := hcut
    obtain ⟨w7, hw7⟩ : ∃ W, W = wc := ⟨wc, rfl⟩
    rw [← hw7] at HWD ⊢
    clear hw7
    have HFD := hid (HFC.out.trans' HWD.out)
    by_cases heq : q < L.length ∧ L.getD q ByteArray.empty = y
    ·rw [decide_eq_true heq]
     have hmem : y ∈ L := by rw [← heq.2]; simp [List.getD, heq.1]
     have HM2 := hid (show ∀ s, s ∈ L ↔ s ∈ l.take (k + 1) from fun s => by
      rw [HMS.out s, ← HM.out s]
      constructor
      ·exact .inl
      ·rintro (h | rfl)
       ·exact h
       ·exact hmem)
     have HF9 := hid (HF.out.trans' HFD.out)
     have HO9 := hid (HFD.out.own HO.out (fun _ _ => id))
     clear hmem heq
     go_wp2_with fail
     go_roundw
     case rel => exact ⟨k + 1, L, by omega, by go_num, HO9, HM2, HSTR, by have := HLK.out; omega, HF9.out⟩
     case measure => simp [intOf]; omega
    ·rw [decide_eq_false heq]
     have HIM := hid (show ∀ s, s ∈ insT L q y ↔ s ∈ l.take (k + 1) from fun s => by rw [insT_mem, HMS.out s, ← HM.out s])
     have HIL := hid (insT_length L q y hq)
     have HSTR2 := hid (insT_strict HSTR.out hq HLOW.out fun hql => by
      have h1 := HCB.out
      rw [decide_eq_true hql, Bool.true_and] at h1
      exact bf_tri h1 fun e => heq ⟨hql, ba_ext e⟩)
     have HF9 := hid (HF.out.trans' HFD.out)
     have HO9 := hid (HFD.out.own HO.out (fun _ _ => id))
     have HBZ := hid (show w.heap.size ≤ w7.heap.size from HF9.out.size)
     have HFY := hid (HFD.out.cell HY.out not_false)
     clear heq
     go_upto_region 9 with fail
     obtain ⟨wm, hmk, hom, hgm⟩ := run_make_own (P := Tryz.prog) (w := w7.drew) w.heap.size 50 9 si (.string ⟨#[]⟩) 1 Tryz.underlying50 HI1.out HI2.out HI3.out .i64 .i64 (L.length + 1) (by rw [HI4.out]; have := HLL.out; have := HLK.out; omega) (by unfold maxLen; have := HLL.out; have := HLK.out; omega) (by simpa using HBZ.out)
     rw [show ((L.length + 1 : Nat) : Int) = (L.length : Int) + 1 by omega] at hmk
     have hwr : IntKind.i64.wrap ((L.length : Int) + 1) = (L.length : Int) + 1 := IntWalk.i64_in _ (by omega)
     have hfm0 := Fr.of_grownBy hgm
     have hfm : Fr (fun _ => False) w7.drew wm := hfm0.mono (fun _ _ e => by cases e)
     have HFM := hid ((HF9.out.drew).trans' hfm); have HOM := hid hom
     have HSM := hid (show w7.heap.size ≤ wm.heap.size from (by simpa using hfm.size))
     have HNB := hid (show ∀ r, Value.ownBlock (.slice (some ⟨w7.drew.heap.size, 0, none⟩) 0 (L.length + 1)) = some r → w7.heap.size ≤ r from fun r hr => by simp [Value.ownBlock] at hr; omega)
     have HSRC := hid (show ∀ j x, L[j]? = some x → ∃ b o, ao = some (⟨b, o, none⟩ : Addr) ∧ b < w7.heap.size ∧ wm.cell? ⟨b, o + j, none⟩ = some (.string x) from fun j x hj => by
      have hjl := (List.getElem?_eq_some_iff.1 hj).1
      obtain ⟨b, o, e, hc⟩ := HSR.out j hjl
      have hv : (sV L)[j]? = some (.string x) := by simp [sV, hj]
      rw [hv] at hc
      have h7 := HFD.out.cell hc not_false
      exact ⟨b, o, e, World.block_lt_of_cell? _ _ h7, hfm.cell (show w7.drew.cell? _ = _ from h7) not_false⟩)
     have HYM := hid (hfm.cell (show w7.drew.cell? _ = _ from HFY.out) not_false)
     have HYB := hid (World.block_lt_of_cell? _ _ HFY.out)
     have HLS := hid (show (sV L).length = L.length by simp [sV])
     have hone : ∀ M : List ByteArray, ∀ u ∈ sV M, u.oneCell' = true := fun M u hu => by
      obtain ⟨x, -, rfl⟩ := List.mem_map.1 hu
      rfl
     have HONE := hid hone
     have hcap : L.length ≤ oc := by
      rcases HO9.out.2 with ⟨e, h0⟩ | ⟨g', cap', cur, e, hb, hg, h1, -⟩
      ·simp at e; omega
      ·simp at e; omega
     have hqc : q ≤ oc := by omega
     clear hgm hom hfm0 hfm hone
     rcases own_heap HO9.out with ⟨he, h0, -⟩ | ⟨g, cap, he, -, -, -⟩
     ·obtain ⟨rfl, hn0, rfl⟩ : ao = none ∧ L.length = 0 ∧ oc = 0 := by simpa using he
      obtain rfl := List.eq_nil_of_length_eq_zero hn0
      obtain rfl : q = 0 := by simpa using hq
      refine wp_region_ord [(0, 0), (1, 0), (2, 0), (4, 0), (5, 0), (6, 0), (3, 1), (7, 1), (8, 1)] (fun _ => True) (by kernel_rfl) (by kernel_rfl) (by kernel_rfl) rfl (fun _ _ d _ _ h => by cases d <;> exact h) trivial ?_
      iterate 6 (refine wpO_take ?_ rfl (by kernel_rfl) ?_ ?_; rotate_left; (· intro w' hS; go_simp; try with_reducible rfl); try simp only [Act.put, List.setIfInBounds_toArray, List.set_cons_zero, List.set_cons_succ])
      have hmk1 : (Instr.makeSlice 50 (.int .i64 0) (.int .i64 1)).run Tryz.prog w7.drew = .ok (.slice (some ⟨w7.drew.heap.size, 0, none⟩) 0 1) wm := hmk
      have hwr1 : IntKind.i64.wrap 1 = 1 := by decide
      (refine wpO_run rfl (by kernel_rfl) (fun K hK => ?_); go_simp; refine hK _ _ (fun _ => trivial) ?_; clear hK K; try simp only [Act.put, List.setIfInBounds_toArray, List.set_cons_zero, List.set_cons_succ])
      refine wpO_run rfl (by kernel_rfl) (fun K hK => ?_)
      refine wp_appendN (.tmp 48) (.tmp 51) 50 rfl 9 (.string ⟨#[]⟩) 16 Tryz.underlying50 Tryz.info_st rfl (.slice (some ⟨w7.drew.heap.size, 0, none⟩) 0 (([] : List ByteArray).length + 1)) rfl w.heap.size 0 [] HOM.out none 0 0 ((sV ([] : List ByteArray)).take 0) rfl (by rw [List.length_take, HLS.out]; omega) (fun _ => ⟨rfl, rfl⟩) (fun j hj => by omega) (fun u hu => HONE.out ([] : List ByteArray) u (List.mem_of_mem_take hu)) (by have := HLL.out; have := HLK.out; omega) (by decide) (Nat.le_trans HBZ.out HSM.out) ?_
      intro v8 w8 ho8 hf8 hn8
      have HF8 := hid (HFM.out.trans hf8 (U := fun _ => False) (fun _ _ h => h) (fun r hr e => by have := (HOM.out.lt r e.symm).1; omega))
      have HO8 := hid (show w8.ownsRow w.heap.size 9 1 v8 0 ((sV ([] : List ByteArray)).take 0) by simpa using ho8)
      have HNB8 := hid (show ∀ r, v8.ownBlock = some r → w7.heap.size ≤ r from fun r hr => (hn8 r hr).elim (HNB.out r) (fun h => Nat.le_trans HSM.out h))
      have HY8 := hid (hf8.cell HYM.out (fun e => by have := HNB.out _ e.symm; have := HYB.out; simp only at *; omega))
      have HS8 := hid (Nat.le_trans HSM.out hf8.size)
      have HSRC8 := hid (show ∀ j x, ([] : List ByteArray)[j]? = some x → ∃ b o, none = some (⟨b, o, none⟩ : Addr) ∧ b < w7.heap.size ∧ w8.cell? ⟨b, o + j, none⟩ = some (.string x) from fun j x hj => by
       obtain ⟨b3, o3, e3, hb3, hc3⟩ := HSRC.out j x hj
       exact ⟨b3, o3, e3, hb3, hf8.cell hc3 (fun e => by have := HNB.out _ e.symm; simp only at *; omega)⟩)
      clear ho8 hf8 hn8
      refine hK _ _ (fun _ => trivial) ?_
      clear hK K hmk
      try simp only [Act.put, List.setIfInBounds_toArray, List.set_cons_zero, List.set_cons_succ]
      (refine wpO_run rfl (by kernel_rfl) (fun K hK => ?_); go_simp; refine hK _ _ (fun _ => trivial) ?_; clear hK K; try simp only [Act.put, List.setIfInBounds_toArray, List.set_cons_zero, List.set_cons_succ])
      refine wpO_end ?_
      obtain ⟨a8, c8, rfl, -⟩ := own_len HO8.out
      have HOW8 := hid (World.ownsRow.alloc HO8.out (.cells #[.string y] 9))
      have HCE8 := hid (cell_new1 w8 (.string y) 9 (0, 0))
      have HFA8 := hid (HF8.out.alloc (.cells #[.string y] 9))
      have hy8 := HY8.out
      go_upto_region 11 with (at_builtin; go_must (refine wpList_append1 rfl (.tmp 53) (.tmp 58) 50 rfl 9 (.string ⟨#[]⟩) 16 Tryz.underlying50 Tryz.info_st rfl _ rfl w.heap.size 0 ((sV ([] : List ByteArray)).take 0) HOW8.out w8.heap.size 1 (.string y) rfl HCE8.out rfl (by have := HLL.out; have := HLK.out; omega) (by decide) HFA8.out.size ?_; intro g9 cap9 w9 ho9 hf9 hn9))
      have HF9b := hid (HFA8.out.trans hf9 (U := fun _ => False) (fun _ _ h => h) (fun r hr e => by have := (HO8.out.lt r e.symm).1; omega))
      have HO9b := hid ho9
      have HSRC9 := hid (show ∀ j x, ([] : List ByteArray)[j]? = some x → ∃ b o, none = some (⟨b, o, none⟩ : Addr) ∧ b < w7.heap.size ∧ w9.cell? ⟨b, o + j, none⟩ = some (.string x) from fun j x hj => by
       obtain ⟨b3, o3, e3, hb3, hc3⟩ := HSRC8.out j x hj
       exact ⟨b3, o3, e3, hb3, hf9.cell (((Fr.refl (fun _ => False) w8).alloc (.cells #[.string y] 9)).cell hc3 not_false) (fun e => by have := HNB8.out _ e.symm; simp only at *; omega)⟩)
      clear ho9 hf9 hn9 hy8
      have HINS := hid (show sV (insT ([] : List ByteArray) 0 y) = ((sV ([] : List ByteArray)).take 0 ++ [Value.string y]) ++ (sV ([] : List ByteArray)).drop 0 by simp [insT, sV, List.map_take, List.map_drop])
      go_wp2_with (at_builtin; go_must (refine wpList_appendN rfl (.tmp 60) (.tmp 63) 50 rfl 9 (.string ⟨#[]⟩) 16 Tryz.underlying50 Tryz.info_st rfl _ rfl w.heap.size (0 + 1) ((sV ([] : List ByteArray)).take 0 ++ [Value.string y]) HO9b.out _ _ _ ((sV ([] : List ByteArray)).drop 0) rfl (by simp [sV]) (fun _ => ⟨rfl, rfl⟩) (fun j hj => by omega) (fun u hu => HONE.out ([] : List ByteArray) u (List.mem_of_mem_drop hu)) (by have := HLL.out; have := HLK.out; omega) (by decide) HF9b.out.size ?_))
      intro v10 w10 ho10 hf10 hn10
      have HO10 := hid (show w10.ownsRow w.heap.size 9 1 v10 (insT ([] : List ByteArray) 0 y).length (sV (insT ([] : List ByteArray) 0 y)) by
       rw [HINS.out, HIL.out]
       have : 0 + 1 + 0 = ([] : List ByteArray).length + 1 := by rfl
       rw [← this]
       simpa using ho10)
      have HF10 := hid (HF9b.out.trans hf10 (U := fun _ => False) (fun _ _ h => h) (fun r hr e => by have := (HO9b.out.lt r e.symm).1; omega))
      clear ho10 hf10 hn10
      go_wp2_with fail
      go_roundw
      case rel => exact ⟨k + 1, insT ([] : List ByteArray) 0 y, by omega, by go_num, HO10, HIM, HSTR2, by rw [HIL.out]; have := HLK.out; omega, HF10.out⟩
      case measure => simp [intOf]; omega
     ·obtain ⟨rfl, rfl⟩ : ao = some ⟨g, 0, none⟩ ∧ oc = cap := by simpa using he
      refine wp_region_ord [(0, 0), (1, 0), (2, 0), (4, 0), (5, 0), (6, 0), (3, 1), (7, 1), (8, 1)] (fun _ => True) (by kernel_rfl) (by kernel_rfl) (by kernel_rfl) rfl (fun _ _ d _ _ h => by cases d <;> exact h) trivial ?_
      have HSG := hid (show ∀ j, j < L.length → wm.cell? ⟨g, 0 + j, none⟩ = (sV L)[j]? from fun j hj => by
       obtain ⟨b3, o3, e3, -, hc3⟩ := HSRC.out j L[j] (List.getElem?_eq_getElem hj)
       obtain ⟨rfl, rfl⟩ : b3 = g ∧ o3 = 0 := by simp at e3; exact ⟨e3.1.symm, e3.2.symm⟩
       rw [hc3]
       simp [sV, List.getElem?_eq_getElem hj])
      iterate 6 (refine wpO_take ?_ rfl (by kernel_rfl) ?_ ?_; rotate_left; (· intro w' hS; go_simp; try with_reducible rfl); try simp only [Act.put, List.setIfInBounds_toArray, List.set_cons_zero, List.set_cons_succ])
      (refine wpO_run rfl (by kernel_rfl) (fun K hK => ?_); go_simp; refine hK _ _ (fun _ => trivial) ?_; clear hK K; try simp only [Act.put, List.setIfInBounds_toArray, List.set_cons_zero, List.set_cons_succ])
      refine wpO_run rfl (by kernel_rfl) (fun K hK => ?_)
      refine wp_appendN (.tmp 48) (.tmp 51) 50 rfl 9 (.string ⟨#[]⟩) 16 Tryz.underlying50 Tryz.info_st rfl (.slice (some ⟨w7.drew.heap.size, 0, none⟩) 0 (L.length + 1)) rfl w.heap.size 0 [] HOM.out (some ⟨g, 0, none⟩) q oc ((sV L).take q) rfl (by rw [List.length_take, HLS.out]; omega) (fun h => by cases h) (fun j hj => ⟨_, _, rfl, by rw [HSG.out j (by omega), List.getElem?_take, if_pos hj]⟩) (fun u hu => HONE.out L u (List.mem_of_mem_take hu)) (by have := HLL.out; have := HLK.out; omega) (by decide) (Nat.le_trans HBZ.out HSM.out) ?_
      intro v8 w8 ho8 hf8 hn8
      have HF8 := hid (HFM.out.trans hf8 (U := fun _ => False) (fun _ _ h => h) (fun r hr e => by have := (HOM.out.lt r e.symm).1; omega))
      have HO8 := hid (show w8.ownsRow w.heap.size 9 1 v8 q ((sV L).take q) by simpa using ho8)
      have HNB8 := hid (show ∀ r, v8.ownBlock = some r → w7.heap.size ≤ r from fun r hr => (hn8 r hr).elim (HNB.out r) (fun h => Nat.le_trans HSM.out h))
      have HY8 := hid (hf8.cell HYM.out (fun e => by have := HNB.out _ e.symm; have := HYB.out; simp only at *; omega))
      have HS8 := hid (Nat.le_trans HSM.out hf8.size)
      have HSRC8 := hid (show ∀ j x, L[j]? = some x → ∃ b o, (some ⟨g, 0, none⟩) = some (⟨b, o, none⟩ : Addr) ∧ b < w7.heap.size ∧ w8.cell? ⟨b, o + j, none⟩ = some (.string x) from fun j x hj => by
       obtain ⟨b3, o3, e3, hb3, hc3⟩ := HSRC.out j x hj
       exact ⟨b3, o3, e3, hb3, hf8.cell hc3 (fun e => by have := HNB.out _ e.symm; simp only at *; omega)⟩)
      clear ho8 hf8 hn8
      refine hK _ _ (fun _ => trivial) ?_
      clear hK K hmk
      try simp only [Act.put, List.setIfInBounds_toArray, List.set_cons_zero, List.set_cons_succ]
      (refine wpO_run rfl (by kernel_rfl) (fun K hK => ?_); go_simp; refine hK _ _ (fun _ => trivial) ?_; clear hK K; try simp only [Act.put, List.setIfInBounds_toArray, List.set_cons_zero, List.set_cons_succ])
      refine wpO_end ?_
      obtain ⟨a8, c8, rfl, -⟩ := own_len HO8.out
      have HOW8 := hid (World.ownsRow.alloc HO8.out (.cells #[.string y] 9))
      have HCE8 := hid (cell_new1 w8 (.string y) 9 (0, 0))
      have HFA8 := hid (HF8.out.alloc (.cells #[.string y] 9))
      have hy8 := HY8.out
      go_upto_region 11 with (at_builtin; go_must (refine wpList_append1 rfl (.tmp 53) (.tmp 58) 50 rfl 9 (.string ⟨#[]⟩) 16 Tryz.underlying50 Tryz.info_st rfl _ rfl w.heap.size q ((sV L).take q) HOW8.out w8.heap.size 1 (.string y) rfl HCE8.out rfl (by have := HLL.out; have := HLK.out; omega) (by decide) HFA8.out.size ?_; intro g9 cap9 w9 ho9 hf9 hn9))
      have HF9b := hid (HFA8.out.trans hf9 (U := fun _ => False) (fun _ _ h => h) (fun r hr e => by have := (HO8.out.lt r e.symm).1; omega))
      have HO9b := hid ho9
      have HSRC9 := hid (show ∀ j x, L[j]? = some x → ∃ b o, (some ⟨g, 0, none⟩) = some (⟨b, o, none⟩ : Addr) ∧ b < w7.heap.size ∧ w9.cell? ⟨b, o + j, none⟩ = some (.string x) from fun j x hj => by
       obtain ⟨b3, o3, e3, hb3, hc3⟩ := HSRC8.out j x hj
       exact ⟨b3, o3, e3, hb3, hf9.cell (((Fr.refl (fun _ => False) w8).alloc (.cells #[.string y] 9)).cell hc3 not_false) (fun e => by have := HNB8.out _ e.symm; simp only at *; omega)⟩)
      clear ho9 hf9 hn9 hy8
      have HINS := hid (show sV (insT L q y) = ((sV L).take q ++ [Value.string y]) ++ (sV L).drop q by simp [insT, sV, List.map_take, List.map_drop])
      have hqn := hq
      by_cases hoq : oc = q
      ·go_wp2_with (at_builtin; go_must (refine wpList_appendN rfl (.tmp 60) (.tmp 63) 50 rfl 9 (.string ⟨#[]⟩) 16 Tryz.underlying50 Tryz.info_st rfl _ rfl w.heap.size (q + 1) ((sV L).take q ++ [Value.string y]) HO9b.out _ _ _ ((sV L).drop q) rfl (by rw [List.length_drop, HLS.out]) (fun h => by cases h) (fun j hj => by omega) (fun u hu => HONE.out L u (List.mem_of_mem_drop hu)) (by have := HLL.out; have := HLK.out; omega) (by decide) HF9b.out.size ?_))
       intro v10 w10 ho10 hf10 hn10
       have HO10 := hid (show w10.ownsRow w.heap.size 9 1 v10 (insT L q y).length (sV (insT L q y)) by
        rw [HINS.out, HIL.out]
        have : q + 1 + (L.length - q) = L.length + 1 := by omega
        rw [← this]
        simpa using ho10)
       have HF10 := hid (HF9b.out.trans hf10 (U := fun _ => False) (fun _ _ h => h) (fun r hr e => by have := (HO9b.out.lt r e.symm).1; omega))
       clear ho10 hf10 hn10
       go_wp2_with fail
       go_roundw
       case rel => exact ⟨k + 1, insT L q y, by omega, by go_num, HO10, HIM, HSTR2, by rw [HIL.out]; have := HLK.out; omega, HF10.out⟩
       case measure => simp [intOf]; omega
      have HSG9 := hid (show ∀ j, j < L.length → w9.cell? ⟨g, j, none⟩ = (sV L)[j]? from fun j hj => by
       obtain ⟨b3, o3, e3, -, hc3⟩ := HSRC9.out j L[j] (List.getElem?_eq_getElem hj)
       obtain ⟨rfl, rfl⟩ : b3 = g ∧ o3 = 0 := by simp at e3; exact ⟨e3.1.symm, e3.2.symm⟩
       rw [Nat.zero_add] at hc3
       rw [hc3]
       simp [sV, List.getElem?_eq_getElem hj])
      ·go_wp2_with (at_builtin; go_must (refine wpList_appendN rfl (.tmp 60) (.tmp 63) 50 rfl 9 (.string ⟨#[]⟩) 16 Tryz.underlying50 Tryz.info_st rfl _ rfl w.heap.size (q + 1) ((sV L).take q ++ [Value.string y]) HO9b.out _ _ _ ((sV L).drop q) rfl (by rw [List.length_drop, HLS.out]) (fun h => by cases h) (fun j hj => ⟨_, _, rfl, by rw [List.getElem?_drop, ← HSG9.out (q + j) (by omega)]⟩) (fun u hu => HONE.out L u (List.mem_of_mem_drop hu)) (by have := HLL.out; have := HLK.out; omega) (by decide) HF9b.out.size ?_))
       intro v10 w10 ho10 hf10 hn10
       have HO10 := hid (show w10.ownsRow w.heap.size 9 1 v10 (insT L q y).length (sV (insT L q y)) by
        rw [HINS.out, HIL.out]
        have : q + 1 + (L.length - q) = L.length + 1 := by omega
        rw [← this]
        simpa using ho10)
       have HF10 := hid (HF9b.out.trans hf10 (U := fun _ => False) (fun _ _ h => h) (fun r hr e => by have := (HO9b.out.lt r e.symm).1; omega))
       clear ho10 hf10 hn10
       go_wp2_with fail
       go_roundw
       case rel => exact ⟨k + 1, insT L q y, by omega, by go_num, HO10, HIM, HSTR2, by rw [HIL.out]; have := HLK.out; omega, HF10.out⟩
       case measure => simp [intOf]; omega
  ·obtain rfl : k = l.length := by omega
   have HF := hid hf
   have hM := HM.out
   rw [List.take_length] at hM
   have HM2 := hid hM
   clear hf hM
   go_wp2_with fail
   go_ret
   exact ⟨L, _, rfl, HO.out, HM2.out, HSTR.out, hLk, HF.out⟩
theorem rising_any (l : List ByteArray) (hl : l.length ≤ 1048576) (hs : ∀ s ∈ l, s.size ≤ 1099511627776) (D : Nat → Prop) (w : World) (v : Value) (h : Ss D w v l) : Calls Tryz.prog 22 #[v] w fun e w' => ∃ (L : List ByteArray) (v' : Value), e = .returned v' ∧ w'.ownsRow w.heap.size 9 1 v' L.length (sV L) ∧ (∀ s, s ∈ L ↔ s ∈ l) ∧ L.length ≤ l.length ∧ Fr (fun _ => False) w w' :=
 (rising_exact l hl hs D w v h).mono fun _ _ ⟨L, v', h1, h2, h3, _, h5, h6⟩ => ⟨L, v', h1, h2, h3, h5, h6⟩
end
end Go.Proofs.YtbegahbagnflnaaGreatDoor
