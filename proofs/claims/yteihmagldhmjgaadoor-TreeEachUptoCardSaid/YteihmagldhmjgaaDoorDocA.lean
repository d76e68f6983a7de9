/- inglenookref6: expr, stmt, stands, counts, place: what may stand where, as the document has it. -/
import Derived.Test.YteihmagldhmjgaaDoorTreeE
namespace Go.Proofs.YteihmagldhmjgaaDoor
open Go.RowKit

theorem dexpr_any (op : Int) (w : World) : Calls Tryd.prog 79 #[.int .i64 op] w fun e w' => e = .returned (.bool (isExpr op)) ∧ w = w' := by
  by_cases h1 : 1 ≤ op
  · by_cases h2 : op ≤ 29
    · by_cases h3 : op = 26
      · subst h3
        go_enter Tryd.func79, Tryd.ntmps79
        go_wp2
        go_ret
        exact ⟨rfl, rfl⟩
      · have q3 : (op != 26) = true := by simpa using h3
        have HE := hid (show isExpr op = true by unfold isExpr; rw [decide_eq_true h1, decide_eq_true h2, q3]; rfl)
        clear h3
        go_enter Tryd.func79, Tryd.ntmps79
        go_wp2
        go_ret
        exact ⟨ret_bool HE.out.symm, rfl⟩
    · have HE := hid (show isExpr op = false by unfold isExpr; rw [decide_eq_true h1, decide_eq_false h2]; rfl)
      go_enter Tryd.func79, Tryd.ntmps79
      go_wp2
      go_ret
      exact ⟨ret_bool HE.out.symm, rfl⟩
  · have HE := hid (show isExpr op = false by unfold isExpr; rw [decide_eq_false h1]; rfl)
    go_enter Tryd.func79, Tryd.ntmps79
    go_wp2
    go_ret
    exact ⟨ret_bool HE.out.symm, rfl⟩
theorem dstmt_any (op : Int) (w : World) : Calls Tryd.prog 80 #[.int .i64 op] w fun e w' => e = .returned (.bool (pStands op 7)) ∧ w = w' := by
  have HS := hid (show pStands op 7 = (decide (40 ≤ op) && decide (op ≤ 51) && op != 50) from rfl)
  by_cases h1 : 40 ≤ op
  · by_cases h2 : op ≤ 51
    · by_cases h3 : op = 50
      · subst h3
        go_enter Tryd.func80, Tryd.ntmps80
        go_wp2
        go_ret
        exact ⟨rfl, rfl⟩
      · have q3 : (op != 50) = true := by simpa using h3
        have HE := hid (show pStands op 7 = true by rw [HS.out, decide_eq_true h1, decide_eq_true h2, q3]; rfl)
        clear h3
        go_enter Tryd.func80, Tryd.ntmps80
        go_wp2
        go_ret
        exact ⟨ret_bool HE.out.symm, rfl⟩
    · have HE := hid (show pStands op 7 = false by rw [HS.out, decide_eq_true h1, decide_eq_false h2]; rfl)
      go_enter Tryd.func80, Tryd.ntmps80
      go_wp2
      go_ret
      exact ⟨ret_bool HE.out.symm, rfl⟩
  · have HE := hid (show pStands op 7 = false by rw [HS.out, decide_eq_false h1]; rfl)
    go_enter Tryd.func80, Tryd.ntmps80
    go_wp2
    go_ret
    exact ⟨ret_bool HE.out.symm, rfl⟩
/-- The document's number of a place. -/
def plc (role : Int) : Int := if role = 7 then 9 else if role = 8 then 8 else role + 1
set_option maxRecDepth 100000 in
set_option maxHeartbeats 3200000 in
theorem dstands_any (op role : Int) (h0 : 0 ≤ role) (h8 : role ≤ 8) (w : World) : Calls Tryd.prog 62 #[.int .i64 op, .int .i64 (plc role)] w fun e w' => e = .returned (.bool (pStands op role)) ∧ w = w' := by
  have HX := hid (dexpr_any op w)
  have HS := hid (dstmt_any op w)
  have hrole : role = 0 ∨ role = 1 ∨ role = 2 ∨ role = 3 ∨ role = 4 ∨ role = 5 ∨ role = 6 ∨ role = 7 ∨ role = 8 := by omega
  clear h0 h8
  rcases hrole with rfl | rfl | rfl | rfl | rfl | rfl | rfl | rfl | rfl
  · rw [show plc 0 = 1 from rfl]
    go_enter Tryd.func62, Tryd.ntmps62
    go_wp2_with fail
    refine HX.out.mono ?_
    rintro e w2 ⟨rfl, rfl⟩
    go_wp2
    go_ret
    exact ⟨rfl, rfl⟩
  · rw [show plc 1 = 2 from rfl]
    have HE := hid (show pStands op 1 = (isExpr op || op == 26) from rfl)
    generalize isExpr op = b at *
    cases b
    all_goals
      go_enter Tryd.func62, Tryd.ntmps62
      go_wp2_with fail
      refine HX.out.mono ?_
      rintro e w2 ⟨rfl, rfl⟩
      go_wp2
      go_ret
      exact ⟨ret_bool HE.out.symm, rfl⟩
  · rw [show plc 2 = 3 from rfl]
    have HE := hid (show pStands op 2 = (op == 2 || op == 22 || op == 20) from rfl)
    cases q1 : (op == 2)
    · cases q2 : (op == 22)
      · have HE2 := hid (show pStands op 2 = (op == 20) by rw [HE.out, q1, q2]; rfl)
        clear HE
        go_enter Tryd.func62, Tryd.ntmps62
        go_wp2
        go_ret
        exact ⟨ret_bool HE2.out.symm, rfl⟩
      · have HE2 := hid (show pStands op 2 = true by rw [HE.out, q1, q2]; rfl)
        clear HE
        go_enter Tryd.func62, Tryd.ntmps62
        go_wp2
        go_ret
        exact ⟨ret_bool HE2.out.symm, rfl⟩
    · have HE2 := hid (show pStands op 2 = true by rw [HE.out, q1]; rfl)
      clear HE
      go_enter Tryd.func62, Tryd.ntmps62
      go_wp2
      go_ret
      exact ⟨ret_bool HE2.out.symm, rfl⟩
  · rw [show plc 3 = 4 from rfl]
    go_enter Tryd.func62, Tryd.ntmps62
    go_wp2
    go_ret
    exact ⟨rfl, rfl⟩
  · rw [show plc 4 = 5 from rfl]
    have HE := hid (show pStands op 4 = (op == 2 || op == 26) from rfl)
    cases q1 : (op == 2)
    · have HE2 := hid (show pStands op 4 = (op == 26) by rw [HE.out, q1]; rfl)
      clear HE
      go_enter Tryd.func62, Tryd.ntmps62
      go_wp2
      go_ret
      exact ⟨ret_bool HE2.out.symm, rfl⟩
    · have HE2 := hid (show pStands op 4 = true by rw [HE.out, q1]; rfl)
      clear HE
      go_enter Tryd.func62, Tryd.ntmps62
      go_wp2
      go_ret
      exact ⟨ret_bool HE2.out.symm, rfl⟩
  · rw [show plc 5 = 6 from rfl]
    go_enter Tryd.func62, Tryd.ntmps62
    go_wp2
    go_ret
    exact ⟨rfl, rfl⟩
  · rw [show plc 6 = 7 from rfl]
    go_enter Tryd.func62, Tryd.ntmps62
    go_wp2
    go_ret
    exact ⟨rfl, rfl⟩
  · rw [show plc 7 = 9 from rfl]
    generalize pStands op 7 = b at *
    go_enter Tryd.func62, Tryd.ntmps62
    go_wp2_with fail
    refine HS.out.mono ?_
    rintro e w2 ⟨rfl, rfl⟩
    go_wp2
    go_ret
    exact ⟨rfl, rfl⟩
  · rw [show plc 8 = 8 from rfl]
    go_enter Tryd.func62, Tryd.ntmps62
    go_wp2
    go_ret
    exact ⟨rfl, rfl⟩
/-- The document's counts. -/
def dCounts (op : Int) (n : Nat) : Bool :=
  if op = 1 ∨ op = 2 ∨ op = 45 ∨ op = 46 then decide (n = 0) else if op = 3 ∨ op = 4 ∨ op = 26 ∨ op = 40 then decide (n = 1) else if op = 19 ∨ op = 21 ∨ op = 43 then decide (n = 3) else if op = 23 ∨ op = 28 ∨ op = 41 ∨ op = 49 then decide (2 ≤ n)
  else if op = 24 ∨ op = 25 ∨ op = 52 then true else if op = 29 then decide (n = 2) || decide (n = 3) else if op = 47 then decide (n ≤ 1) else decide (n = 2)
set_option maxRecDepth 100000 in
set_option maxHeartbeats 3200000 in
theorem dcounts_any (op : Int) (n : Nat) (hn : n ≤ 4611686018427387904) (w : World) : Calls Tryd.prog 63 #[.int .i64 op, .int .i64 n] w fun e w' => e = .returned (.bool (dCounts op n)) ∧ w = w' := by
  have hnI : (n : Int) ≤ 4611686018427387904 := by omega
  by_cases h1 : op = 1
  · subst h1
    have HR := hid (show dCounts 1 n = decide (n = 0) from rfl)
    have hb : ((n : Int) == 0) = decide (n = 0) := by
      by_cases h : n = 0
      · rw [h]; rfl
      · rw [decide_eq_false h, beq_eq_false_iff_ne]; omega
    go_enter Tryd.func63, Tryd.ntmps63
    go_wp2
    go_ret
    first | exact ⟨ret_bool HR.out.symm, rfl⟩ | exact ⟨ret_bool (hb.trans HR.out.symm), rfl⟩
  have q1 : (op == 1) = false := by simpa using h1
  by_cases h2 : op = 2
  · subst h2
    have HR := hid (show dCounts 2 n = decide (n = 0) from rfl)
    have hb : ((n : Int) == 0) = decide (n = 0) := by
      by_cases h : n = 0
      · rw [h]; rfl
      · rw [decide_eq_false h, beq_eq_false_iff_ne]; omega
    go_enter Tryd.func63, Tryd.ntmps63
    go_wp2
    go_ret
    first | exact ⟨ret_bool HR.out.symm, rfl⟩ | exact ⟨ret_bool (hb.trans HR.out.symm), rfl⟩
  have q2 : (op == 2) = false := by simpa using h2
  by_cases h45 : op = 45
  · subst h45
    have HR := hid (show dCounts 45 n = decide (n = 0) from rfl)
    have hb : ((n : Int) == 0) = decide (n = 0) := by
      by_cases h : n = 0
      · rw [h]; rfl
      · rw [decide_eq_false h, beq_eq_false_iff_ne]; omega
    go_enter Tryd.func63, Tryd.ntmps63
    go_wp2
    go_ret
    first | exact ⟨ret_bool HR.out.symm, rfl⟩ | exact ⟨ret_bool (hb.trans HR.out.symm), rfl⟩
  have q45 : (op == 45) = false := by simpa using h45
  by_cases h46 : op = 46
  · subst h46
    have HR := hid (show dCounts 46 n = decide (n = 0) from rfl)
    have hb : ((n : Int) == 0) = decide (n = 0) := by
      by_cases h : n = 0
      · rw [h]; rfl
      · rw [decide_eq_false h, beq_eq_false_iff_ne]; omega
    go_enter Tryd.func63, Tryd.ntmps63
    go_wp2
    go_ret
    first | exact ⟨ret_bool HR.out.symm, rfl⟩ | exact ⟨ret_bool (hb.trans HR.out.symm), rfl⟩
  have q46 : (op == 46) = false := by simpa using h46
  by_cases h3 : op = 3
  · subst h3
    have HR := hid (show dCounts 3 n = decide (n = 1) from rfl)
    have hb : ((n : Int) == 1) = decide (n = 1) := by
      by_cases h : n = 1
      · rw [h]; rfl
      · rw [decide_eq_false h, beq_eq_false_iff_ne]; omega
    go_enter Tryd.func63, Tryd.ntmps63
    go_wp2
    go_ret
    first | exact ⟨ret_bool HR.out.symm, rfl⟩ | exact ⟨ret_bool (hb.trans HR.out.symm), rfl⟩
  have q3 : (op == 3) = false := by simpa using h3
  by_cases h4 : op = 4
  · subst h4
    have HR := hid (show dCounts 4 n = decide (n = 1) from rfl)
    have hb : ((n : Int) == 1) = decide (n = 1) := by
      by_cases h : n = 1
      · rw [h]; rfl
      · rw [decide_eq_false h, beq_eq_false_iff_ne]; omega
    go_enter Tryd.func63, Tryd.ntmps63
    go_wp2
    go_ret
    first | exact ⟨ret_bool HR.out.symm, rfl⟩ | exact ⟨ret_bool (hb.trans HR.out.symm), rfl⟩
  have q4 : (op == 4) = false := by simpa using h4
  by_cases h26 : op = 26
  · subst h26
    have HR := hid (show dCounts 26 n = decide (n = 1) from rfl)
    have hb : ((n : Int) == 1) = decide (n = 1) := by
      by_cases h : n = 1
      · rw [h]; rfl
      · rw [decide_eq_false h, beq_eq_false_iff_ne]; omega
    go_enter Tryd.func63, Tryd.ntmps63
    go_wp2
    go_ret
    first | exact ⟨ret_bool HR.out.symm, rfl⟩ | exact ⟨ret_bool (hb.trans HR.out.symm), rfl⟩
  have q26 : (op == 26) = false := by simpa using h26
  by_cases h40 : op = 40
  · subst h40
    have HR := hid (show dCounts 40 n = decide (n = 1) from rfl)
    have hb : ((n : Int) == 1) = decide (n = 1) := by
      by_cases h : n = 1
      · rw [h]; rfl
      · rw [decide_eq_false h, beq_eq_false_iff_ne]; omega
    go_enter Tryd.func63, Tryd.ntmps63
    go_wp2
    go_ret
    first | exact ⟨ret_bool HR.out.symm, rfl⟩ | exact ⟨ret_bool (hb.trans HR.out.symm), rfl⟩
  have q40 : (op == 40) = false := by simpa using h40
  by_cases h19 : op = 19
  · subst h19
    have HR := hid (show dCounts 19 n = decide (n = 3) from rfl)
    have hb : ((n : Int) == 3) = decide (n = 3) := by
      by_cases h : n = 3
      · rw [h]; rfl
      · rw [decide_eq_false h, beq_eq_false_iff_ne]; omega
    go_enter Tryd.func63, Tryd.ntmps63
    go_wp2
    go_ret
    first | exact ⟨ret_bool HR.out.symm, rfl⟩ | exact ⟨ret_bool (hb.trans HR.out.symm), rfl⟩
  have q19 : (op == 19) = false := by simpa using h19
  by_cases h21 : op = 21
  · subst h21
    have HR := hid (show dCounts 21 n = decide (n = 3) from rfl)
    have hb : ((n : Int) == 3) = decide (n = 3) := by
      by_cases h : n = 3
      · rw [h]; rfl
      · rw [decide_eq_false h, beq_eq_false_iff_ne]; omega
    go_enter Tryd.func63, Tryd.ntmps63
    go_wp2
    go_ret
    first | exact ⟨ret_bool HR.out.symm, rfl⟩ | exact ⟨ret_bool (hb.trans HR.out.symm), rfl⟩
  have q21 : (op == 21) = false := by simpa using h21
  by_cases h43 : op = 43
  · subst h43
    have HR := hid (show dCounts 43 n = decide (n = 3) from rfl)
    have hb : ((n : Int) == 3) = decide (n = 3) := by
      by_cases h : n = 3
      · rw [h]; rfl
      · rw [decide_eq_false h, beq_eq_false_iff_ne]; omega
    go_enter Tryd.func63, Tryd.ntmps63
    go_wp2
    go_ret
    first | exact ⟨ret_bool HR.out.symm, rfl⟩ | exact ⟨ret_bool (hb.trans HR.out.symm), rfl⟩
  have q43 : (op == 43) = false := by simpa using h43
  by_cases h23 : op = 23
  · subst h23
    have HR := hid (show dCounts 23 n = decide (2 ≤ n) from rfl)
    have hb : decide ((n : Int) ≥ 2) = decide (2 ≤ n) := by
      by_cases h : 2 ≤ n
      · rw [decide_eq_true h, decide_eq_true (by omega)]
      · rw [decide_eq_false h, decide_eq_false (by omega)]
    go_enter Tryd.func63, Tryd.ntmps63
    go_wp2
    go_ret
    first | exact ⟨ret_bool HR.out.symm, rfl⟩ | exact ⟨ret_bool (hb.trans HR.out.symm), rfl⟩
  have q23 : (op == 23) = false := by simpa using h23
  by_cases h28 : op = 28
  · subst h28
    have HR := hid (show dCounts 28 n = decide (2 ≤ n) from rfl)
    have hb : decide ((n : Int) ≥ 2) = decide (2 ≤ n) := by
      by_cases h : 2 ≤ n
      · rw [decide_eq_true h, decide_eq_true (by omega)]
      · rw [decide_eq_false h, decide_eq_false (by omega)]
    go_enter Tryd.func63, Tryd.ntmps63
    go_wp2
    go_ret
    first | exact ⟨ret_bool HR.out.symm, rfl⟩ | exact ⟨ret_bool (hb.trans HR.out.symm), rfl⟩
  have q28 : (op == 28) = false := by simpa using h28
  by_cases h41 : op = 41
  · subst h41
    have HR := hid (show dCounts 41 n = decide (2 ≤ n) from rfl)
    have hb : decide ((n : Int) ≥ 2) = decide (2 ≤ n) := by
      by_cases h : 2 ≤ n
      · rw [decide_eq_true h, decide_eq_true (by omega)]
      · rw [decide_eq_false h, decide_eq_false (by omega)]
    go_enter Tryd.func63, Tryd.ntmps63
    go_wp2
    go_ret
    first | exact ⟨ret_bool HR.out.symm, rfl⟩ | exact ⟨ret_bool (hb.trans HR.out.symm), rfl⟩
  have q41 : (op == 41) = false := by simpa using h41
  by_cases h49 : op = 49
  · subst h49
    have HR := hid (show dCounts 49 n = decide (2 ≤ n) from rfl)
    have hb : decide ((n : Int) ≥ 2) = decide (2 ≤ n) := by
      by_cases h : 2 ≤ n
      · rw [decide_eq_true h, decide_eq_true (by omega)]
      · rw [decide_eq_false h, decide_eq_false (by omega)]
    go_enter Tryd.func63, Tryd.ntmps63
    go_wp2
    go_ret
    first | exact ⟨ret_bool HR.out.symm, rfl⟩ | exact ⟨ret_bool (hb.trans HR.out.symm), rfl⟩
  have q49 : (op == 49) = false := by simpa using h49
  by_cases h24 : op = 24
  · subst h24
    have HR := hid (show dCounts 24 n = true from rfl)
    go_enter Tryd.func63, Tryd.ntmps63
    go_wp2
    go_ret
    exact ⟨ret_bool HR.out.symm, rfl⟩
  have q24 : (op == 24) = false := by simpa using h24
  by_cases h25 : op = 25
  · subst h25
    have HR := hid (show dCounts 25 n = true from rfl)
    go_enter Tryd.func63, Tryd.ntmps63
    go_wp2
    go_ret
    exact ⟨ret_bool HR.out.symm, rfl⟩
  have q25 : (op == 25) = false := by simpa using h25
  by_cases h52 : op = 52
  · subst h52
    have HR := hid (show dCounts 52 n = true from rfl)
    go_enter Tryd.func63, Tryd.ntmps63
    go_wp2
    go_ret
    exact ⟨ret_bool HR.out.symm, rfl⟩
  have q52 : (op == 52) = false := by simpa using h52
  by_cases h29 : op = 29
  · subst h29
    have HR := hid (show dCounts 29 n = (decide (n = 2) || decide (n = 3)) from rfl)
    by_cases h2 : n = 2
    · subst h2
      go_enter Tryd.func63, Tryd.ntmps63
      go_wp2
      go_ret
      exact ⟨ret_bool HR.out.symm, rfl⟩
    have q2 : ((n : Int) == 2) = false := by rw [beq_eq_false_iff_ne]; omega
    have HR := hid (show dCounts 29 n = decide (n = 3) by rw [HR.out, decide_eq_false h2]; rfl)
    have hb : ((n : Int) == 3) = decide (n = 3) := by
      by_cases h : n = 3
      · rw [h]; rfl
      · rw [decide_eq_false h, beq_eq_false_iff_ne]; omega
    go_enter Tryd.func63, Tryd.ntmps63
    go_wp2
    go_ret
    first | exact ⟨ret_bool HR.out.symm, rfl⟩ | exact ⟨ret_bool (hb.trans HR.out.symm), rfl⟩
  have q29 : (op == 29) = false := by simpa using h29
  by_cases h47 : op = 47
  · subst h47
    have HR := hid (show dCounts 47 n = decide (n ≤ 1) from rfl)
    have hb : decide ((n : Int) ≤ 1) = decide (n ≤ 1) := by
      by_cases h : n ≤ 1
      · rw [decide_eq_true h, decide_eq_true (by omega)]
      · rw [decide_eq_false h, decide_eq_false (by omega)]
    go_enter Tryd.func63, Tryd.ntmps63
    go_wp2
    go_ret
    first | exact ⟨ret_bool HR.out.symm, rfl⟩ | exact ⟨ret_bool (hb.trans HR.out.symm), rfl⟩
  have q47 : (op == 47) = false := by simpa using h47
  have HR := hid (show dCounts op n = decide (n = 2) by unfold dCounts; repeat rw [if_neg (by omega)])
  clear h1 h2 h45 h46 h3 h4 h26 h40 h19 h21 h43 h23 h28 h41 h49 h24 h25 h52 h29 h47
  have hb : ((n : Int) == 2) = decide (n = 2) := by
    by_cases h : n = 2
    · rw [h]; rfl
    · rw [decide_eq_false h, beq_eq_false_iff_ne]; omega
  go_enter Tryd.func63, Tryd.ntmps63
  go_wp2
  go_ret
  first | exact ⟨ret_bool HR.out.symm, rfl⟩ | exact ⟨ret_bool (hb.trans HR.out.symm), rfl⟩
theorem dCounts_eq (op : Int) (n : Nat) (role : Int) (h0 : 0 ≤ role) (h8 : role ≤ 8) (h : pStands op role = true) : dCounts op n = pCounts op n := by
  have hop : (1 ≤ op ∧ op ≤ 29) ∨ (40 ≤ op ∧ op ≤ 52) := by
    have hrole : role = 0 ∨ role = 1 ∨ role = 2 ∨ role = 3 ∨ role = 4 ∨ role = 5 ∨ role = 6 ∨ role = 7 ∨ role = 8 := by omega
    rcases hrole with rfl | rfl | rfl | rfl | rfl | rfl | rfl | rfl | rfl
    all_goals simp [pStands, isExpr] at h
    all_goals omega
  have hl : op = 1 ∨ op = 2 ∨ op = 45 ∨ op = 46 ∨ op = 3 ∨ op = 4 ∨ op = 26 ∨ op = 40 ∨ op = 19 ∨ op = 21 ∨ op = 43 ∨ op = 23 ∨ op = 28 ∨ op = 41 ∨ op = 49 ∨ op = 24 ∨ op = 25 ∨ op = 52 ∨ op = 29 ∨ op = 47 ∨ (((5 ≤ op ∧ op ≤ 18) ∨ op = 20 ∨ op = 22) ∨ op = 27 ∨ op = 42 ∨ op = 44 ∨ op = 48 ∨ op = 50 ∨ op = 51) := by omega
  rcases hl with rfl | rfl | rfl | rfl | rfl | rfl | rfl | rfl | rfl | rfl | rfl | rfl | rfl | rfl | rfl | rfl | rfl | rfl | rfl | rfl | hl
  all_goals try rfl
  unfold dCounts pCounts
  rcases hl with hl | hl
  · rw [if_neg (by omega), if_neg (by omega), if_neg (by omega), if_neg (by omega), if_neg (by omega), if_neg (by omega), if_neg (by omega), if_neg (by omega), if_neg (by omega), if_pos (by omega)]
  · rw [if_neg (by omega), if_neg (by omega), if_neg (by omega), if_neg (by omega), if_neg (by omega), if_neg (by omega), if_neg (by omega), if_neg (by omega), if_neg (by omega), if_neg (by omega), if_neg (by omega), if_neg (by omega), if_neg (by omega), if_pos (by omega)]
/-- The document's place. -/
def dPlace (op : Int) (n : Nat) (own : Int) (i : Nat) : Int :=
  if op = 23 then (if 2 ≤ i then 2 else 1) else if op = 24 then 2 else if op = 25 then (if own ≠ 6 then 2 else 1) else if op = 26 then (if own = 5 then 4 else 1) else if op = 20 then (if own = 3 ∧ i = 0 then 3 else 1)
  else if op = 27 then (if i = 0 then 3 else 1) else if op = 28 then (if (i : Int) = n - 2 then 5 else if (i : Int) < n - 2 then 4 else 1) else if op = 29 then (if i = 1 then 6 else 1) else if op = 50 then (if i = 0 then 6 else 7)
  else if op = 41 then (if i % 2 = 1 ∨ (i : Int) = n - 1 then 7 else 1) else if op = 42 ∨ op = 48 ∨ op = 44 ∨ op = 43 then (if (i : Int) = n - 1 then 7 else 1) else if op = 49 then (if 0 < i then 8 else 7) else if op = 51 then 7 else if op = 52 then 9 else 1
set_option maxRecDepth 100000 in
set_option maxHeartbeats 6400000 in
theorem dplace_any (op ln vk vn : Int) (s vs : ByteArray) (va : Value) (la : Option Addr) (n lc : Nat) (hn : n ≤ 1048576) (own : Int) (i : Nat) (hi : i < n) (w : World) : Calls Tryd.prog 64 #[.agg #[.int .i64 op, .int .i64 ln, .string s, .int .i64 vk, .int .i64 vn, .string vs, va, .slice la n lc], .int .i64 own, .int .i64 i] w fun e w' => e = .returned (.int .i64 (dPlace op n own i)) ∧ Fr (fun _ => False) w w' := by
  have hnI : (n : Int) ≤ 1048576 := by omega
  have hiI : (i : Int) < n := by omega
  have HF := hid ((Fr.refl (fun _ => False) w).alloc (.cells #[.int .i64 op, .int .i64 ln, .string s, .int .i64 vk, .int .i64 vn, .string vs, va, .slice la n lc] 29))
  by_cases h23 : op = 23
  · subst h23
    by_cases hc : 2 ≤ i
    · have HR := hid (show dPlace 23 n own i = 2 by exact if_pos hc)
      have g1 : (i : Int) ≥ 2 := by omega
      go_enter Tryd.func64, Tryd.ntmps64
      go_wp2_with fail
      go_ret
      exact ⟨ret_int HR.out.symm, HF.out⟩
    · have HR := hid (show dPlace 23 n own i = 1 by exact if_neg hc)
      have g1 : ¬ (i : Int) ≥ 2 := by omega
      go_enter Tryd.func64, Tryd.ntmps64
      go_wp2_with fail
      go_ret
      exact ⟨ret_int HR.out.symm, HF.out⟩
  have q23 : (op == 23) = false := by simpa using h23
  by_cases h24 : op = 24
  · subst h24
    have HR := hid (show dPlace 24 n own i = 2 from rfl)
    go_enter Tryd.func64, Tryd.ntmps64
    go_wp2_with fail
    go_ret
    exact ⟨ret_int HR.out.symm, HF.out⟩
  have q24 : (op == 24) = false := by simpa using h24
  by_cases h25 : op = 25
  · subst h25
    by_cases hc : own ≠ 6
    · have HR := hid (show dPlace 25 n own i = 2 by exact if_pos hc)
      have g1 : (own != 6) = true := by simpa using hc
      go_enter Tryd.func64, Tryd.ntmps64
      go_wp2_with fail
      go_ret
      exact ⟨ret_int HR.out.symm, HF.out⟩
    · have HR := hid (show dPlace 25 n own i = 1 by exact if_neg hc)
      have g1 : (own != 6) = false := by simpa using hc
      go_enter Tryd.func64, Tryd.ntmps64
      go_wp2_with fail
      go_ret
      exact ⟨ret_int HR.out.symm, HF.out⟩
  have q25 : (op == 25) = false := by simpa using h25
  by_cases h26 : op = 26
  · subst h26
    by_cases hc : own = 5
    · have HR := hid (show dPlace 26 n own i = 4 by exact if_pos hc)
      have g1 : (own == 5) = true := by simpa using hc
      clear hc
      go_enter Tryd.func64, Tryd.ntmps64
      go_wp2_with fail
      go_ret
      exact ⟨ret_int HR.out.symm, HF.out⟩
    · have HR := hid (show dPlace 26 n own i = 1 by exact if_neg hc)
      have g1 : (own == 5) = false := by simpa using hc
      go_enter Tryd.func64, Tryd.ntmps64
      go_wp2_with fail
      go_ret
      exact ⟨ret_int HR.out.symm, HF.out⟩
  have q26 : (op == 26) = false := by simpa using h26
  by_cases h20 : op = 20
  · subst h20
    by_cases hc : own = 3 ∧ i = 0
    · have HR := hid (show dPlace 20 n own i = 3 from if_pos hc)
      obtain ⟨rfl, rfl⟩ := hc
      go_enter Tryd.func64, Tryd.ntmps64
      go_wp2_with fail
      go_ret
      exact ⟨ret_int HR.out.symm, HF.out⟩
    · have HR := hid (show dPlace 20 n own i = 1 from if_neg hc)
      cases g1 : (own == 3)
      · go_enter Tryd.func64, Tryd.ntmps64
        go_wp2_with fail
        go_ret
        exact ⟨ret_int HR.out.symm, HF.out⟩
      · have g2 : ((i : Int) == 0) = false := by rw [beq_eq_false_iff_ne]; exact fun h => hc ⟨by simpa using g1, by omega⟩
        go_enter Tryd.func64, Tryd.ntmps64
        go_wp2_with fail
        go_ret
        exact ⟨ret_int HR.out.symm, HF.out⟩
  have q20 : (op == 20) = false := by simpa using h20
  by_cases h27 : op = 27
  · subst h27
    by_cases hc : i = 0
    · have HR := hid (show dPlace 27 n own i = 3 by exact if_pos hc)
      have g1 : ((i : Int) == 0) = true := by simp; omega
      go_enter Tryd.func64, Tryd.ntmps64
      go_wp2_with fail
      go_ret
      exact ⟨ret_int HR.out.symm, HF.out⟩
    · have HR := hid (show dPlace 27 n own i = 1 by exact if_neg hc)
      have g1 : ((i : Int) == 0) = false := by rw [beq_eq_false_iff_ne]; omega
      go_enter Tryd.func64, Tryd.ntmps64
      go_wp2_with fail
      go_ret
      exact ⟨ret_int HR.out.symm, HF.out⟩
  have q27 : (op == 27) = false := by simpa using h27
  by_cases h28 : op = 28
  · subst h28
    by_cases hc : (i : Int) = n - 2
    · have HR := hid (show dPlace 28 n own i = 5 from if_pos hc)
      have g1 : ((i : Int) == (n : Int) - 2) = true := by simpa using hc
      clear hc
      go_enter Tryd.func64, Tryd.ntmps64
      go_wp2_with fail
      go_ret
      exact ⟨ret_int HR.out.symm, HF.out⟩
    · have g1 : ((i : Int) == (n : Int) - 2) = false := by simpa using hc
      by_cases hd : (i : Int) < n - 2
      · have HR := hid (show dPlace 28 n own i = 4 from (if_neg hc).trans (if_pos hd))
        clear hc
        go_enter Tryd.func64, Tryd.ntmps64
        go_wp2_with fail
        go_ret
        exact ⟨ret_int HR.out.symm, HF.out⟩
      · have HR := hid (show dPlace 28 n own i = 1 from (if_neg hc).trans (if_neg hd))
        clear hc
        go_enter Tryd.func64, Tryd.ntmps64
        go_wp2_with fail
        go_ret
        exact ⟨ret_int HR.out.symm, HF.out⟩
  have q28 : (op == 28) = false := by simpa using h28
  by_cases h29 : op = 29
  · subst h29
    by_cases hc : i = 1
    · have HR := hid (show dPlace 29 n own i = 6 by exact if_pos hc)
      have g1 : ((i : Int) == 1) = true := by simp; omega
      go_enter Tryd.func64, Tryd.ntmps64
      go_wp2_with fail
      go_ret
      exact ⟨ret_int HR.out.symm, HF.out⟩
    · have HR := hid (show dPlace 29 n own i = 1 by exact if_neg hc)
      have g1 : ((i : Int) == 1) = false := by rw [beq_eq_false_iff_ne]; omega
      go_enter Tryd.func64, Tryd.ntmps64
      go_wp2_with fail
      go_ret
      exact ⟨ret_int HR.out.symm, HF.out⟩
  have q29 : (op == 29) = false := by simpa using h29
  by_cases h50 : op = 50
  · subst h50
    by_cases hc : i = 0
    · have HR := hid (show dPlace 50 n own i = 6 by exact if_pos hc)
      have g1 : ((i : Int) == 0) = true := by simp; omega
      go_enter Tryd.func64, Tryd.ntmps64
      go_wp2_with fail
      go_ret
      exact ⟨ret_int HR.out.symm, HF.out⟩
    · have HR := hid (show dPlace 50 n own i = 7 by exact if_neg hc)
      have g1 : ((i : Int) == 0) = false := by rw [beq_eq_false_iff_ne]; omega
      go_enter Tryd.func64, Tryd.ntmps64
      go_wp2_with fail
      go_ret
      exact ⟨ret_int HR.out.symm, HF.out⟩
  have q50 : (op == 50) = false := by simpa using h50
  by_cases h41 : op = 41
  · subst h41
    have h41 : dPlace 41 n own i = if i % 2 = 1 ∨ (i : Int) = n - 1 then 7 else 1 := rfl
    have hmod : (i : Int).tmod 2 = ((i % 2 : Nat) : Int) := by rw [Int.tmod_eq_emod_of_nonneg (by omega)]; omega
    rcases Nat.mod_two_eq_zero_or_one i with hp | hp
    · rw [hp] at hmod
      by_cases hd : (i : Int) = n - 1
      · have HR := hid (show dPlace 41 n own i = 7 by rw [h41, if_pos (Or.inr hd)])
        have g1 : ((i : Int) == (n : Int) - 1) = true := by simpa using hd
        clear hd hp
        go_enter Tryd.func64, Tryd.ntmps64
        go_wp2_with fail
        go_ret
        exact ⟨ret_int HR.out.symm, HF.out⟩
      · have HR := hid (show dPlace 41 n own i = 1 by rw [h41, if_neg (by omega)])
        have g1 : ((i : Int) == (n : Int) - 1) = false := by simpa using hd
        clear hd hp
        go_enter Tryd.func64, Tryd.ntmps64
        go_wp2_with fail
        go_ret
        exact ⟨ret_int HR.out.symm, HF.out⟩
    · rw [hp] at hmod
      have HR := hid (show dPlace 41 n own i = 7 by rw [h41, if_pos (Or.inl hp)])
      clear hp
      go_enter Tryd.func64, Tryd.ntmps64
      go_wp2_with fail
      go_ret
      exact ⟨ret_int HR.out.symm, HF.out⟩
  have q41 : (op == 41) = false := by simpa using h41
  by_cases h42 : op = 42
  · subst h42
    by_cases hc : (i : Int) = n - 1
    · have HR := hid (show dPlace 42 n own i = 7 by exact if_pos hc)
      have g1 : ((i : Int) == (n : Int) - 1) = true := by simpa using hc
      clear hc
      go_enter Tryd.func64, Tryd.ntmps64
      go_wp2_with fail
      go_ret
      exact ⟨ret_int HR.out.symm, HF.out⟩
    · have HR := hid (show dPlace 42 n own i = 1 by exact if_neg hc)
      have g1 : ((i : Int) == (n : Int) - 1) = false := by simpa using hc
      clear hc
      go_enter Tryd.func64, Tryd.ntmps64
      go_wp2_with fail
      go_ret
      exact ⟨ret_int HR.out.symm, HF.out⟩
  have q42 : (op == 42) = false := by simpa using h42
  by_cases h48 : op = 48
  · subst h48
    by_cases hc : (i : Int) = n - 1
    · have HR := hid (show dPlace 48 n own i = 7 by exact if_pos hc)
      have g1 : ((i : Int) == (n : Int) - 1) = true := by simpa using hc
      clear hc
      go_enter Tryd.func64, Tryd.ntmps64
      go_wp2_with fail
      go_ret
      exact ⟨ret_int HR.out.symm, HF.out⟩
    · have HR := hid (show dPlace 48 n own i = 1 by exact if_neg hc)
      have g1 : ((i : Int) == (n : Int) - 1) = false := by simpa using hc
      clear hc
      go_enter Tryd.func64, Tryd.ntmps64
      go_wp2_with fail
      go_ret
      exact ⟨ret_int HR.out.symm, HF.out⟩
  have q48 : (op == 48) = false := by simpa using h48
  by_cases h44 : op = 44
  · subst h44
    by_cases hc : (i : Int) = n - 1
    · have HR := hid (show dPlace 44 n own i = 7 by exact if_pos hc)
      have g1 : ((i : Int) == (n : Int) - 1) = true := by simpa using hc
      clear hc
      go_enter Tryd.func64, Tryd.ntmps64
      go_wp2_with fail
      go_ret
      exact ⟨ret_int HR.out.symm, HF.out⟩
    · have HR := hid (show dPlace 44 n own i = 1 by exact if_neg hc)
      have g1 : ((i : Int) == (n : Int) - 1) = false := by simpa using hc
      clear hc
      go_enter Tryd.func64, Tryd.ntmps64
      go_wp2_with fail
      go_ret
      exact ⟨ret_int HR.out.symm, HF.out⟩
  have q44 : (op == 44) = false := by simpa using h44
  by_cases h43 : op = 43
  · subst h43
    by_cases hc : (i : Int) = n - 1
    · have HR := hid (show dPlace 43 n own i = 7 by exact if_pos hc)
      have g1 : ((i : Int) == (n : Int) - 1) = true := by simpa using hc
      clear hc
      go_enter Tryd.func64, Tryd.ntmps64
      go_wp2_with fail
      go_ret
      exact ⟨ret_int HR.out.symm, HF.out⟩
    · have HR := hid (show dPlace 43 n own i = 1 by exact if_neg hc)
      have g1 : ((i : Int) == (n : Int) - 1) = false := by simpa using hc
      clear hc
      go_enter Tryd.func64, Tryd.ntmps64
      go_wp2_with fail
      go_ret
      exact ⟨ret_int HR.out.symm, HF.out⟩
  have q43 : (op == 43) = false := by simpa using h43
  by_cases h49 : op = 49
  · subst h49
    by_cases hc : 0 < i
    · have HR := hid (show dPlace 49 n own i = 8 by exact if_pos hc)
      have g1 : (i : Int) > 0 := by omega
      go_enter Tryd.func64, Tryd.ntmps64
      go_wp2_with fail
      go_ret
      exact ⟨ret_int HR.out.symm, HF.out⟩
    · have HR := hid (show dPlace 49 n own i = 7 by exact if_neg hc)
      have g1 : ¬ (i : Int) > 0 := by omega
      go_enter Tryd.func64, Tryd.ntmps64
      go_wp2_with fail
      go_ret
      exact ⟨ret_int HR.out.symm, HF.out⟩
  have q49 : (op == 49) = false := by simpa using h49
  by_cases h51 : op = 51
  · subst h51
    have HR := hid (show dPlace 51 n own i = 7 from rfl)
    go_enter Tryd.func64, Tryd.ntmps64
    go_wp2_with fail
    go_ret
    exact ⟨ret_int HR.out.symm, HF.out⟩
  have q51 : (op == 51) = false := by simpa using h51
  by_cases h52 : op = 52
  · subst h52
    have HR := hid (show dPlace 52 n own i = 9 from rfl)
    go_enter Tryd.func64, Tryd.ntmps64
    go_wp2_with fail
    go_ret
    exact ⟨ret_int HR.out.symm, HF.out⟩
  have q52 : (op == 52) = false := by simpa using h52
  have HR := hid (show dPlace op n own i = 1 by unfold dPlace; repeat rw [if_neg (by omega)])
  clear h23 h24 h25 h26 h20 h27 h28 h29 h50 h41 h42 h48 h44 h43 h49 h51 h52
  go_enter Tryd.func64, Tryd.ntmps64
  go_wp2_with fail
  go_ret
  exact ⟨ret_int HR.out.symm, HF.out⟩
end Go.Proofs.YteihmagldhmjgaaDoor
