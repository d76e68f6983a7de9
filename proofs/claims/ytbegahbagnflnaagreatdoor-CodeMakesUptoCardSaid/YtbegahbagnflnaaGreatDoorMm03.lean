/- TreeA, TreeB: several texts in one: a claim has at most 60 files -/
import Derived.Test.YtbegahbagnflnaaGreatDoorMm02
set_option linter.unusedSimpArgs false
set_option linter.unusedVariables false
set_option linter.unnecessarySimpa false
namespace Go.Proofs.YtbegahbagnflnaaGreatDoor
section
open Go.RowKit

def pLoops (op : Int) : Bool := op == 42 || op == 43 || op == 44
theorem loops_any (op : Int) (w : World) : Calls Tryz.prog 112 #[.int .i64 op] w fun e w' => e = .returned (.bool (pLoops op)) ∧ w = w' := by
  have HP := hid (show pLoops op = (op == 42 || op == 43 || op == 44) from rfl)
  by_cases h1 : op = 42
  · subst h1
    go_enter Tryz.func112, Tryz.ntmps112
    go_wp2
    go_ret
    exact ⟨rfl, rfl⟩
  have q1 : (op == 42) = false := by simpa using h1
  by_cases h2 : op = 43
  · subst h2
    go_enter Tryz.func112, Tryz.ntmps112
    go_wp2
    go_ret
    exact ⟨rfl, rfl⟩
  have q2 : (op == 43) = false := by simpa using h2
  by_cases h3 : op = 44
  · subst h3
    go_enter Tryz.func112, Tryz.ntmps112
    go_wp2
    go_ret
    exact ⟨rfl, rfl⟩
  have q3 : (op == 44) = false := by simpa using h3
  have HR := hid (show pLoops op = false by rw [HP.out, q1, q2, q3]; rfl)
  clear h1 h2 h3
  go_enter Tryz.func112, Tryz.ntmps112
  go_wp2
  go_ret
  exact ⟨ret_bool HR.out.symm, rfl⟩
def pNamed (op : Int) : Bool × Bool := if op = 2 ∨ op = 24 ∨ op = 42 ∨ op = 43 then (true, false) else if op = 50 then (true, true) else (false, false)
theorem named_any (op : Int) (w : World) : Calls Tryz.prog 132 #[.int .i64 op] w fun e w' => e = .returned (.tuple #[.bool (pNamed op).1, .bool (pNamed op).2]) ∧ w = w' := by
  by_cases h0 : op = 2
  · subst h0
    go_enter Tryz.func132, Tryz.ntmps132
    go_wp2
    go_ret2
    exact ⟨rfl, rfl⟩
  have q0 : (op == 2) = false := by simpa using h0
  by_cases h1 : op = 24
  · subst h1
    go_enter Tryz.func132, Tryz.ntmps132
    go_wp2
    go_ret2
    exact ⟨rfl, rfl⟩
  have q1 : (op == 24) = false := by simpa using h1
  by_cases h2 : op = 42
  · subst h2
    go_enter Tryz.func132, Tryz.ntmps132
    go_wp2
    go_ret2
    exact ⟨rfl, rfl⟩
  have q2 : (op == 42) = false := by simpa using h2
  by_cases h3 : op = 43
  · subst h3
    go_enter Tryz.func132, Tryz.ntmps132
    go_wp2
    go_ret2
    exact ⟨rfl, rfl⟩
  have q3 : (op == 43) = false := by simpa using h3
  by_cases h4 : op = 50
  · subst h4
    go_enter Tryz.func132, Tryz.ntmps132
    go_wp2
    go_ret2
    exact ⟨rfl, rfl⟩
  have q4 : (op == 50) = false := by simpa using h4
  have HP := hid (show pNamed op = (false, false) by unfold pNamed; rw [if_neg (by omega), if_neg (by omega)])
  clear h0 h1 h2 h3 h4
  go_enter Tryz.func132, Tryz.ntmps132
  go_wp2
  go_ret2
  exact ⟨by rw [HP.out]; rfl, rfl⟩
def isExpr (op : Int) : Bool := decide (1 ≤ op) && decide (op ≤ 29) && op != 26
def pStands (op role : Int) : Bool :=
  if role = 0 then isExpr op else if role = 1 then isExpr op || op == 26 else if role = 2 then op == 2 || op == 22 || op == 20 else if role = 3 then op == 2 else if role = 4 then op == 2 || op == 26 else
  if role = 5 then op == 25 else if role = 6 then op == 52 else if role = 8 then op == 50 else decide (40 ≤ op) && decide (op ≤ 51) && op != 50

set_option maxRecDepth 100000 in
set_option maxHeartbeats 6400000 in
theorem stands_any (x : Nd) (role : Int) (hr0 : 0 ≤ role) (hr8 : role ≤ 8) (va la : Value) (w : World) : Calls Tryz.prog 130 #[.agg #[.int .i64 x.op, .int .i64 x.ln, .string x.s, .int .i64 x.v.k, .int .i64 x.v.n, .string x.v.s, va, la], .int .i64 role] w fun e w' => e = .returned (.bool (pStands x.op role)) ∧ Fr (fun _ => False) w w' := by
  generalize x.op = op
  have HF := hid ((Fr.refl (fun _ => False) w).alloc (.cells #[.int .i64 op, .int .i64 x.ln, .string x.s, .int .i64 x.v.k, .int .i64 x.v.n, .string x.v.s, va, la] 75))
  have hg := heap_alloc_new w (.cells #[.int .i64 op, .int .i64 x.ln, .string x.s, .int .i64 x.v.k, .int .i64 x.v.n, .string x.v.s, va, la] 75)
  have d0 : (w.alloc (.cells #[.int .i64 op, .int .i64 x.ln, .string x.s, .int .i64 x.v.k, .int .i64 x.v.n, .string x.v.s, va, la] 75)).cell? ⟨w.heap.size, 0, none⟩ = some (.int .i64 op) := by rw [cell_of_row _ _ 0 _ _ _ hg]; rfl
  clear hg
  go_enter Tryz.func130, Tryz.ntmps130
  go_upto_region 1 with fail
  go_cut [5] from 6 to 18 (fun c wx => c = .bool (isExpr op) ∧ (w.alloc (.cells #[.int .i64 op, .int .i64 x.ln, .string x.s, .int .i64 x.v.k, .int .i64 x.v.n, .string x.v.s, va, la] 75)) = wx)
  case first =>
    by_cases h1 : 1 ≤ op
    · by_cases h2 : op ≤ 29
      · by_cases h3 : op = 26
        · subst h3
          go_wp2_with fail
          go_meet
          exact ⟨rfl, rfl⟩
        · have q3 : (op != 26) = true := by simpa using h3
          have HE := hid (show isExpr op = true by unfold isExpr; rw [decide_eq_true h1, decide_eq_true h2, q3]; rfl)
          clear h3
          go_wp2_with fail
          go_meet
          exact ⟨by rw [HE.out], rfl⟩
      · have HE := hid (show isExpr op = false by unfold isExpr; rw [decide_eq_true h1, decide_eq_false h2]; rfl)
        go_wp2_with fail
        go_meet
        exact ⟨by rw [HE.out], rfl⟩
    · have HE := hid (show isExpr op = false by unfold isExpr; rw [decide_eq_false h1]; rfl)
      go_wp2_with fail
      go_meet
      exact ⟨by rw [HE.out], rfl⟩
  case rest =>
  obtain ⟨rfl, rfl⟩ := hcut
  have hrole : role = 0 ∨ role = 1 ∨ role = 2 ∨ role = 3 ∨ role = 4 ∨ role = 5 ∨ role = 6 ∨ role = 7 ∨ role = 8 := by omega
  rcases hrole with rfl | rfl | rfl | rfl | rfl | rfl | rfl | rfl | rfl
  · go_wp2_with fail
    go_ret
    exact ⟨rfl, HF.out⟩
  · have HE := hid (show pStands op 1 = (isExpr op || op == 26) from rfl)
    generalize isExpr op = b at *
    cases b
    · go_wp2_with fail
      go_ret
      exact ⟨ret_bool HE.out.symm, HF.out⟩
    · go_wp2_with fail
      go_ret
      exact ⟨ret_bool HE.out.symm, HF.out⟩
  · have HE := hid (show pStands op 2 = (op == 2 || op == 22 || op == 20) from rfl)
    by_cases h1 : op = 2
    · subst h1
      go_wp2_with fail
      go_ret
      exact ⟨rfl, HF.out⟩
    have q1 : (op == 2) = false := by simpa using h1
    by_cases h2 : op = 22
    · subst h2
      go_wp2_with fail
      go_ret
      exact ⟨rfl, HF.out⟩
    have q2 : (op == 22) = false := by simpa using h2
    have HE2 := hid (show pStands op 2 = (op == 20) by rw [HE.out, q1, q2]; rfl)
    clear h1 h2 HE
    go_wp2_with fail
    go_ret
    exact ⟨ret_bool HE2.out.symm, HF.out⟩
  · go_wp2_with fail
    go_ret
    exact ⟨rfl, HF.out⟩
  · have HE := hid (show pStands op 4 = (op == 2 || op == 26) from rfl)
    by_cases h1 : op = 2
    · subst h1
      go_wp2_with fail
      go_ret
      exact ⟨rfl, HF.out⟩
    have q1 : (op == 2) = false := by simpa using h1
    have HE2 := hid (show pStands op 4 = (op == 26) by rw [HE.out, q1]; rfl)
    clear h1 HE
    go_wp2_with fail
    go_ret
    exact ⟨ret_bool HE2.out.symm, HF.out⟩
  · go_wp2_with fail
    go_ret
    exact ⟨rfl, HF.out⟩
  · go_wp2_with fail
    go_ret
    exact ⟨rfl, HF.out⟩
  · have HE := hid (show pStands op 7 = (decide (40 ≤ op) && decide (op ≤ 51) && op != 50) from rfl)
    by_cases h1 : 40 ≤ op
    · by_cases h2 : op ≤ 51
      · have HE2 := hid (show pStands op 7 = (op != 50) by rw [HE.out, decide_eq_true h1, decide_eq_true h2]; rfl)
        clear HE
        go_wp2_with fail
        go_ret
        exact ⟨ret_bool HE2.out.symm, HF.out⟩
      · have HE2 := hid (show pStands op 7 = false by rw [HE.out, decide_eq_true h1, decide_eq_false h2]; rfl)
        clear HE
        go_wp2_with fail
        go_ret
        exact ⟨ret_bool HE2.out.symm, HF.out⟩
    · have HE2 := hid (show pStands op 7 = false by rw [HE.out, decide_eq_false h1]; rfl)
      clear HE
      go_wp2_with fail
      go_ret
      exact ⟨ret_bool HE2.out.symm, HF.out⟩
  · go_wp2_with fail
    go_ret
    exact ⟨rfl, HF.out⟩
end
section
open Go.RowKit

/-- Roles in a row. -/
def rV (l : List Int) : List Value := l.map fun r => .int .i64 r
theorem Tryz.info_i : (Tryz.prog.info? 3).map (fun i => (i.zero, i.size, i.bytes)) = some (some (.int .i64 0), 1, 8) := by kernel_rfl
set_option maxRecDepth 100000 in
set_option maxHeartbeats 1600000 in
theorem all_any (r : Int) (n : Nat) (hn : n ≤ 1073741824) (w : World) : Calls Tryz.prog 134 #[.int .i64 r, .int .i64 n] w fun e w' => ∃ v, e = .returned v ∧ w'.ownsRow w.heap.size 3 1 v n (rV (List.replicate n r)) ∧ Fr (fun _ => False) w w' := by
  have hnI : (n : Int) ≤ 1073741824 := by omega
  have HN := hid hn
  clear hn
  go_enter Tryz.func134, Tryz.ntmps134
  go_wp2_with fail
  go_loopw [5, 7] (fun v i wr => ∃ k : Nat, k ≤ n ∧ i = .int .i64 k ∧ wr.ownsRow w.heap.size 3 1 v k (rV (List.replicate k r)) ∧ Fr (fun _ => False) w wr) (fun _ i _ => n - (intOf i).toNat)
  case atStart => exact ⟨0, Nat.zero_le _, rfl, World.ownsRow_nil _ _ _ _, Fr.refl _ _⟩
  case round =>
    obtain ⟨k, hk, rfl, ho, hf⟩ := hrel
    by_cases hlt : k < n
    · have hlt' : (k : Int) < n := by omega
      have hfa := hf.alloc (.cells #[.int .i64 r] 3)
      have hcell := cell_new1 wr (.int .i64 r) 3 (0, 0)
      have HOW := hid (World.ownsRow.alloc ho (.cells #[.int .i64 r] 3))
      have HFA := hid hfa; have HCE := hid hcell
      have HK := hid (show k + 1 ≤ 1099511627776 by have := HN.out; omega)
      have HLT := hid (fun q (hq : Value.ownBlock _ = some q) => (ho.lt q hq).1)
      obtain ⟨va, vc, rfl, -⟩ := own_len ho
      clear ho hf hfa hcell
      go_wp2_with (at_builtin; go_must (refine wpList_append1 rfl (.tmp 9) (.tmp 11) 64 rfl 3 (.int .i64 0) 8 Tryz.underlying64 Tryz.info_i rfl _ rfl w.heap.size k (rV (List.replicate k r)) HOW.out wr.heap.size 1 (.int .i64 r) rfl HCE.out rfl HK.out (by decide) HFA.out.size ?_))
      intro g cap w3 ho3 hf3 _
      have HF3 := hid (HFA.out.trans hf3 (U := fun _ => False) (fun _ _ h => h) (fun q hq e => by have := HLT.out q e.symm; omega))
      have HO3 := hid (show w3.ownsRow w.heap.size 3 1 (.slice (some ⟨g, 0, none⟩) (k + 1) cap) (k + 1) (rV (List.replicate (k + 1) r)) by
        have : rV (List.replicate (k + 1) r) = rV (List.replicate k r) ++ [.int .i64 r] := by rw [List.replicate_succ']; simp [rV]
        rw [this]; exact ho3)
      clear ho3 hf3
      go_wp2_with fail
      go_roundw
      case rel => exact ⟨k + 1, by omega, by go_num, HO3.out, HF3.out⟩
      case measure => simp [intOf]; omega
    · obtain rfl : k = n := by omega
      go_wp2_with fail
      go_ret
      exact ⟨_, rfl, ho, hf⟩
end
end Go.Proofs.YtbegahbagnflnaaGreatDoor
