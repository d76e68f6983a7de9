import Derived.Test.YtbegahbagnflnaaGreatDoorMn25
import Derived.Test.YtbegahbagnflnaaGreatDoorMn01
set_option linter.unusedSimpArgs false
set_option linter.unusedVariables false
set_option linter.unnecessarySimpa false
namespace Go.Proofs.YtbegahbagnflnaaGreatDoor
section
open Go.RowKit
def RolesPostC (w : World) (L : List Int) (full : Bool) (e : Ending) (w' : World) : Prop := ∃ v, e = .returned (.tuple #[v, .bool full]) ∧ Fr (fun _ => False) w w' ∧ (full = true → RolesAt w' v L)
theorem RolesAt.own' {w : World} {base m : Nat} {v : Value} {xs : List Value} {L : List Int} (h : w.ownsRow base 3 1 v m xs) (hm : m = L.length) (hx : xs = rV L) : RolesAt w v L := by
 subst hm hx
 exact RolesAt.own h
theorem all_any' (r k : Int) (n : Nat) (hk : k = n) (hn : n ≤ 1073741824) (w : World) : Calls Tryz.prog 134 #[.int .i64 r, .int .i64 k] w fun e w' => ∃ v, e = .returned v ∧ w'.ownsRow w.heap.size 3 1 v n (rV (List.replicate n r)) ∧ Fr (fun _ => False) w w' := by
 subst hk
 exact all_any r n hn w
theorem RolesPost.weak {w w' : World} {L : List Int} {full : Bool} {e : Ending} (h : RolesPost w L full e w') : RolesPostC w L full e w' := by
 obtain ⟨v, h1, h2, h3⟩ := h
 exact ⟨v, h1, h2, fun _ => h3⟩
set_option maxRecDepth 100000 in
set_option maxHeartbeats 6400000 in
theorem roles24_any (op ln vk vn : Int) (s vs : ByteArray) (va : Value) (la : Option Addr) (n lc : Nat) (hop : op = 24 ∨ op = 25) (hn : n ≤ 1048576) (w : World) : Calls Tryz.prog 111 #[.agg #[.int .i64 op, .int .i64 ln, .string s, .int .i64 vk, .int .i64 vn, .string vs, va, .slice la n lc]] w (RolesPostC w (List.replicate n 1) true) := by
 have hF := (Fr.refl (fun _ => False) w).alloc (.cells #[.int .i64 op, .int .i64 ln, .string s, .int .i64 vk, .int .i64 vn, .string vs, va, .slice la n lc] 75)
 have hnI : (n : Int) ≤ 1048576 := by omega
 have HF := hid hF; have HN := hid hn
 clear hF hn
 unfold RolesPostC
 rcases hop with rfl | rfl
 all_goals
  have hb : true = true := rfl
  go_enter Tryz.func111, Tryz.ntmps111
  go_wp2_with fail
  refine (all_any 1 n (by have := HN.out; omega) _).mono ?_
  rintro e w2 ⟨v, rfl, ho, hf2⟩
  obtain ⟨a9, c9, rfl, -⟩ := own_len ho
  have HF2 := hid (HF.out.trans' hf2); have HO := hid (RolesAt.own (L := List.replicate n 1) (by simpa using ho))
  clear ho hf2
  go_wp2_with fail
  go_ret2
  exact ⟨_, rfl, HF2.out, fun _ => HO.out⟩
set_option maxRecDepth 100000 in
set_option maxHeartbeats 6400000 in
theorem roles52_any (op ln vk vn : Int) (s vs : ByteArray) (va : Value) (la : Option Addr) (n lc : Nat) (hop : op = 52) (hn : n ≤ 1048576) (w : World) : Calls Tryz.prog 111 #[.agg #[.int .i64 op, .int .i64 ln, .string s, .int .i64 vk, .int .i64 vn, .string vs, va, .slice la n lc]] w (RolesPostC w (List.replicate n 7) true) := by
 have hF := (Fr.refl (fun _ => False) w).alloc (.cells #[.int .i64 op, .int .i64 ln, .string s, .int .i64 vk, .int .i64 vn, .string vs, va, .slice la n lc] 75)
 have hnI : (n : Int) ≤ 1048576 := by omega
 have HF := hid hF; have HN := hid hn
 clear hF hn
 unfold RolesPostC
 rcases hop with rfl
 all_goals
  have hb : true = true := rfl
  go_enter Tryz.func111, Tryz.ntmps111
  go_wp2_with fail
  refine (all_any 7 n (by have := HN.out; omega) _).mono ?_
  rintro e w2 ⟨v, rfl, ho, hf2⟩
  obtain ⟨a9, c9, rfl, -⟩ := own_len ho
  have HF2 := hid (HF.out.trans' hf2); have HO := hid (RolesAt.own (L := List.replicate n 7) (by simpa using ho))
  clear ho hf2
  go_wp2_with fail
  go_ret2
  exact ⟨_, rfl, HF2.out, fun _ => HO.out⟩
set_option maxRecDepth 100000 in
set_option maxHeartbeats 6400000 in
theorem roles47_any (op ln vk vn : Int) (s vs : ByteArray) (va : Value) (la : Option Addr) (n lc : Nat) (hop : op = 47) (hn : n ≤ 1048576) (w : World) : Calls Tryz.prog 111 #[.agg #[.int .i64 op, .int .i64 ln, .string s, .int .i64 vk, .int .i64 vn, .string vs, va, .slice la n lc]] w (RolesPostC w (List.replicate n 0) (decide (n ≤ 1))) := by
 have hF := (Fr.refl (fun _ => False) w).alloc (.cells #[.int .i64 op, .int .i64 ln, .string s, .int .i64 vk, .int .i64 vn, .string vs, va, .slice la n lc] 75)
 have hnI : (n : Int) ≤ 1048576 := by omega
 have HF := hid hF; have HN := hid hn
 clear hF hn
 unfold RolesPostC
 rcases hop with rfl
 all_goals
  have hb : decide ((n : Int) ≤ 1) = decide (n ≤ 1) := by
   by_cases h : n ≤ 1
   ·rw [decide_eq_true h, decide_eq_true (by omega)]
   ·rw [decide_eq_false h, decide_eq_false (by omega)]
  generalize decide (n ≤ 1) = b at *
  go_enter Tryz.func111, Tryz.ntmps111
  go_wp2_with fail
  refine (all_any 0 n (by have := HN.out; omega) _).mono ?_
  rintro e w2 ⟨v, rfl, ho, hf2⟩
  obtain ⟨a9, c9, rfl, -⟩ := own_len ho
  have HF2 := hid (HF.out.trans' hf2); have HO := hid (RolesAt.own (L := List.replicate n 0) (by simpa using ho))
  clear ho hf2
  go_wp2_with fail
  go_ret2
  exact ⟨_, rfl, HF2.out, fun _ => HO.out⟩
set_option maxRecDepth 100000 in
set_option maxHeartbeats 6400000 in
theorem rolesD_any (op ln vk vn : Int) (s vs : ByteArray) (va : Value) (la : Option Addr) (n lc : Nat) (hop : op < 1 ∨ 29 < op ∧ op < 40 ∨ 52 < op) (hn : n ≤ 1048576) (w : World) : Calls Tryz.prog 111 #[.agg #[.int .i64 op, .int .i64 ln, .string s, .int .i64 vk, .int .i64 vn, .string vs, va, .slice la n lc]] w (RolesPostC w [] false) := by
 have hF := (Fr.refl (fun _ => False) w).alloc (.cells #[.int .i64 op, .int .i64 ln, .string s, .int .i64 vk, .int .i64 vn, .string vs, va, .slice la n lc] 75)
 have hnI : (n : Int) ≤ 1048576 := by omega
 have HF := hid hF; have HN := hid hn
 clear hF hn
 unfold RolesPostC
 have q1 : (op == 1) = false := by rw [beq_eq_false_iff_ne]; omega
 have q2 : (op == 2) = false := by rw [beq_eq_false_iff_ne]; omega
 have q3 : (op == 3) = false := by rw [beq_eq_false_iff_ne]; omega
 have q4 : (op == 4) = false := by rw [beq_eq_false_iff_ne]; omega
 have q5 : (op == 5) = false := by rw [beq_eq_false_iff_ne]; omega
 have q6 : (op == 6) = false := by rw [beq_eq_false_iff_ne]; omega
 have q7 : (op == 7) = false := by rw [beq_eq_false_iff_ne]; omega
 have q8 : (op == 8) = false := by rw [beq_eq_false_iff_ne]; omega
 have q9 : (op == 9) = false := by rw [beq_eq_false_iff_ne]; omega
 have q10 : (op == 10) = false := by rw [beq_eq_false_iff_ne]; omega
 have q11 : (op == 11) = false := by rw [beq_eq_false_iff_ne]; omega
 have q12 : (op == 12) = false := by rw [beq_eq_false_iff_ne]; omega
 have q13 : (op == 13) = false := by rw [beq_eq_false_iff_ne]; omega
 have q14 : (op == 14) = false := by rw [beq_eq_false_iff_ne]; omega
 have q15 : (op == 15) = false := by rw [beq_eq_false_iff_ne]; omega
 have q16 : (op == 16) = false := by rw [beq_eq_false_iff_ne]; omega
 have q17 : (op == 17) = false := by rw [beq_eq_false_iff_ne]; omega
 have q18 : (op == 18) = false := by rw [beq_eq_false_iff_ne]; omega
 have q19 : (op == 19) = false := by rw [beq_eq_false_iff_ne]; omega
 have q20 : (op == 20) = false := by rw [beq_eq_false_iff_ne]; omega
 have q21 : (op == 21) = false := by rw [beq_eq_false_iff_ne]; omega
 have q22 : (op == 22) = false := by rw [beq_eq_false_iff_ne]; omega
 have q23 : (op == 23) = false := by rw [beq_eq_false_iff_ne]; omega
 have q24 : (op == 24) = false := by rw [beq_eq_false_iff_ne]; omega
 have q25 : (op == 25) = false := by rw [beq_eq_false_iff_ne]; omega
 have q26 : (op == 26) = false := by rw [beq_eq_false_iff_ne]; omega
 have q27 : (op == 27) = false := by rw [beq_eq_false_iff_ne]; omega
 have q28 : (op == 28) = false := by rw [beq_eq_false_iff_ne]; omega
 have q29 : (op == 29) = false := by rw [beq_eq_false_iff_ne]; omega
 have q40 : (op == 40) = false := by rw [beq_eq_false_iff_ne]; omega
 have q41 : (op == 41) = false := by rw [beq_eq_false_iff_ne]; omega
 have q42 : (op == 42) = false := by rw [beq_eq_false_iff_ne]; omega
 have q43 : (op == 43) = false := by rw [beq_eq_false_iff_ne]; omega
 have q44 : (op == 44) = false := by rw [beq_eq_false_iff_ne]; omega
 have q45 : (op == 45) = false := by rw [beq_eq_false_iff_ne]; omega
 have q46 : (op == 46) = false := by rw [beq_eq_false_iff_ne]; omega
 have q47 : (op == 47) = false := by rw [beq_eq_false_iff_ne]; omega
 have q48 : (op == 48) = false := by rw [beq_eq_false_iff_ne]; omega
 have q49 : (op == 49) = false := by rw [beq_eq_false_iff_ne]; omega
 have q50 : (op == 50) = false := by rw [beq_eq_false_iff_ne]; omega
 have q51 : (op == 51) = false := by rw [beq_eq_false_iff_ne]; omega
 have q52 : (op == 52) = false := by rw [beq_eq_false_iff_ne]; omega
 clear hop
 all_goals
  go_enter Tryz.func111, Tryz.ntmps111
  go_wp2_with fail
  go_ret2
  exact ⟨_, rfl, HF.out, fun h => by cases h⟩
set_option maxRecDepth 100000 in
set_option maxHeartbeats 6400000 in
theorem roles23_any (op ln vk vn : Int) (s vs : ByteArray) (va : Value) (la : Option Addr) (n lc : Nat) (hop : op = 23) (hn : n ≤ 1048576) (w : World) : Calls Tryz.prog 111 #[.agg #[.int .i64 op, .int .i64 ln, .string s, .int .i64 vk, .int .i64 vn, .string vs, va, .slice la n lc]] w (RolesPostC w (List.replicate 2 0 ++ List.replicate (n - 2) 1) (decide (2 ≤ n))) := by
 have hF := (Fr.refl (fun _ => False) w).alloc (.cells #[.int .i64 op, .int .i64 ln, .string s, .int .i64 vk, .int .i64 vn, .string vs, va, .slice la n lc] 75)
 have hnI : (n : Int) ≤ 1048576 := by omega
 have HF := hid hF; have HN := hid hn
 clear hF hn
 unfold RolesPostC
 rcases hop with rfl
 all_goals
  have hb : decide ((n : Int) ≥ 2) = decide (2 ≤ n) := by
   by_cases h : 2 ≤ n
   ·rw [decide_eq_true h, decide_eq_true (by omega)]
   ·rw [decide_eq_false h, decide_eq_false (by omega)]
  generalize decide (2 ≤ n) = b at *
  go_enter Tryz.func111, Tryz.ntmps111
  go_wp2_with fail
  refine (all_any 0 2 (by decide) _).mono ?_
  rintro e w2 ⟨v, rfl, ho, hf2⟩
  obtain ⟨a9, c9, rfl, -⟩ := own_len ho
  have HF2 := hid (HF.out.trans' hf2); have HO := hid ho; have HS2 := hid hf2.size
  clear ho hf2
  go_wp2_with fail
  all_goals
   refine (all_any' 1 _ (n - 2) (by omega) (by have := HN.out; omega) _).mono ?_
   rintro e w3 ⟨v3, rfl, ho3, hf3⟩
   have HF3 := hid (HF2.out.trans' hf3)
   have HO3 := hid (hf3.own HO.out fun _ _ => not_false)
   have HL3 := hid (fun k hk => (HO.out.lt k hk).2)
   have HS3 := hid hf3.size
   obtain ⟨ao, c, rfl, hl, hn0, hc0⟩ := own_src ho3
   have HA := hid (And.intro hl (And.intro hn0 hc0))
   clear ho3 hf3 hl hn0 hc0
   go_wp2_with (at_builtin; go_must (refine wpList_appendN rfl (.tmp 61) (.tmp 66) 64 rfl 3 (.int .i64 0) 8 Tryz.underlying64 Tryz.info_i rfl _ rfl _ 2 (rV (List.replicate 2 0)) HO3.out ao (n - 2) c (rV (List.replicate (n - 2) 1)) rfl HA.out.1 HA.out.2.1 HA.out.2.2 (by intro u hu; simp [rV] at hu; rw [hu.2]; rfl) (by have := HN.out; omega) (by decide) (by have := HS3.out; have := HS2.out; simp at *; omega) ?_))
   intro v5 w5 ho5 hf5 hk5
   have HO5 := hid (RolesAt.own' (L := List.replicate 2 0 ++ List.replicate (n - 2) 1) ho5 (by simp; omega) (by simp [rV]))
   have HF5 := hid (HF3.out.trans hf5 (U := fun _ => False) (fun _ _ h => h) (fun q hq e => by have := (HO.out.lt q e.symm).1; simp at this; omega))
   obtain ⟨a5, c5, rfl, -⟩ := own_len ho5
   clear ho5 hf5 hk5
   go_wp2_with fail
   go_ret2
   exact ⟨_, rfl, HF5.out, fun _ => HO5.out⟩
set_option maxRecDepth 100000 in
set_option maxHeartbeats 6400000 in
theorem roles49_any (op ln vk vn : Int) (s vs : ByteArray) (va : Value) (la : Option Addr) (n lc : Nat) (hop : op = 49) (hn : n ≤ 1048576) (w : World) : Calls Tryz.prog 111 #[.agg #[.int .i64 op, .int .i64 ln, .string s, .int .i64 vk, .int .i64 vn, .string vs, va, .slice la n lc]] w (RolesPostC w (6 :: List.replicate (n - 1) 8) (decide (2 ≤ n))) := by
 have hF := (Fr.refl (fun _ => False) w).alloc (.cells #[.int .i64 op, .int .i64 ln, .string s, .int .i64 vk, .int .i64 vn, .string vs, va, .slice la n lc] 75)
 have hnI : (n : Int) ≤ 1048576 := by omega
 have HF := hid hF; have HN := hid hn
 clear hF hn
 unfold RolesPostC
 rcases hop with rfl
 all_goals
  have hb : decide ((n : Int) ≥ 2) = decide (2 ≤ n) := by
   by_cases h : 2 ≤ n
   ·rw [decide_eq_true h, decide_eq_true (by omega)]
   ·rw [decide_eq_false h, decide_eq_false (by omega)]
  generalize decide (2 ≤ n) = b at *
  have ho0 := World.ownsRow_lit (base := w.heap.size + 1) (e := 3) (size := 1) (w.alloc (.cells #[.int .i64 49, .int .i64 ln, .string s, .int .i64 vk, .int .i64 vn, .string vs, va, .slice la n lc] 75)) #[.int .i64 6] 1 (by simp) (by decide) rfl
  rw [show (w.alloc (.cells #[.int .i64 49, .int .i64 ln, .string s, .int .i64 vk, .int .i64 vn, .string vs, va, .slice la n lc] 75)).heap.size = w.heap.size + 1 by simp] at ho0
  have HO := hid ho0
  clear ho0
  have HF2 := hid (HF.out.alloc (.cells #[.int .i64 6] 3))
  go_enter Tryz.func111, Tryz.ntmps111
  go_wp2_with fail
  all_goals
   refine (all_any' 8 _ (n - 1) (by omega) (by have := HN.out; omega) _).mono ?_
   rintro e w3 ⟨v3, rfl, ho3, hf3⟩
   have HF3 := hid (HF2.out.trans' hf3)
   have HO3 := hid (hf3.own HO.out fun _ _ => not_false)
   have HS3 := hid hf3.size
   obtain ⟨ao, c, rfl, hl, hn0, hc0⟩ := own_src ho3
   have HA := hid (And.intro hl (And.intro hn0 hc0))
   clear ho3 hf3 hl hn0 hc0
   go_wp2_with (at_builtin; go_must (refine wpList_appendN rfl (.tmp 161) (.tmp 166) 64 rfl 3 (.int .i64 0) 8 Tryz.underlying64 Tryz.info_i rfl _ rfl _ 1 [.int .i64 6] HO3.out ao (n - 1) c (rV (List.replicate (n - 1) 8)) rfl HA.out.1 HA.out.2.1 HA.out.2.2 (by intro u hu; simp [rV] at hu; rw [hu.2]; rfl) (by have := HN.out; omega) (by decide) (by have := HS3.out; simp at *; omega) ?_))
   intro v5 w5 ho5 hf5 hk5
   have HO5 := hid (RolesAt.own' (L := 6 :: List.replicate (n - 1) 8) ho5 (by simp; omega) (by simp [rV]))
   have HF5 := hid (HF3.out.trans hf5 (U := fun _ => False) (fun _ _ h => h) (fun q hq e => by have := (HO.out.lt q e.symm).1; omega))
   obtain ⟨a5, c5, rfl, -⟩ := own_len ho5
   clear ho5 hf5 hk5
   go_wp2_with fail
   go_ret2
   exact ⟨_, rfl, HF5.out, fun _ => HO5.out⟩
set_option maxRecDepth 100000 in
set_option maxHeartbeats 6400000 in
theorem roles29_any (op ln vk vn : Int) (s vs : ByteArray) (va : Value) (la : Option Addr) (n lc : Nat) (hop : op = 29) (hn : n ≤ 1048576) (w : World) : Calls Tryz.prog 111 #[.agg #[.int .i64 op, .int .i64 ln, .string s, .int .i64 vk, .int .i64 vn, .string vs, va, .slice la n lc]] w (RolesPostC w ([0, 5, 0].take n) (decide (n = 2) || decide (n = 3))) := by
 have hF := (Fr.refl (fun _ => False) w).alloc (.cells #[.int .i64 op, .int .i64 ln, .string s, .int .i64 vk, .int .i64 vn, .string vs, va, .slice la n lc] 75)
 have hnI : (n : Int) ≤ 1048576 := by omega
 have HF := hid hF; have HN := hid hn
 clear hF hn
 unfold RolesPostC
 rcases hop with rfl
 all_goals
  have h2 : ((n : Int) == 2) = decide (n = 2) := by
   by_cases h : n = 2
   ·rw [h]; rfl
   ·rw [decide_eq_false h, beq_eq_false_iff_ne]; omega
  have h3 : ((n : Int) == 3) = decide (n = 3) := by
   by_cases h : n = 3
   ·rw [h]; rfl
   ·rw [decide_eq_false h, beq_eq_false_iff_ne]; omega
  have ho0 := heap_alloc_new (w.alloc (.cells #[.int .i64 29, .int .i64 ln, .string s, .int .i64 vk, .int .i64 vn, .string vs, va, .slice la n lc] 75)) (.cells #[.int .i64 0, .int .i64 5, .int .i64 0] 3)
  rw [show (w.alloc (.cells #[.int .i64 29, .int .i64 ln, .string s, .int .i64 vk, .int .i64 vn, .string vs, va, .slice la n lc] 75)).heap.size = w.heap.size + 1 by simp] at ho0
  have HO := hid ho0
  clear ho0
  have HF2 := hid (HF.out.alloc (.cells #[.int .i64 0, .int .i64 5, .int .i64 0] 3))
  have HR := hid (show ∀ m, m = min n 3 → RolesAt ((w.alloc (.cells #[.int .i64 29, .int .i64 ln, .string s, .int .i64 vk, .int .i64 vn, .string vs, va, .slice la n lc] 75)).alloc (.cells #[.int .i64 0, .int .i64 5, .int .i64 0] 3)) (.slice (some ⟨w.heap.size + 1, 0, none⟩) m 3) ([0, 5, 0].take n) from fun m hm => by
   have hl : (([0, 5, 0] : List Int).take n).length = m := by simp; omega
   refine ⟨_, _, by rw [hl], by omega, by decide, fun i r hr => ⟨_, 0, rfl, ?_⟩⟩
   rw [cell_of_row _ _ (0 + i) _ _ _ HO.out, Nat.zero_add]
   have hi := (List.getElem?_eq_some_iff.1 hr).1
   rw [List.getElem?_take, if_pos (by omega)] at hr
   have h3 : i < 3 := by omega
   rcases i with _ | _ | _ | i
   ·simp at hr; simp [hr]
   ·simp at hr; simp [hr]
   ·simp at hr; simp [hr]
   ·omega)
  generalize decide (n = 2) = b2 at *
  generalize decide (n = 3) = b3 at *
  cases b2
  all_goals
  go_enter Tryz.func111, Tryz.ntmps111
  go_wp2_with fail
  all_goals
   go_ret2
   first | exact ⟨_, rfl, HF2.out, fun _ => HR.out _ (by omega)⟩ | exact ⟨_, rfl, HF2.out, HR.out _ (by omega)⟩
set_option maxRecDepth 100000 in
set_option maxHeartbeats 6400000 in
theorem roles28_any (op ln vk vn : Int) (s vs : ByteArray) (va : Value) (la : Option Addr) (n lc : Nat) (hop : op = 28) (hn : n ≤ 1048576) (w : World) : Calls Tryz.prog 111 #[.agg #[.int .i64 op, .int .i64 ln, .string s, .int .i64 vk, .int .i64 vn, .string vs, va, .slice la n lc]] w (RolesPostC w ((List.replicate (n - 1) 3).set (n - 2) 4 ++ [0]) (decide (2 ≤ n))) := by
 have hF := (Fr.refl (fun _ => False) w).alloc (.cells #[.int .i64 op, .int .i64 ln, .string s, .int .i64 vk, .int .i64 vn, .string vs, va, .slice la n lc] 75)
 have hnI : (n : Int) ≤ 1048576 := by omega
 have HF := hid hF; have HN := hid hn
 clear hF hn
 unfold RolesPostC
 rcases hop with rfl
 all_goals
  have hF0 := hid (Fr.refl (fun _ => False) w)
  by_cases h2 : 2 ≤ n
  ·have d2 : decide (2 ≤ n) = true := decide_eq_true h2
   rw [d2]
   have g1 : (n : Int) > 1 := by omega
   have g2 : (n : Int) ≥ 2 := by omega
   have g3 : ¬ ((n : Int) - 1 ≤ 0) := by omega
   go_enter Tryz.func111, Tryz.ntmps111
   go_wp2_with fail
   all_goals
    refine (all_any' 3 _ (n - 1) (by omega) (by have := HN.out; omega) _).mono ?_
    rintro e w3 ⟨v3, rfl, ho3, hf3⟩
    have HF3 := hid (HF.out.trans' hf3)
    have HS3 := hid hf3.size
    rcases own_heap ho3 with ⟨-, h0, -⟩ | ⟨g, cap, rfl, hgb, hgl, hce⟩
    ·exfalso; omega
    have HST := ho3.stored (n - 2) (.int .i64 4)
    have hc2 := hce (n - 2) (by omega)
    rw [List.getElem?_eq_getElem (by simp [rV]; omega)] at hc2
    have hfz := ho3.frozenAt (n - 2)
    have HOW := hid (World.ownsRow.alloc HST.1 (.cells #[.int .i64 0] 3))
    have hcell := cell_new1 (w3.setCell ⟨g, n - 2, none⟩ (.int .i64 4)) (.int .i64 0) 3 (0, 0)
    rw [show (w3.setCell ⟨g, n - 2, none⟩ (.int .i64 4)).heap.size = w3.heap.size by simp [World.setCell]] at hcell
    have HCE := hid hcell
    have hgb' : w.heap.size ≤ g := by simp at hgb; omega
    have HGB := hid hgb'
    have HFA := hid ((HF3.out.setCell (p := ⟨g, n - 2, none⟩) (.inr hgb') (.int .i64 4)).alloc (.cells #[.int .i64 0] 3))
    have HSZ := hid (show (w.alloc (.cells #[.int .i64 28, .int .i64 ln, .string s, .int .i64 vk, .int .i64 vn, .string vs, va, .slice la n lc] 75)).heap.size ≤ ((w3.setCell ⟨g, n - 2, none⟩ (.int .i64 4)).alloc (.cells #[.int .i64 0] 3)).heap.size by have := HS3.out; simp [World.setCell] at *; omega)
    clear ho3 hf3 hce hgb hgl HST hcell hgb'
    go_wp2_with (at_builtin; go_must (refine wpList_append1 rfl (.tmp 94) (.tmp 95) 64 rfl 3 (.int .i64 0) 8 Tryz.underlying64 Tryz.info_i rfl _ rfl _ (n - 1) ((rV (List.replicate (n - 1) 3)).set (n - 2) (.int .i64 4)) HOW.out w3.heap.size 1 (.int .i64 0) rfl HCE.out rfl (by have := HN.out; omega) (by decide) HSZ.out ?_))
    intro g5 cap5 w5 ho5 hf5 _
    have HO5 := hid (RolesAt.own' (L := (List.replicate (n - 1) 3).set (n - 2) 4 ++ [0]) ho5 (by simp) (by simp [rV, List.map_set]))
    have HF5 := hid (HFA.out.trans hf5 (U := fun _ => False) (fun _ _ h => h) (fun q hq e => by simp [Value.ownBlock] at e; have := HGB.out; omega))
    clear ho5 hf5
    go_wp2_with fail
    go_ret2
    exact ⟨_, rfl, HF5.out, fun _ => HO5.out⟩
  ·have d2 : decide (2 ≤ n) = false := decide_eq_false h2
   rw [d2]
   have g1 : ¬ (n : Int) > 1 := by omega
   have g2 : ¬ (n : Int) ≥ 2 := by omega
   have g3 : (n : Int) - 1 ≤ 0 := by omega
   have HD2 := hid (show decide ((2 : Int) ≤ n) = false from decide_eq_false (by omega))
   go_enter Tryz.func111, Tryz.ntmps111
   go_wp2_with fail
   all_goals
    refine (all_any' 3 _ 0 (by omega) (by omega) _).mono ?_
    rintro e w3 ⟨v3, rfl, ho3, hf3⟩
    have HF3 := hid (HF.out.trans' hf3)
    have HS3 := hid hf3.size
    have HOW := hid (World.ownsRow.alloc ho3 (.cells #[.int .i64 0] 3))
    have HCE := hid (cell_new1 w3 (.int .i64 0) 3 (0, 0))
    have HFA := hid (HF3.out.alloc (.cells #[.int .i64 0] 3))
    have HSZ := hid (show (w.alloc (.cells #[.int .i64 28, .int .i64 ln, .string s, .int .i64 vk, .int .i64 vn, .string vs, va, .slice la n lc] 75)).heap.size ≤ (w3.alloc (.cells #[.int .i64 0] 3)).heap.size by have := HS3.out; simp at *; omega)
    have HLT := hid (fun q (hq : Value.ownBlock _ = some q) => (ho3.lt q hq).1)
    obtain ⟨va3, vc3, rfl, -⟩ := own_len ho3
    clear ho3 hf3
    go_wp2_with (at_builtin; go_must (refine wpList_append1 rfl (.tmp 94) (.tmp 95) 64 rfl 3 (.int .i64 0) 8 Tryz.underlying64 Tryz.info_i rfl _ rfl _ 0 (rV (List.replicate 0 3)) HOW.out w3.heap.size 1 (.int .i64 0) rfl HCE.out rfl (by omega) (by decide) HSZ.out ?_))
    intro g5 cap5 w5 ho5 hf5 _
    have HF5 := hid (HFA.out.trans hf5 (U := fun _ => False) (fun _ _ h => h) (fun q hq e => by have := HLT.out q e.symm; simp at this; omega))
    clear ho5 hf5
    go_wp2_with fail
    go_ret2
    exact ⟨_, by rw [HD2.out]; rfl, HF5.out, fun h => by cases h⟩
def ifK (k : Nat) : List Int := (List.range k).map fun i => if i % 2 = 0 then 0 else 6
@[simp] theorem ifK_length (k : Nat) : (ifK k).length = k := by simp [ifK]
@[simp] theorem rV_length (l : List Int) : (rV l).length = l.length := by simp [rV]
def ifL (n : Nat) : List Int := if n % 2 = 0 then ifK n else (ifK n).set (n - 1) 6
set_option maxRecDepth 100000 in
set_option maxHeartbeats 6400000 in
theorem roles41_any (op ln vk vn : Int) (s vs : ByteArray) (va : Value) (la : Option Addr) (n lc : Nat) (hop : op = 41) (hn : n ≤ 1048576) (w : World) : Calls Tryz.prog 111 #[.agg #[.int .i64 op, .int .i64 ln, .string s, .int .i64 vk, .int .i64 vn, .string vs, va, .slice la n lc]] w (RolesPostC w (ifL n) (decide (2 ≤ n))) := by
 have hF := (Fr.refl (fun _ => False) w).alloc (.cells #[.int .i64 op, .int .i64 ln, .string s, .int .i64 vk, .int .i64 vn, .string vs, va, .slice la n lc] 75)
 have hnI : (n : Int) ≤ 1048576 := by omega
 have HF := hid hF; have HN := hid hn
 clear hF hn
 unfold RolesPostC
 rcases hop with rfl
 all_goals
  have hb : decide ((n : Int) ≥ 2) = decide (2 ≤ n) := by
   by_cases h : 2 ≤ n
   ·rw [decide_eq_true h, decide_eq_true (by omega)]
   ·rw [decide_eq_false h, decide_eq_false (by omega)]
  generalize decide (2 ≤ n) = b at *
  go_enter Tryz.func111, Tryz.ntmps111
  go_wp2_with fail
  go_loopw [7, 114] (fun v i wr => ∃ k : Nat, k ≤ n ∧ i = .int .i64 k ∧ wr.ownsRow w.heap.size 3 1 v k (rV (ifK k)) ∧ Fr (fun _ => False) w wr) (fun _ i _ => n - (intOf i).toNat)
  case atStart => exact ⟨0, Nat.zero_le _, rfl, World.ownsRow_nil _ _ _ _, HF.out⟩
  case round =>
   obtain ⟨k, hk, rfl, ho, hf⟩ := hrel
   by_cases hlt : k < n
   ·have hlt' : (k : Int) < n := by omega
    have HOW := fun r => hid (World.ownsRow.alloc (World.ownsRow.alloc ho (.cells #[.int .i64 0, .int .i64 6] 3)) (.cells #[.int .i64 r] 3))
    have HCE := fun r : Int => hid (show ((wr.alloc (.cells #[.int .i64 0, .int .i64 6] 3)).alloc (.cells #[.int .i64 r] 3)).cell? ⟨wr.heap.size + 1, 0, none⟩ = some (.int .i64 r) by
     simp)
    have HFA := fun r : Int => hid ((hf.alloc (.cells #[.int .i64 0, .int .i64 6] 3)).alloc (.cells #[.int .i64 r] 3))
    have HK := hid (show k + 1 ≤ 1099511627776 by have := HN.out; omega)
    have HLT := hid (fun q (hq : Value.ownBlock _ = some q) => (ho.lt q hq).1)
    obtain ⟨va1, vc1, rfl, -⟩ := own_len ho
    clear ho hf
    rcases Nat.mod_two_eq_zero_or_one k with hp | hp
    ·have hpI : (k : Int).tmod 2 = 0 := by rw [Int.tmod_eq_emod_of_nonneg (by omega)]; omega
     have HP := hid hp
     clear hp
     go_wp2_with (at_builtin; go_must (refine wpList_append1 rfl (.tmp 117) (.tmp 123) 64 rfl 3 (.int .i64 0) 8 Tryz.underlying64 Tryz.info_i rfl _ rfl w.heap.size k (rV (ifK k)) (HOW _).out (wr.heap.size + 1) 1 (.int .i64 0) rfl (HCE _).out rfl HK.out (by decide) (HFA 0).out.size ?_))
     intro g cap w3 ho3 hf3 _
     have HF3 := hid ((HFA 0).out.trans hf3 (U := fun _ => False) (fun _ _ h => h) (fun q hq e => by have := HLT.out q e.symm; omega))
     have HO3 := hid (show w3.ownsRow w.heap.size 3 1 (.slice (some ⟨g, 0, none⟩) (k + 1) cap) (k + 1) (rV (ifK (k + 1))) by
      have : rV (ifK (k + 1)) = rV (ifK k) ++ [.int .i64 0] := by simp [ifK, rV, List.range_succ, HP.out]
      rw [this]; exact ho3)
     clear ho3 hf3
     go_wp2_with fail
     go_roundw
     case rel => exact ⟨k + 1, by omega, by go_num, HO3.out, HF3.out⟩
     case measure => simp [intOf]; omega
    ·have hpI : (k : Int).tmod 2 = 1 := by rw [Int.tmod_eq_emod_of_nonneg (by omega)]; omega
     have HP := hid hp
     clear hp
     go_wp2_with (at_builtin; go_must (refine wpList_append1 rfl (.tmp 117) (.tmp 123) 64 rfl 3 (.int .i64 0) 8 Tryz.underlying64 Tryz.info_i rfl _ rfl w.heap.size k (rV (ifK k)) (HOW _).out (wr.heap.size + 1) 1 (.int .i64 6) rfl (HCE _).out rfl HK.out (by decide) (HFA 6).out.size ?_))
     intro g cap w3 ho3 hf3 _
     have HF3 := hid ((HFA 6).out.trans hf3 (U := fun _ => False) (fun _ _ h => h) (fun q hq e => by have := HLT.out q e.symm; omega))
     have HO3 := hid (show w3.ownsRow w.heap.size 3 1 (.slice (some ⟨g, 0, none⟩) (k + 1) cap) (k + 1) (rV (ifK (k + 1))) by
      have : rV (ifK (k + 1)) = rV (ifK k) ++ [.int .i64 6] := by simp [ifK, rV, List.range_succ, HP.out]
      rw [this]; exact ho3)
     clear ho3 hf3
     go_wp2_with fail
     go_roundw
     case rel => exact ⟨k + 1, by omega, by go_num, HO3.out, HF3.out⟩
     case measure => simp [intOf]; omega
   ·obtain rfl : k = n := by omega
    have HF2 := hid hf
    rcases Nat.mod_two_eq_zero_or_one k with hp | hp
    ·have hpI : (k : Int).tmod 2 = 0 := by rw [Int.tmod_eq_emod_of_nonneg (by omega)]; omega
     have HO := hid (RolesAt.own' (L := ifL k) ho (by simp [ifL, hp]) (by simp [ifL, hp]))
     obtain ⟨va1, vc1, rfl, -⟩ := own_len ho
     clear ho hf hp
     go_wp2_with fail
     go_ret2
     exact ⟨_, rfl, HF2.out, fun _ => HO.out⟩
    ·have hpI : (k : Int).tmod 2 = 1 := by rw [Int.tmod_eq_emod_of_nonneg (by omega)]; omega
     have hpos : (k : Int) > 0 := by omega
     rcases own_heap ho with ⟨-, h0, -⟩ | ⟨g, cap, rfl, hgb, hgl, hce⟩
     ·exfalso; omega
     have HST := ho.stored (k - 1) (.int .i64 6)
     have hc2 := hce (k - 1) (by omega)
     rw [List.getElem?_eq_getElem (by simp [rV]; omega)] at hc2
     have hfz := ho.frozenAt (k - 1)
     have HO := hid (RolesAt.own' (L := ifL k) HST.1 (by simp [ifL, hp]) (by simp [ifL, hp, rV, List.map_set]))
     have HF3 := hid (hf.setCell (p := ⟨g, k - 1, none⟩) (.inr hgb) (.int .i64 6))
     clear ho hf hce hgb hgl HST
     go_wp2_with fail
     go_ret2
     exact ⟨_, rfl, HF3.out, fun _ => HO.out⟩
end
section
open Go.RowKit
def printed (s : ByteArray) : Bool := s.data.toList.all fun c => decide (32 ≤ c.toNat) && decide (c.toNat ≤ 126)
theorem printed_true {s : ByteArray} (h : ∀ k, k < s.size → 32 ≤ (s.data.toList.getD k 0).toNat ∧ (s.data.toList.getD k 0).toNat ≤ 126) : printed s = true := by
 unfold printed
 rw [List.all_eq_true]
 intro c hc
 obtain ⟨k, hk, rfl⟩ := List.getElem_of_mem hc
 have := h k (by simpa using hk)
 simp only [List.getD, List.getElem?_eq_getElem hk, Option.getD_some] at this
 simp only [this, decide_true, Bool.and_self]
theorem printed_false {s : ByteArray} (k : Nat) (hk : k < s.size) (h : ¬ (32 ≤ (s.data.toList.getD k 0).toNat ∧ (s.data.toList.getD k 0).toNat ≤ 126)) : printed s = false := by
 unfold printed
 rw [List.all_eq_false]
 have hk' : k < s.data.toList.length := by simpa using hk
 refine ⟨_, List.getElem_mem hk', ?_⟩
 simp only [List.getD, List.getElem?_eq_getElem hk', Option.getD_some] at h
 simpa using h
theorem all_step {p : Nat → Prop} {k : Nat} (h : ∀ j, j < k → p j) (hk : p k) : ∀ j, j < k + 1 → p j := fun j hj => by
 rcases Nat.lt_succ_iff_lt_or_eq.1 hj with h1 | rfl
 ·exact h j h1
 ·exact hk
set_option maxHeartbeats 800000 in
theorem printed_any (s : ByteArray) (hs : s.size ≤ 1099511627776) (w : World) : Calls Tryz.prog 142 #[.string s] w fun e w' => e = .returned (.bool (printed s)) ∧ w = w' := by
 go_enter Tryz.func142, Tryz.ntmps142
 go_wp2
 go_loopw [3] (fun i wr => ∃ k : Nat, k ≤ s.size ∧ i = .int .i64 k ∧ w = wr ∧ ∀ j, j < k → 32 ≤ (s.data.toList.getD j 0).toNat ∧ (s.data.toList.getD j 0).toNat ≤ 126) (fun i _ => s.size - (intOf i).toNat)
 case atStart => exact ⟨0, Nat.zero_le _, rfl, rfl, fun j hj => by omega⟩
 case round =>
  obtain ⟨k, hk, rfl, rfl, hall⟩ := hrel
  by_cases hlt : k < s.size
  ·have hbk : (s.data.toList.getD k 0).toNat = s[k].toNat := by
    have : k < s.data.toList.length := by simpa using hlt
    simp [List.getD, hlt]; rfl
   go_wp2_with fail
   all_goals first
    | (go_ret; exact ⟨congrArg (fun b => Ending.returned (.bool b)) (printed_false k hlt (by omega)).symm, rfl⟩)
    | exact ⟨⟨k + 1, by omega, by go_num, trivial, all_step hall (by omega)⟩, by simp [intOf]; omega⟩
    | (go_roundw <;> first | exact ⟨k + 1, by omega, by go_num, rfl, all_step hall (by omega)⟩ | (simp [intOf]; omega))
  ·go_wp2
   go_ret
   exact ⟨congrArg (fun b => Ending.returned (.bool b)) (printed_true fun j hj => hall j (by omega)).symm, rfl⟩
end
end Go.Proofs.YtbegahbagnflnaaGreatDoor
