import Derived.Test.YtbegahbagnflnaaGreatDoorMn02
set_option linter.unusedSimpArgs false
set_option linter.unusedVariables false
set_option linter.unnecessarySimpa false
namespace Go.Proofs.YtbegahbagnflnaaGreatDoor
open Go.RowKit
def RolesAt (w : World) (v : Value) (L : List Int) : Prop := ∃ a c, v = .slice a L.length c ∧ L.length ≤ c ∧ c ≤ maxLen ∧ ∀ i r, L[i]? = some r → ∃ b o, a = some (⟨b, o, none⟩ : Addr) ∧ w.cell? ⟨b, o + i, none⟩ = some (.int .i64 r)
theorem RolesAt.nil (w : World) : RolesAt w (.slice none 0 0) [] := ⟨none, 0, rfl, Nat.le_refl _, Nat.zero_le _, fun i r h => by simp at h⟩
theorem RolesAt.own {w : World} {base : Nat} {v : Value} {L : List Int} (h : w.ownsRow base 3 1 v L.length (rV L)) : RolesAt w v L := by
 rcases h.2 with ⟨e, h0⟩ | ⟨g, cap, cur, e, hb, hg, h1, h2, h3, h4⟩
 ·have : L = [] := List.eq_nil_of_length_eq_zero h0
  subst this
  rw [e]
  exact RolesAt.nil w
 ·refine ⟨_, cap, e, h1, h2, fun i r hr => ⟨g, 0, rfl, ?_⟩⟩
  have hi := (List.getElem?_eq_some_iff.1 hr).1
  rw [cell_of_row w g (0 + i) cur _ _ hg, Nat.zero_add]
  have h5 : (rV L)[i]? = some (.int .i64 r) := by simp [rV, hr]
  rw [← h4, List.getElem?_take] at h5
  rw [if_pos (by omega)] at h5
  simpa using h5
theorem RolesAt.lit {w : World} {g : Nat} {L : List Int} (h : w.heap[g]? = some (.cells (rV L).toArray 3 (0, 0))) (hL : L.length ≤ 1000) : RolesAt w (.slice (some ⟨g, 0, none⟩) L.length L.length) L := by
 refine ⟨_, _, rfl, Nat.le_refl _, by simp [maxLen]; omega, fun i r hr => ⟨g, 0, rfl, ?_⟩⟩
 rw [cell_of_row w g (0 + i) _ _ _ h, Nat.zero_add]
 simp [rV, hr]
def RolesPost (w : World) (L : List Int) (full : Bool) (e : Ending) (w' : World) : Prop := ∃ v, e = .returned (.tuple #[v, .bool full]) ∧ Fr (fun _ => False) w w' ∧ RolesAt w' v L
set_option maxRecDepth 100000 in
set_option maxHeartbeats 6400000 in
theorem roles0_any (op ln vk vn : Int) (s vs : ByteArray) (va : Value) (la : Option Addr) (n lc : Nat) (hop : op = 1 ∨ op = 2 ∨ op = 45 ∨ op = 46) (hn : n ≤ 1048576) (w : World) : Calls Tryz.prog 111 #[.agg #[.int .i64 op, .int .i64 ln, .string s, .int .i64 vk, .int .i64 vn, .string vs, va, .slice la n lc]] w (RolesPost w [] (decide (n = 0))) := by
 have hF := (Fr.refl (fun _ => False) w).alloc (.cells #[.int .i64 op, .int .i64 ln, .string s, .int .i64 vk, .int .i64 vn, .string vs, va, .slice la n lc] 75)
 have hnI : (n : Int) ≤ 1048576 := by omega
 have HF := hid hF; have HN := hid hn
 clear hF hn
 unfold RolesPost
 rcases hop with rfl | rfl | rfl | rfl
 all_goals
  by_cases h0 : n = 0
  ·subst h0
   go_enter Tryz.func111, Tryz.ntmps111
   go_wp2_with fail
   go_ret2
   exact ⟨_, rfl, HF.out, RolesAt.nil _⟩
  ·have q0 : ((n : Int) == 0) = false := by rw [beq_eq_false_iff_ne]; omega
   have HD := hid (show decide (n = 0) = false from decide_eq_false h0)
   clear h0
   go_enter Tryz.func111, Tryz.ntmps111
   go_wp2_with fail
   go_ret2
   exact ⟨_, by rw [HD.out]; rfl, HF.out, RolesAt.nil _⟩
set_option maxRecDepth 100000 in
set_option maxHeartbeats 6400000 in
theorem roles1_any (op ln vk vn : Int) (s vs : ByteArray) (va : Value) (la : Option Addr) (n lc : Nat) (hop : op = 3 ∨ op = 4 ∨ op = 26 ∨ op = 40) (hn : n ≤ 1048576) (w : World) : Calls Tryz.prog 111 #[.agg #[.int .i64 op, .int .i64 ln, .string s, .int .i64 vk, .int .i64 vn, .string vs, va, .slice la n lc]] w (RolesPost w (List.replicate 1 0) (decide (n = 1))) := by
 have hF := (Fr.refl (fun _ => False) w).alloc (.cells #[.int .i64 op, .int .i64 ln, .string s, .int .i64 vk, .int .i64 vn, .string vs, va, .slice la n lc] 75)
 have hnI : (n : Int) ≤ 1048576 := by omega
 have HF := hid hF; have HN := hid hn
 clear hF hn
 unfold RolesPost
 rcases hop with rfl | rfl | rfl | rfl
 all_goals
  have hb : ((n : Int) == 1) = decide (n = 1) := by
   by_cases h : n = 1
   ·rw [h]; rfl
   ·rw [decide_eq_false h, beq_eq_false_iff_ne]; omega
  generalize decide (n = 1) = b at *
  go_enter Tryz.func111, Tryz.ntmps111
  go_wp2_with fail
  refine (all_any 0 1 (by decide) _).mono ?_
  rintro e w2 ⟨v, rfl, ho, hf2⟩
  obtain ⟨a9, c9, rfl, -⟩ := own_len ho
  have HF2 := hid (HF.out.trans' hf2); have HO := hid (RolesAt.own (L := List.replicate 1 0) ho)
  clear ho hf2
  go_wp2_with fail
  go_ret2
  exact ⟨_, rfl, HF2.out, HO.out⟩
set_option maxRecDepth 100000 in
set_option maxHeartbeats 6400000 in
theorem roles2_any (op ln vk vn : Int) (s vs : ByteArray) (va : Value) (la : Option Addr) (n lc : Nat) (hop : op = 5 ∨ op = 6 ∨ op = 7 ∨ op = 8 ∨ op = 9 ∨ op = 10 ∨ op = 11 ∨ op = 12 ∨ op = 13 ∨ op = 14 ∨ op = 15 ∨ op = 16 ∨ op = 17 ∨ op = 18 ∨ op = 20 ∨ op = 22) (hn : n ≤ 1048576) (w : World) : Calls Tryz.prog 111 #[.agg #[.int .i64 op, .int .i64 ln, .string s, .int .i64 vk, .int .i64 vn, .string vs, va, .slice la n lc]] w (RolesPost w (List.replicate 2 0) (decide (n = 2))) := by
 have hF := (Fr.refl (fun _ => False) w).alloc (.cells #[.int .i64 op, .int .i64 ln, .string s, .int .i64 vk, .int .i64 vn, .string vs, va, .slice la n lc] 75)
 have hnI : (n : Int) ≤ 1048576 := by omega
 have HF := hid hF; have HN := hid hn
 clear hF hn
 unfold RolesPost
 rcases hop with rfl | rfl | rfl | rfl | rfl | rfl | rfl | rfl | rfl | rfl | rfl | rfl | rfl | rfl | rfl | rfl
 all_goals
  have hb : ((n : Int) == 2) = decide (n = 2) := by
   by_cases h : n = 2
   ·rw [h]; rfl
   ·rw [decide_eq_false h, beq_eq_false_iff_ne]; omega
  generalize decide (n = 2) = b at *
  go_enter Tryz.func111, Tryz.ntmps111
  go_wp2_with fail
  refine (all_any 0 2 (by decide) _).mono ?_
  rintro e w2 ⟨v, rfl, ho, hf2⟩
  obtain ⟨a9, c9, rfl, -⟩ := own_len ho
  have HF2 := hid (HF.out.trans' hf2); have HO := hid (RolesAt.own (L := List.replicate 2 0) ho)
  clear ho hf2
  go_wp2_with fail
  go_ret2
  exact ⟨_, rfl, HF2.out, HO.out⟩
set_option maxRecDepth 100000 in
set_option maxHeartbeats 6400000 in
theorem roles3_any (op ln vk vn : Int) (s vs : ByteArray) (va : Value) (la : Option Addr) (n lc : Nat) (hop : op = 19 ∨ op = 21) (hn : n ≤ 1048576) (w : World) : Calls Tryz.prog 111 #[.agg #[.int .i64 op, .int .i64 ln, .string s, .int .i64 vk, .int .i64 vn, .string vs, va, .slice la n lc]] w (RolesPost w (List.replicate 3 0) (decide (n = 3))) := by
 have hF := (Fr.refl (fun _ => False) w).alloc (.cells #[.int .i64 op, .int .i64 ln, .string s, .int .i64 vk, .int .i64 vn, .string vs, va, .slice la n lc] 75)
 have hnI : (n : Int) ≤ 1048576 := by omega
 have HF := hid hF; have HN := hid hn
 clear hF hn
 unfold RolesPost
 rcases hop with rfl | rfl
 all_goals
  have hb : ((n : Int) == 3) = decide (n = 3) := by
   by_cases h : n = 3
   ·rw [h]; rfl
   ·rw [decide_eq_false h, beq_eq_false_iff_ne]; omega
  generalize decide (n = 3) = b at *
  go_enter Tryz.func111, Tryz.ntmps111
  go_wp2_with fail
  refine (all_any 0 3 (by decide) _).mono ?_
  rintro e w2 ⟨v, rfl, ho, hf2⟩
  obtain ⟨a9, c9, rfl, -⟩ := own_len ho
  have HF2 := hid (HF.out.trans' hf2); have HO := hid (RolesAt.own (L := List.replicate 3 0) ho)
  clear ho hf2
  go_wp2_with fail
  go_ret2
  exact ⟨_, rfl, HF2.out, HO.out⟩
set_option maxRecDepth 100000 in
set_option maxHeartbeats 6400000 in
theorem roles27_any (op ln vk vn : Int) (s vs : ByteArray) (va : Value) (la : Option Addr) (n lc : Nat) (hop : op = 27) (hn : n ≤ 1048576) (w : World) : Calls Tryz.prog 111 #[.agg #[.int .i64 op, .int .i64 ln, .string s, .int .i64 vk, .int .i64 vn, .string vs, va, .slice la n lc]] w (RolesPost w [2, 0] (decide (n = 2))) := by
 have hF := (Fr.refl (fun _ => False) w).alloc (.cells #[.int .i64 op, .int .i64 ln, .string s, .int .i64 vk, .int .i64 vn, .string vs, va, .slice la n lc] 75)
 have hnI : (n : Int) ≤ 1048576 := by omega
 have HF := hid hF; have HN := hid hn
 clear hF hn
 unfold RolesPost
 have HRW := hid (show ∀ o : Int, ((w.alloc (.cells #[.int .i64 o, .int .i64 ln, .string s, .int .i64 vk, .int .i64 vn, .string vs, va, .slice la n lc] 75)).alloc (.cells #[.int .i64 2, .int .i64 0] 3)).heap[w.heap.size + 1]? = some (.cells #[.int .i64 2, .int .i64 0] 3) from fun o => by
  have h := heap_alloc_new (w.alloc (.cells #[.int .i64 o, .int .i64 ln, .string s, .int .i64 vk, .int .i64 vn, .string vs, va, .slice la n lc] 75)) (.cells #[.int .i64 2, .int .i64 0] 3)
  rw [show (w.alloc (.cells #[.int .i64 o, .int .i64 ln, .string s, .int .i64 vk, .int .i64 vn, .string vs, va, .slice la n lc] 75)).heap.size = w.heap.size + 1 by simp] at h
  exact h)
 rcases hop with rfl
 all_goals
  have hb : ((n : Int) == 2) = decide (n = 2) := by
   by_cases h : n = 2
   ·rw [h]; rfl
   ·rw [decide_eq_false h, beq_eq_false_iff_ne]; omega
  generalize decide (n = 2) = b at *
  have HF2 := hid (HF.out.alloc (.cells #[.int .i64 2, .int .i64 0] 3))
  go_enter Tryz.func111, Tryz.ntmps111
  go_wp2_with fail
  go_ret2
  exact ⟨_, rfl, HF2.out, RolesAt.lit (L := [2, 0]) (HRW.out _) (by decide)⟩
set_option maxRecDepth 100000 in
set_option maxHeartbeats 6400000 in
theorem roles42_any (op ln vk vn : Int) (s vs : ByteArray) (va : Value) (la : Option Addr) (n lc : Nat) (hop : op = 42 ∨ op = 44 ∨ op = 48) (hn : n ≤ 1048576) (w : World) : Calls Tryz.prog 111 #[.agg #[.int .i64 op, .int .i64 ln, .string s, .int .i64 vk, .int .i64 vn, .string vs, va, .slice la n lc]] w (RolesPost w [0, 6] (decide (n = 2))) := by
 have hF := (Fr.refl (fun _ => False) w).alloc (.cells #[.int .i64 op, .int .i64 ln, .string s, .int .i64 vk, .int .i64 vn, .string vs, va, .slice la n lc] 75)
 have hnI : (n : Int) ≤ 1048576 := by omega
 have HF := hid hF; have HN := hid hn
 clear hF hn
 unfold RolesPost
 have HRW := hid (show ∀ o : Int, ((w.alloc (.cells #[.int .i64 o, .int .i64 ln, .string s, .int .i64 vk, .int .i64 vn, .string vs, va, .slice la n lc] 75)).alloc (.cells #[.int .i64 0, .int .i64 6] 3)).heap[w.heap.size + 1]? = some (.cells #[.int .i64 0, .int .i64 6] 3) from fun o => by
  have h := heap_alloc_new (w.alloc (.cells #[.int .i64 o, .int .i64 ln, .string s, .int .i64 vk, .int .i64 vn, .string vs, va, .slice la n lc] 75)) (.cells #[.int .i64 0, .int .i64 6] 3)
  rw [show (w.alloc (.cells #[.int .i64 o, .int .i64 ln, .string s, .int .i64 vk, .int .i64 vn, .string vs, va, .slice la n lc] 75)).heap.size = w.heap.size + 1 by simp] at h
  exact h)
 rcases hop with rfl | rfl | rfl
 all_goals
  have hb : ((n : Int) == 2) = decide (n = 2) := by
   by_cases h : n = 2
   ·rw [h]; rfl
   ·rw [decide_eq_false h, beq_eq_false_iff_ne]; omega
  generalize decide (n = 2) = b at *
  have HF2 := hid (HF.out.alloc (.cells #[.int .i64 0, .int .i64 6] 3))
  go_enter Tryz.func111, Tryz.ntmps111
  go_wp2_with fail
  go_ret2
  exact ⟨_, rfl, HF2.out, RolesAt.lit (L := [0, 6]) (HRW.out _) (by decide)⟩
set_option maxRecDepth 100000 in
set_option maxHeartbeats 6400000 in
theorem roles43_any (op ln vk vn : Int) (s vs : ByteArray) (va : Value) (la : Option Addr) (n lc : Nat) (hop : op = 43) (hn : n ≤ 1048576) (w : World) : Calls Tryz.prog 111 #[.agg #[.int .i64 op, .int .i64 ln, .string s, .int .i64 vk, .int .i64 vn, .string vs, va, .slice la n lc]] w (RolesPost w [0, 0, 6] (decide (n = 3))) := by
 have hF := (Fr.refl (fun _ => False) w).alloc (.cells #[.int .i64 op, .int .i64 ln, .string s, .int .i64 vk, .int .i64 vn, .string vs, va, .slice la n lc] 75)
 have hnI : (n : Int) ≤ 1048576 := by omega
 have HF := hid hF; have HN := hid hn
 clear hF hn
 unfold RolesPost
 have HRW := hid (show ∀ o : Int, ((w.alloc (.cells #[.int .i64 o, .int .i64 ln, .string s, .int .i64 vk, .int .i64 vn, .string vs, va, .slice la n lc] 75)).alloc (.cells #[.int .i64 0, .int .i64 0, .int .i64 6] 3)).heap[w.heap.size + 1]? = some (.cells #[.int .i64 0, .int .i64 0, .int .i64 6] 3) from fun o => by
  have h := heap_alloc_new (w.alloc (.cells #[.int .i64 o, .int .i64 ln, .string s, .int .i64 vk, .int .i64 vn, .string vs, va, .slice la n lc] 75)) (.cells #[.int .i64 0, .int .i64 0, .int .i64 6] 3)
  rw [show (w.alloc (.cells #[.int .i64 o, .int .i64 ln, .string s, .int .i64 vk, .int .i64 vn, .string vs, va, .slice la n lc] 75)).heap.size = w.heap.size + 1 by simp] at h
  exact h)
 rcases hop with rfl
 all_goals
  have hb : ((n : Int) == 3) = decide (n = 3) := by
   by_cases h : n = 3
   ·rw [h]; rfl
   ·rw [decide_eq_false h, beq_eq_false_iff_ne]; omega
  generalize decide (n = 3) = b at *
  have HF2 := hid (HF.out.alloc (.cells #[.int .i64 0, .int .i64 0, .int .i64 6] 3))
  go_enter Tryz.func111, Tryz.ntmps111
  go_wp2_with fail
  go_ret2
  exact ⟨_, rfl, HF2.out, RolesAt.lit (L := [0, 0, 6]) (HRW.out _) (by decide)⟩
set_option maxRecDepth 100000 in
set_option maxHeartbeats 6400000 in
theorem roles50_any (op ln vk vn : Int) (s vs : ByteArray) (va : Value) (la : Option Addr) (n lc : Nat) (hop : op = 50) (hn : n ≤ 1048576) (w : World) : Calls Tryz.prog 111 #[.agg #[.int .i64 op, .int .i64 ln, .string s, .int .i64 vk, .int .i64 vn, .string vs, va, .slice la n lc]] w (RolesPost w [5, 6] (decide (n = 2))) := by
 have hF := (Fr.refl (fun _ => False) w).alloc (.cells #[.int .i64 op, .int .i64 ln, .string s, .int .i64 vk, .int .i64 vn, .string vs, va, .slice la n lc] 75)
 have hnI : (n : Int) ≤ 1048576 := by omega
 have HF := hid hF; have HN := hid hn
 clear hF hn
 unfold RolesPost
 have HRW := hid (show ∀ o : Int, ((w.alloc (.cells #[.int .i64 o, .int .i64 ln, .string s, .int .i64 vk, .int .i64 vn, .string vs, va, .slice la n lc] 75)).alloc (.cells #[.int .i64 5, .int .i64 6] 3)).heap[w.heap.size + 1]? = some (.cells #[.int .i64 5, .int .i64 6] 3) from fun o => by
  have h := heap_alloc_new (w.alloc (.cells #[.int .i64 o, .int .i64 ln, .string s, .int .i64 vk, .int .i64 vn, .string vs, va, .slice la n lc] 75)) (.cells #[.int .i64 5, .int .i64 6] 3)
  rw [show (w.alloc (.cells #[.int .i64 o, .int .i64 ln, .string s, .int .i64 vk, .int .i64 vn, .string vs, va, .slice la n lc] 75)).heap.size = w.heap.size + 1 by simp] at h
  exact h)
 rcases hop with rfl
 all_goals
  have hb : ((n : Int) == 2) = decide (n = 2) := by
   by_cases h : n = 2
   ·rw [h]; rfl
   ·rw [decide_eq_false h, beq_eq_false_iff_ne]; omega
  generalize decide (n = 2) = b at *
  have HF2 := hid (HF.out.alloc (.cells #[.int .i64 5, .int .i64 6] 3))
  go_enter Tryz.func111, Tryz.ntmps111
  go_wp2_with fail
  go_ret2
  exact ⟨_, rfl, HF2.out, RolesAt.lit (L := [5, 6]) (HRW.out _) (by decide)⟩
set_option maxRecDepth 100000 in
set_option maxHeartbeats 6400000 in
theorem roles51_any (op ln vk vn : Int) (s vs : ByteArray) (va : Value) (la : Option Addr) (n lc : Nat) (hop : op = 51) (hn : n ≤ 1048576) (w : World) : Calls Tryz.prog 111 #[.agg #[.int .i64 op, .int .i64 ln, .string s, .int .i64 vk, .int .i64 vn, .string vs, va, .slice la n lc]] w (RolesPost w [6, 6] (decide (n = 2))) := by
 have hF := (Fr.refl (fun _ => False) w).alloc (.cells #[.int .i64 op, .int .i64 ln, .string s, .int .i64 vk, .int .i64 vn, .string vs, va, .slice la n lc] 75)
 have hnI : (n : Int) ≤ 1048576 := by omega
 have HF := hid hF; have HN := hid hn
 clear hF hn
 unfold RolesPost
 have HRW := hid (show ∀ o : Int, ((w.alloc (.cells #[.int .i64 o, .int .i64 ln, .string s, .int .i64 vk, .int .i64 vn, .string vs, va, .slice la n lc] 75)).alloc (.cells #[.int .i64 6, .int .i64 6] 3)).heap[w.heap.size + 1]? = some (.cells #[.int .i64 6, .int .i64 6] 3) from fun o => by
  have h := heap_alloc_new (w.alloc (.cells #[.int .i64 o, .int .i64 ln, .string s, .int .i64 vk, .int .i64 vn, .string vs, va, .slice la n lc] 75)) (.cells #[.int .i64 6, .int .i64 6] 3)
  rw [show (w.alloc (.cells #[.int .i64 o, .int .i64 ln, .string s, .int .i64 vk, .int .i64 vn, .string vs, va, .slice la n lc] 75)).heap.size = w.heap.size + 1 by simp] at h
  exact h)
 rcases hop with rfl
 all_goals
  have hb : ((n : Int) == 2) = decide (n = 2) := by
   by_cases h : n = 2
   ·rw [h]; rfl
   ·rw [decide_eq_false h, beq_eq_false_iff_ne]; omega
  generalize decide (n = 2) = b at *
  have HF2 := hid (HF.out.alloc (.cells #[.int .i64 6, .int .i64 6] 3))
  go_enter Tryz.func111, Tryz.ntmps111
  go_wp2_with fail
  go_ret2
  exact ⟨_, rfl, HF2.out, RolesAt.lit (L := [6, 6]) (HRW.out _) (by decide)⟩
end Go.Proofs.YtbegahbagnflnaaGreatDoor
