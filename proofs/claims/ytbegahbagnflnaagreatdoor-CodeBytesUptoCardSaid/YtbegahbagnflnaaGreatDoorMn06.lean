import Derived.Test.YtbegahbagnflnaaGreatDoorMn05
import Derived.Test.YtbegahbagnflnaaGreatDoorMn04
import Derived.Deep.CutRange
import Derived.Test.YtbegahbagnflnaaGreatDoorMn01
import Derived.LaidEql
set_option linter.unusedSimpArgs false
set_option linter.unusedVariables false
set_option linter.unnecessarySimpa false
namespace Go.Proofs.YtbegahbagnflnaaGreatDoor
section
open Go.RowKit
structure Errs (w : World) (eD eM eR eS : Value) : Prop where
 d : w.cell? ⟨3, 0, none⟩ = some eD
 m : w.cell? ⟨2, 0, none⟩ = some eM
 r : w.cell? ⟨6, 0, none⟩ = some eR
 s : w.cell? ⟨0, 0, none⟩ = some eS
theorem Errs.frame {w w' : World} {eD eM eR eS : Value} (h : Errs w eD eM eR eS) {S : Nat → Prop} (hf : Fr S w w') (hS : ∀ k, k < 7 → ¬ S k) : Errs w' eD eM eR eS :=
 ⟨hf.cell h.d (hS 3 (by decide)), hf.cell h.m (hS 2 (by decide)), hf.cell h.r (hS 6 (by decide)), hf.cell h.s (hS 0 (by decide))⟩
def ev (eD eM eR eS : Value) (n : Int) : Value := if n = 0 then .nilIface else if n = 112 then eD else if n = 104 then eM else if n = 105 then eR else eS
def ownShape (k n : Int) (s : ByteArray) (e : Bool) : Bool := (k != 2 && s.size != 0) || (k != 4 && !e) || ((k == 2 || k == 4) && n != 0)
def ownCode (k n : Int) (s : ByteArray) (e : Bool) : Int := if oddRange k n then 105 else if ownShape k n s e then 103 else if printed s then 0 else 103
set_option maxHeartbeats 3200000 in
theorem vown_any (x : V) (D : Nat → Prop) (w : World) (u : Array Value) (h : VIn D w x u) (hsm : x.s.size ≤ 1099511627776) (eD eM eR eS : Value) (he : Errs w eD eM eR eS) :
  Calls Tryz.prog 149 #[.agg u] w fun e w' => e = .returned (ev eD eM eR eS (ownCode x.k x.n x.s x.l.isEmpty)) ∧ Fr (fun _ => False) w w' := by
 obtain ⟨v, rfl, a, cap, us, rfl, hc, hm, hn, hb, hi⟩ := h.open
 have hlm : x.l.length ≤ 9223372036854775807 := Nat.le_trans hc hm
 clear h hb hi hn
 generalize x.k = kk at *
 generalize x.n = nn at *
 generalize x.s = ss at *
 generalize x.l = l at *
 obtain ⟨r, hr⟩ : ∃ r, r = ownCode kk nn ss l.isEmpty := ⟨_, rfl⟩
 rw [← hr]
 have hF : Fr (fun _ => False) w (w.alloc (.cells #[.int .i64 kk, .int .i64 nn, .string ss, .slice a l.length cap] 44)) := (Fr.refl _ _).alloc _
 have hbx : (w.alloc (.cells #[.int .i64 kk, .int .i64 nn, .string ss, .slice a l.length cap] 44)).heap[w.heap.size]? = some (.cells #[.int .i64 kk, .int .i64 nn, .string ss, .slice a l.length cap] 44) := heap_alloc_new w _
 have g2 := hF.cell he.r not_false
 have g3 := hF.cell he.s not_false
 have d0 : (w.alloc (.cells #[.int .i64 kk, .int .i64 nn, .string ss, .slice a l.length cap] 44)).cell? ⟨w.heap.size, 0, none⟩ = some (.int .i64 kk) := by rw [cell_of_row _ _ 0 _ _ _ hbx]; rfl
 have d1 : (w.alloc (.cells #[.int .i64 kk, .int .i64 nn, .string ss, .slice a l.length cap] 44)).cell? ⟨w.heap.size, 1, none⟩ = some (.int .i64 nn) := by rw [cell_of_row _ _ 1 _ _ _ hbx]; rfl
 have d2 : (w.alloc (.cells #[.int .i64 kk, .int .i64 nn, .string ss, .slice a l.length cap] 44)).cell? ⟨w.heap.size, 2, none⟩ = some (.string ss) := by rw [cell_of_row _ _ 2 _ _ _ hbx]; rfl
 have d3 : (w.alloc (.cells #[.int .i64 kk, .int .i64 nn, .string ss, .slice a l.length cap] 44)).cell? ⟨w.heap.size, 3, none⟩ = some (.slice a l.length cap) := by rw [cell_of_row _ _ 3 _ _ _ hbx]; rfl
 have HF := hid hF; have HR := hid hr
 clear hF hbx hr he
 by_cases er : oddRange kk nn = true
 ·have hr : r = 105 := by rw [HR.out, ownCode, if_pos er]
  have hk : kk < 0 ∨ 4 < kk ∨ (kk = 1 ∧ nn < -2147483648) ∨ (kk = 1 ∧ 2147483647 < nn) ∨ (kk = 3 ∧ nn < 0) ∨ (kk = 3 ∧ 14 < nn) := by
   simp [oddRange] at er
   omega
  clear er HR
  subst hr
  rcases hk with h | h | ⟨rfl, h⟩ | ⟨rfl, h⟩ | ⟨rfl, h⟩ | ⟨rfl, h⟩
  all_goals (go_enter Tryz.func149, Tryz.ntmps149; go_wp2; go_ret; exact ⟨rfl, HF.out⟩)
 have hk0 : 0 ≤ kk ∧ kk ≤ 4 ∧ (kk = 1 → -2147483648 ≤ nn ∧ nn ≤ 2147483647) ∧ (kk = 3 → 0 ≤ nn ∧ nn ≤ 14) := by
  simp [oddRange] at er
  omega
 obtain ⟨k0, k4, k1, k3⟩ := hk0
 have hr : r = if ownShape kk nn ss l.isEmpty then 103 else if printed ss then 0 else 103 := by rw [HR.out, ownCode, if_neg er]
 have HR' := hid hr
 clear er HR hr
 go_enter Tryz.func149, Tryz.ntmps149
 go_upto_region 3 with fail
 generalize w.alloc (.cells #[.int .i64 kk, .int .i64 nn, .string ss, .slice a l.length cap] 44) = wc0 at *
 go_cut [13] from 14 to 26 (fun c wx => c = .bool false ∧ wx = wc0)
 case first =>
  by_cases h1 : kk = 1
  ·obtain ⟨k1a, k1b⟩ := k1 h1
   subst h1
   go_wp2_with fail
   go_meet
   exact ⟨by simp; omega, rfl⟩
  ·have q1 : (kk == 1) = false := by simpa using h1
   go_wp2_with fail
   go_meet
   exact ⟨rfl, rfl⟩
 case rest =>
 obtain ⟨rfl, rfl⟩ := hcut
 go_upto_region 5 with fail
 go_cut [28] from 29 to 41 (fun c wx => c = .bool false ∧ wx = wc)
 case first =>
  by_cases h1 : kk = 3
  ·obtain ⟨k1a, k1b⟩ := k3 h1
   subst h1
   go_wp2_with fail
   go_meet
   exact ⟨by simp; omega, rfl⟩
  ·have q1 : (kk == 3) = false := by simpa using h1
   go_wp2_with fail
   go_meet
   exact ⟨rfl, rfl⟩
 case rest =>
 obtain ⟨rfl, rfl⟩ := hcut
 go_upto_region 7 with fail
 go_cut [43] from 44 to 77 (fun c wx => c = .bool (ownShape kk nn ss l.isEmpty) ∧ wx = wc)
 case first =>
  refine wp_region_cls0 (fun w' => w' = wc) rfl ?_
  (refine q_take (.pointer (some ⟨w.heap.size, 0, none⟩)) (by rfl) ?_ ?_; (· intro w' hS; cases hS; (go_simp; try rfl)); (try simp only [Act.put, List.setIfInBounds_toArray, List.set_cons_zero, List.set_cons_succ]))
  (refine q_take (.int .i64 kk) (by rfl) ?_ ?_; (· intro w' hS; cases hS; (go_simp; try rfl)); (try simp only [Act.put, List.setIfInBounds_toArray, List.set_cons_zero, List.set_cons_succ]))
  (refine q_take (.bool (kk != 2)) (by rfl) ?_ ?_; (· intro w' hS; cases hS; (go_simp; try rfl)); (try simp only [Act.put, List.setIfInBounds_toArray, List.set_cons_zero, List.set_cons_succ]))
  generalize hc2 : (kk != 2) = c2
  (refine q_take (.bool c2) (by rfl) ?_ ?_; (· intro w' hS; cases hS; (go_simp; try rfl)); (try simp only [Act.put, List.setIfInBounds_toArray, List.set_cons_zero, List.set_cons_succ]))
  (refine q_sym (c2) (.pointer (some ⟨w.heap.size, 2, none⟩)) (by cases c2 <;> rfl) ?_ ?_; (· intro hc w' hS; cases hS; revert hc; cases c2 <;> intro hc <;> first | (cases hc; done) | (go_simp; try rfl)); (try simp only [Act.put, List.setIfInBounds_toArray, List.set_cons_zero, List.set_cons_succ]))
  (refine q_sym (c2) (.string ss) (by cases c2 <;> rfl) ?_ ?_; (· intro hc w' hS; cases hS; revert hc; cases c2 <;> intro hc <;> first | (cases hc; done) | (go_simp; try rfl)); (try simp only [Act.put, List.setIfInBounds_toArray, List.set_cons_zero, List.set_cons_succ]))
  (refine q_sym (c2) (.bool (!ss.toList.isEmpty)) (by cases c2 <;> rfl) ?_ ?_; (· intro hc w' hS; cases hS; revert hc; cases c2 <;> intro hc <;> first | (cases hc; done) | (go_simp; try rfl)); (try simp only [Act.put, List.setIfInBounds_toArray, List.set_cons_zero, List.set_cons_succ]))
  generalize hs0 : (!ss.toList.isEmpty) = s0
  (refine q_take (.bool (c2 && s0)) (by rfl) ?_ ?_; (· intro w' hS; cases hS; cases c2 <;> cases s0 <;> (go_simp; try rfl)); (try simp only [Act.put, List.setIfInBounds_toArray, List.set_cons_zero, List.set_cons_succ]))
  generalize hA : (c2 && s0) = A
  (refine q_take (.bool A) (by rfl) ?_ ?_; (· intro w' hS; cases hS; (go_simp; try rfl)); (try simp only [Act.put, List.setIfInBounds_toArray, List.set_cons_zero, List.set_cons_succ]))
  (refine q_sym (!A) (.pointer (some ⟨w.heap.size, 0, none⟩)) (by cases A <;> rfl) ?_ ?_; (· intro hc w' hS; cases hS; revert hc; cases A <;> intro hc <;> first | (cases hc; done) | (go_simp; try rfl)); (try simp only [Act.put, List.setIfInBounds_toArray, List.set_cons_zero, List.set_cons_succ]))
  (refine q_sym (!A) (.int .i64 kk) (by cases A <;> rfl) ?_ ?_; (· intro hc w' hS; cases hS; revert hc; cases A <;> intro hc <;> first | (cases hc; done) | (go_simp; try rfl)); (try simp only [Act.put, List.setIfInBounds_toArray, List.set_cons_zero, List.set_cons_succ]))
  (refine q_sym (!A) (.bool (kk != 4)) (by cases A <;> rfl) ?_ ?_; (· intro hc w' hS; cases hS; revert hc; cases A <;> intro hc <;> first | (cases hc; done) | (go_simp; try rfl)); (try simp only [Act.put, List.setIfInBounds_toArray, List.set_cons_zero, List.set_cons_succ]))
  generalize hc4 : (kk != 4) = c4
  (refine q_sym (!A) (.bool c4) (by cases A <;> rfl) ?_ ?_; (· intro hc w' hS; cases hS; revert hc; cases A <;> intro hc <;> first | (cases hc; done) | (go_simp; try rfl)); (try simp only [Act.put, List.setIfInBounds_toArray, List.set_cons_zero, List.set_cons_succ]))
  (refine q_sym (!A && c4) (.pointer (some ⟨w.heap.size, 3, none⟩)) (by cases A <;> cases c4 <;> rfl) ?_ ?_; (· intro hc w' hS; cases hS; revert hc; cases A <;> cases c4 <;> intro hc <;> first | (cases hc; done) | (go_simp; try rfl)); (try simp only [Act.put, List.setIfInBounds_toArray, List.set_cons_zero, List.set_cons_succ]))
  (refine q_sym (!A && c4) (.slice a l.length cap) (by cases A <;> cases c4 <;> rfl) ?_ ?_; (· intro hc w' hS; cases hS; revert hc; cases A <;> cases c4 <;> intro hc <;> first | (cases hc; done) | (go_simp; try rfl)); (try simp only [Act.put, List.setIfInBounds_toArray, List.set_cons_zero, List.set_cons_succ]))
  (refine q_sym (!A && c4) (.int .i64 l.length) (by cases A <;> cases c4 <;> rfl) ?_ ?_; (· intro hc w' hS; cases hS; revert hc; cases A <;> cases c4 <;> intro hc <;> first | (cases hc; done) | (go_simp; try rfl)); (try simp only [Act.put, List.setIfInBounds_toArray, List.set_cons_zero, List.set_cons_succ]))
  (refine q_sym (!A && c4) (.bool (decide ((0 : Int) < l.length))) (by cases A <;> cases c4 <;> rfl) ?_ ?_; (· intro hc w' hS; cases hS; revert hc; cases A <;> cases c4 <;> intro hc <;> first | (cases hc; done) | (go_simp; try rfl)); (try simp only [Act.put, List.setIfInBounds_toArray, List.set_cons_zero, List.set_cons_succ]))
  generalize hl0 : decide ((0 : Int) < l.length) = l0
  (refine q_sym (!A) (.bool (c4 && l0)) (by cases A <;> cases c4 <;> cases l0 <;> rfl) ?_ ?_; (· intro hc w' hS; cases hS; revert hc; cases A <;> cases c4 <;> cases l0 <;> intro hc <;> first | (cases hc; done) | (go_simp; try rfl)); (try simp only [Act.put, List.setIfInBounds_toArray, List.set_cons_zero, List.set_cons_succ]))
  (refine q_take (.bool (A || (c4 && l0))) (by rfl) ?_ ?_; (· intro w' hS; cases hS; cases A <;> cases c4 <;> cases l0 <;> (go_simp; try rfl)); (try simp only [Act.put, List.setIfInBounds_toArray, List.set_cons_zero, List.set_cons_succ]))
  generalize hB : (A || (c4 && l0)) = Bv
  (refine q_take (.bool Bv) (by rfl) ?_ ?_; (· intro w' hS; cases hS; (go_simp; try rfl)); (try simp only [Act.put, List.setIfInBounds_toArray, List.set_cons_zero, List.set_cons_succ]))
  (refine q_sym (!Bv) (.pointer (some ⟨w.heap.size, 0, none⟩)) (by cases Bv <;> rfl) ?_ ?_; (· intro hc w' hS; cases hS; revert hc; cases Bv <;> intro hc <;> first | (cases hc; done) | (go_simp; try rfl)); (try simp only [Act.put, List.setIfInBounds_toArray, List.set_cons_zero, List.set_cons_succ]))
  (refine q_sym (!Bv) (.int .i64 kk) (by cases Bv <;> rfl) ?_ ?_; (· intro hc w' hS; cases hS; revert hc; cases Bv <;> intro hc <;> first | (cases hc; done) | (go_simp; try rfl)); (try simp only [Act.put, List.setIfInBounds_toArray, List.set_cons_zero, List.set_cons_succ]))
  (refine q_sym (!Bv) (.bool (kk == 2)) (by cases Bv <;> rfl) ?_ ?_; (· intro hc w' hS; cases hS; revert hc; cases Bv <;> intro hc <;> first | (cases hc; done) | (go_simp; try rfl)); (try simp only [Act.put, List.setIfInBounds_toArray, List.set_cons_zero, List.set_cons_succ]))
  generalize he2 : (kk == 2) = e2
  (refine q_sym (!Bv) (.bool e2) (by cases Bv <;> rfl) ?_ ?_; (· intro hc w' hS; cases hS; revert hc; cases Bv <;> intro hc <;> first | (cases hc; done) | (go_simp; try rfl)); (try simp only [Act.put, List.setIfInBounds_toArray, List.set_cons_zero, List.set_cons_succ]))
  (refine q_sym (!Bv && !e2) (.pointer (some ⟨w.heap.size, 0, none⟩)) (by cases Bv <;> cases e2 <;> rfl) ?_ ?_; (· intro hc w' hS; cases hS; revert hc; cases Bv <;> cases e2 <;> intro hc <;> first | (cases hc; done) | (go_simp; try rfl)); (try simp only [Act.put, List.setIfInBounds_toArray, List.set_cons_zero, List.set_cons_succ]))
  (refine q_sym (!Bv && !e2) (.int .i64 kk) (by cases Bv <;> cases e2 <;> rfl) ?_ ?_; (· intro hc w' hS; cases hS; revert hc; cases Bv <;> cases e2 <;> intro hc <;> first | (cases hc; done) | (go_simp; try rfl)); (try simp only [Act.put, List.setIfInBounds_toArray, List.set_cons_zero, List.set_cons_succ]))
  (refine q_sym (!Bv && !e2) (.bool (kk == 4)) (by cases Bv <;> cases e2 <;> rfl) ?_ ?_; (· intro hc w' hS; cases hS; revert hc; cases Bv <;> cases e2 <;> intro hc <;> first | (cases hc; done) | (go_simp; try rfl)); (try simp only [Act.put, List.setIfInBounds_toArray, List.set_cons_zero, List.set_cons_succ]))
  generalize he4 : (kk == 4) = e4
  (refine q_sym (!Bv) (.bool (e2 || e4)) (by cases Bv <;> cases e2 <;> cases e4 <;> rfl) ?_ ?_; (· intro hc w' hS; cases hS; revert hc; cases Bv <;> cases e2 <;> cases e4 <;> intro hc <;> first | (cases hc; done) | (go_simp; try rfl)); (try simp only [Act.put, List.setIfInBounds_toArray, List.set_cons_zero, List.set_cons_succ]))
  generalize hE : (e2 || e4) = E
  (refine q_sym (!Bv) (.bool E) (by cases Bv <;> rfl) ?_ ?_; (· intro hc w' hS; cases hS; revert hc; cases Bv <;> intro hc <;> first | (cases hc; done) | (go_simp; try rfl)); (try simp only [Act.put, List.setIfInBounds_toArray, List.set_cons_zero, List.set_cons_succ]))
  (refine q_sym (!Bv && E) (.pointer (some ⟨w.heap.size, 1, none⟩)) (by cases Bv <;> cases E <;> rfl) ?_ ?_; (· intro hc w' hS; cases hS; revert hc; cases Bv <;> cases E <;> intro hc <;> first | (cases hc; done) | (go_simp; try rfl)); (try simp only [Act.put, List.setIfInBounds_toArray, List.set_cons_zero, List.set_cons_succ]))
  (refine q_sym (!Bv && E) (.int .i64 nn) (by cases Bv <;> cases E <;> rfl) ?_ ?_; (· intro hc w' hS; cases hS; revert hc; cases Bv <;> cases E <;> intro hc <;> first | (cases hc; done) | (go_simp; try rfl)); (try simp only [Act.put, List.setIfInBounds_toArray, List.set_cons_zero, List.set_cons_succ]))
  (refine q_sym (!Bv && E) (.bool (nn != 0)) (by cases Bv <;> cases E <;> rfl) ?_ ?_; (· intro hc w' hS; cases hS; revert hc; cases Bv <;> cases E <;> intro hc <;> first | (cases hc; done) | (go_simp; try rfl)); (try simp only [Act.put, List.setIfInBounds_toArray, List.set_cons_zero, List.set_cons_succ]))
  generalize hn0 : (nn != 0) = n0
  (refine q_sym (!Bv) (.bool (E && n0)) (by cases Bv <;> cases E <;> cases n0 <;> rfl) ?_ ?_; (· intro hc w' hS; cases hS; revert hc; cases Bv <;> cases E <;> cases n0 <;> intro hc <;> first | (cases hc; done) | (go_simp; try rfl)); (try simp only [Act.put, List.setIfInBounds_toArray, List.set_cons_zero, List.set_cons_succ]))
  (refine q_take (.bool (Bv || (E && n0))) (by rfl) ?_ ?_; (· intro w' hS; cases hS; cases Bv <;> cases E <;> cases n0 <;> (go_simp; try rfl)); (try simp only [Act.put, List.setIfInBounds_toArray, List.set_cons_zero, List.set_cons_succ]))
  generalize hC : (Bv || (E && n0)) = Cv
  (refine q_take (.bool Cv) (by rfl) ?_ ?_; (· intro w' hS; cases hS; (go_simp; try rfl)); (try simp only [Act.put, List.setIfInBounds_toArray, List.set_cons_zero, List.set_cons_succ]))
  refine q_end (fun W1 hw => ?_)
  cases hw
  go_wp2_with fail
  subst hc2 hs0 hA hc4 hl0 hB he2 he4 hE hn0 hC
  go_meet
  refine ⟨?_, rfl⟩
  have e1 := str_isEmpty ss
  have e2 := len_pos l
  rw [e1, e2]
  rfl
 case rest =>
 obtain ⟨rfl, rfl⟩ := hcut
 cases hsh : ownShape kk nn ss l.isEmpty
 case true =>
  have hr := HR'.out
  rw [hsh, if_pos rfl] at hr
  subst hr
  go_wp2
  go_ret
  exact ⟨rfl, HF.out⟩
 have hr := HR'.out
 rw [hsh] at hr
 simp only [Bool.false_eq_true, if_false] at hr
 have HR := hid hr
 clear HR' hr hsh
 go_wp2_with fail
 refine (vprintable_any ss hsm _).mono ?_
 rintro e w2 ⟨rfl, rfl⟩
 cases hp : printed ss
 ·have hr := HR.out
  rw [hp] at hr
  simp only [Bool.false_eq_true, if_false] at hr
  subst hr
  go_wp2
  go_ret
  exact ⟨rfl, HF.out⟩
 ·have hr := HR.out
  rw [hp, if_pos rfl] at hr
  subst hr
  go_wp2
  go_ret
  exact ⟨rfl, HF.out⟩
end
section
open Go.RowKit
def strOf (k : Int) (s : ByteArray) : Nat := if k = 2 then s.size else 0
mutual
def V.vw : V → Nat → Nat → Int × Nat
 | .mk k n s l, deep, left => if 40 < deep then (112, left) else if left ≤ strOf k s then (104, left) else
  if ownCode k n s l.isEmpty = 0 then vwL l (deep + 1) (left - (1 + strOf k s)) else (ownCode k n s l.isEmpty, left - (1 + strOf k s))
def vwL : List V → Nat → Nat → Int × Nat
 | [], _, left => (0, left)
 | x :: r, deep, left => if (V.vw x deep left).1 = 0 then vwL r deep (V.vw x deep left).2 else V.vw x deep left
end
theorem V.vw_eq (x : V) (deep left : Nat) : x.vw deep left = if 40 < deep then (112, left) else if left ≤ strOf x.k x.s then (104, left) else
  if ownCode x.k x.n x.s x.l.isEmpty = 0 then vwL x.l (deep + 1) (left - (1 + strOf x.k x.s)) else (ownCode x.k x.n x.s x.l.isEmpty, left - (1 + strOf x.k x.s)) := by
 cases x; simp only [V.vw, V.k, V.n, V.s, V.l]; rfl
theorem vwL_drop (l : List V) (k deep z : Nat) (x : V) (h : l[k]? = some x) : vwL (l.drop k) deep z = if (x.vw deep z).1 = 0 then vwL (l.drop (k + 1)) deep (x.vw deep z).2 else x.vw deep z := by
 have hk := (List.getElem?_eq_some_iff.1 h).1
 rw [List.drop_eq_getElem_cons hk]
 have : l[k] = x := (List.getElem?_eq_some_iff.1 h).2
 rw [this, vwL]
mutual
theorem V.vw_le : ∀ (x : V) (deep left : Nat), (x.vw deep left).2 ≤ left
 | .mk k n s l, deep, left => by
  have h2 := vwL_le l (deep + 1) (left - (1 + strOf k s))
  simp only [V.vw]
  repeat' split
  all_goals try simp only
  all_goals omega
theorem vwL_le : ∀ (l : List V) (deep left : Nat), (vwL l deep left).2 ≤ left
 | [], deep, left => by simp [vwL]
 | x :: r, deep, left => by
  have h1 := V.vw_le x deep left
  have h2 := vwL_le r deep (x.vw deep left).2
  simp only [vwL]
  split <;> omega
end
def IsErr (e : Value) : Prop := ∃ t v, e = .iface t v
theorem ev_iface {eD eM eR eS : Value} (h1 : IsErr eD) (h2 : IsErr eM) (h3 : IsErr eR) (h4 : IsErr eS) {n : Int} (hn : n ≠ 0) : IsErr (ev eD eM eR eS n) := by
 unfold ev
 rw [if_neg hn]
 repeat' split
 all_goals assumption
def VwPost (eD eM eR eS : Value) (B : Nat) (w : World) (r : Int × Nat) (e : Ending) (w' : World) : Prop :=
 e = .returned (ev eD eM eR eS r.1) ∧ Fr (fun b => b = B) w w' ∧ w'.heap[B]? = some (.cells #[.int .i64 r.2] 3)
set_option maxHeartbeats 3200000 in
theorem vw_any (eD eM eR eS : Value) (i1 : IsErr eD) (i2 : IsErr eM) (i3 : IsErr eR) (i4 : IsErr eS) : ∀ (N : Nat) (x : V), x.size ≤ N → ∀ (B : Nat) (w : World) (u : Array Value) (deep left : Nat), VIn (fun b => b ≠ B) w x u → deep ≤ 41 → x.size ≤ 1099511627776 → left ≤ 1099511627776 →
  w.heap[B]? = some (.cells #[.int .i64 left] 3) → Errs w eD eM eR eS → 7 ≤ B →
  Calls Tryz.prog 144 #[.agg u, .int .i64 deep, .pointer (some ⟨B, 0, none⟩)] w (VwPost eD eM eR eS B w (x.vw deep left)) := by
 have HI4 := hid (fun n (hn : n ≠ 0) => ev_iface i1 i2 i3 i4 hn)
 clear i1 i2 i3 i4
 intro N
 induction N with
 | zero =>
  intro x h
  rw [V.size_eq] at h
  omega
 | succ N ih =>
  intro x hN B w u deep left h hd hM hz hB hE hB4
  have hs := V.size_eq x
  rw [V.vw_eq]
  have hown := fun (w' : World) (hv : VIn (fun b => b ≠ B) w' x u) (he : Errs w' eD eM eR eS) => vown_any x _ w' u hv (by omega) eD eM eR eS he
  have hvx := h
  obtain ⟨v, rfl, a, cap, us, rfl, hc, hm, hn, hb, hi⟩ := h.open
  have hlm : x.l.length ≤ 9223372036854775807 := Nat.le_trans hc hm
  have hsm : x.s.size ≤ 1099511627776 := by omega
  generalize x.k = kk at *
  generalize x.n = nn at *
  generalize x.s = ss at *
  generalize x.l = l at *
  have hBlt : B < w.heap.size := (Array.getElem?_eq_some_iff.1 hB).1
  have hF1 : Fr (fun b => b = B) w (w.alloc (.cells #[.int .i64 kk, .int .i64 nn, .string ss, .slice a l.length cap] 44)) := (Fr.refl _ _).alloc _
  have hB1 := ((Fr.refl (fun _ => False) w).alloc (.cells #[.int .i64 kk, .int .i64 nn, .string ss, .slice a l.length cap] 44)).heap hB not_false
  have hbx1 : (w.alloc (.cells #[.int .i64 kk, .int .i64 nn, .string ss, .slice a l.length cap] 44)).heap[w.heap.size]? = some (.cells #[.int .i64 kk, .int .i64 nn, .string ss, .slice a l.length cap] 44) := heap_alloc_new w _
  have hE1 := hE.frame ((Fr.refl (fun _ => False) w).alloc (.cells #[.int .i64 kk, .int .i64 nn, .string ss, .slice a l.length cap] 44)) (fun _ _ => id)
  have g0 := hE1.d
  have g1 := hE1.m
  have dB : (w.alloc (.cells #[.int .i64 kk, .int .i64 nn, .string ss, .slice a l.length cap] 44)).cell? ⟨B, 0, none⟩ = some (.int .i64 left) := by rw [cell_of_row _ _ 0 _ _ _ hB1]; rfl
  have fB : (w.alloc (.cells #[.int .i64 kk, .int .i64 nn, .string ss, .slice a l.length cap] 44)).frozen? ⟨B, 0, none⟩ = false := frozen_of_row _ _ 0 _ _ hB1
  obtain ⟨m, hmm⟩ : ∃ m, m = strOf kk ss := ⟨_, rfl⟩
  obtain ⟨cc, hcc⟩ : ∃ cc, cc = ownCode kk nn ss l.isEmpty := ⟨_, rfl⟩
  rw [← hmm, ← hcc]
  rw [← hcc] at hown
  have hmle : m ≤ ss.size := by rw [hmm]; unfold strOf; split <;> omega
  obtain ⟨r, hr⟩ : ∃ r, r = if 40 < deep then (112, left) else if left ≤ m then (104, left) else if cc = 0 then vwL l (deep + 1) (left - (1 + m)) else (cc, left - (1 + m)) := ⟨_, rfl⟩
  rw [← hr]
  have HB := hid hb; have HI := hid hi; have HS := hid hs; have HM := hid hM; have HN := hid hN; have HR := hid hr; have HV := hid hvx; have HO := hid hown; have HE := hid hE; have HF1 := hid hF1; have HB1 := hid hB1; have HBX := hid hbx1; have HIH := hid ih; have HMM := hid hmm
  clear hb hi hs hM hN h hn hr hvx hown hE hF1 hB hB1 hbx1 hE1 hcc ih hmm
  by_cases h1 : 40 < deep
  ·go_enter Tryz.func144, Tryz.ntmps144
   go_wp2
   go_ret
   rw [HR.out, if_pos h1]
   exact ⟨rfl, HF1.out, HB1.out⟩
  have hr := HR.out
  rw [if_neg h1] at hr
  have HR' := hid hr
  have H1 := hid h1
  clear HR hr g0
  go_enter Tryz.func144, Tryz.ntmps144
  go_upto_if 17 with fail
  generalize hW1 : w.alloc (.cells #[.int .i64 kk, .int .i64 nn, .string ss, .slice a l.length cap] 44) = W1 at HF1 HB1 HBX g1 dB fB ⊢
  go_cut [7] from 17 to 20 (fun c wx => c = .int .i64 m ∧ wx = W1)
  case first =>
   have d2 : W1.cell? ⟨w.heap.size, 2, none⟩ = some (.string ss) := by rw [cell_of_row _ _ 2 _ _ _ HBX.out]; rfl
   by_cases k2 : kk = 2
   ·subst k2
    go_wp2_with fail
    go_meet
    exact ⟨by rw [HMM.out]; rfl, rfl⟩
   ·have q2 : (kk == 2) = false := by simpa using k2
    go_wp2_with fail
    go_meet
    exact ⟨by rw [HMM.out, strOf, if_neg k2]; rfl, rfl⟩
  case rest =>
  obtain ⟨rfl, rfl⟩ := hcut
  by_cases hlm2 : (left : Int) ≤ m
  ·have hr := HR'.out
   rw [if_pos (by omega)] at hr
   subst hr
   go_wp2
   go_ret
   exact ⟨rfl, HF1.out, HB1.out⟩
  have hr := HR'.out
  rw [if_neg (by omega)] at hr
  obtain ⟨z, hz1, hz2⟩ : ∃ z : Nat, (left : Int) - (1 + m) = z ∧ z = left - (1 + m) := ⟨left - (1 + m), by omega, rfl⟩
  rw [← hz2] at hr
  have HR := hid hr; have HZ := hid hz1; have HZL := hid (show z ≤ left by omega)
  clear HR' hr hz1 hz2
  go_upto_region 9 with fail
  rw [HZ.out]
  have hF2 : Fr (fun b => b = B) w (wc.setCell ⟨B, 0, none⟩ (.int .i64 z)) := HF1.out.setCell (p := ⟨B, 0, none⟩) (.inl rfl) _
  have hW2 : Fr (fun b => b = B) wc (wc.setCell ⟨B, 0, none⟩ (.int .i64 z)) := (Fr.refl (fun b => b = B) wc).setCell (p := ⟨B, 0, none⟩) (.inl rfl) _
  have hB2 := setCell_row 0 (.int .i64 z) HB1.out
  have hbx2 := hW2.heap HBX.out (by omega)
  simp only [List.setIfInBounds_toArray, List.set_cons_zero] at hB2
  generalize wc.setCell ⟨B, 0, none⟩ (.int .i64 z) = W2 at *
  have hV2 := HV.out.frame hF2 (fun _ h => h)
  have hE2 := HE.out.frame hF2 (fun k hk e => by omega)
  have hO2 := HO.out W2 hV2 hE2
  have d0 : W2.cell? ⟨w.heap.size, 0, none⟩ = some (.int .i64 kk) := by rw [cell_of_row _ _ 0 _ _ _ hbx2]; rfl
  have d1 : W2.cell? ⟨w.heap.size, 1, none⟩ = some (.int .i64 nn) := by rw [cell_of_row _ _ 1 _ _ _ hbx2]; rfl
  have d2 : W2.cell? ⟨w.heap.size, 2, none⟩ = some (.string ss) := by rw [cell_of_row _ _ 2 _ _ _ hbx2]; rfl
  have d3 : W2.cell? ⟨w.heap.size, 3, none⟩ = some (.slice a l.length cap) := by rw [cell_of_row _ _ 3 _ _ _ hbx2]; rfl
  have HF2 := hid hF2; have HB2 := hid hB2; have HX2 := hid hbx2; have HO2 := hid hO2
  clear hF2 hW2 hB2 hbx2 hV2 hE2 hO2 HF1 HB1 HBX dB fB g1 HO
  go_wp2_with fail
  refine HO2.out.mono ?_
  rintro e W3 ⟨rfl, hf3⟩
  have hF3 := HF2.out.trans hf3 (fun _ _ h => h) (fun _ _ h => h.elim)
  have hB3 := hf3.heap HB2.out not_false
  have hX3 := hf3.heap HX2.out not_false
  have d3 : W3.cell? ⟨w.heap.size, 3, none⟩ = some (.slice a l.length cap) := by rw [cell_of_row _ _ 3 _ _ _ hX3]; rfl
  have HF3 := hid hF3; have HB3 := hid hB3
  clear hF3 hB3 hX3 hf3 HF2 HB2 HX2 HO2 d0 d1 d2
  by_cases hc0 : cc = 0
  case neg =>
   have hr := HR.out
   rw [if_neg hc0] at hr
   subst hr
   have he := HI4.out cc hc0
   obtain ⟨t, v, he⟩ := he
   rw [he]
   go_wp2
   go_ret
   exact ⟨congrArg Ending.returned he.symm, HF3.out, HB3.out⟩
  have hr := HR.out
  rw [if_pos hc0] at hr
  have HR' := hid hr
  clear HR hr
  subst hc0
  rw [show ev eD eM eR eS 0 = .nilIface from rfl]
  go_wp2_with fail
  go_loopw [42] (fun i wr => ∃ k zk : Nat, k ≤ l.length ∧ i = .int .i64 k ∧ Fr (fun b => b = B) W3 wr ∧ wr.heap[B]? = some (.cells #[.int .i64 zk] 3) ∧ zk ≤ z ∧ vwL l (deep + 1) z = vwL (l.drop k) (deep + 1) zk) (fun i _ => l.length - (intOf i).toNat)
  case atStart => exact ⟨0, z, Nat.zero_le _, rfl, Fr.refl _ _, HB3.out, Nat.le_refl _, rfl⟩
  case round =>
   obtain ⟨k, zk, hk, rfl, hf, hzk, hle, heq⟩ := hrel
   by_cases hlt : k < l.length
   ·obtain ⟨b, o, y, a', c', rfl, hbB, hy, hv, e0, e1, e2, e3⟩ := VL.elem HB.out HI.out k hlt
    have hf0 := HF3.out.trans' hf
    replace e0 := hf0.cell e0 hbB
    replace e1 := hf0.cell e1 hbB
    replace e2 := hf0.cell e2 hbB
    replace e3 := hf0.cell e3 hbB
    have hA : ∀ o : Obj, Fr (fun _ => False) wr (wr.alloc o) := fun o => (Fr.refl _ _).alloc _
    have hv2 := fun o => (hv.frame hf0 (fun _ h => h)).frame (hA o) (fun _ _ => id)
    have hE2 := fun o => (HE.out.frame hf0 (fun k hk e => by omega)).frame (hA o) (fun _ _ => id)
    have hzk2 := fun o => (hA o).heap hzk not_false
    have t2 := sizeL_mem hy
    have hy1 : y.size ≤ N := by have := HS.out; have := HN.out; omega
    have hod := vwL_drop l k (deep + 1) zk y hy
    have hole := y.vw_le (deep + 1) zk
    have hc := fun o => HIH.out y hy1 B (wr.alloc o) _ (deep + 1) zk (hv2 o) (by have := H1.out; omega) (by have := HM.out; have := HS.out; omega) (by have := HZL.out; omega) (hzk2 o) (hE2 o) hB4
    rw [hod] at heq
    have HE9 := hid heq; have HFr := hid hf; have HC := hid hc; have HO9 := hid hole
    clear hv t2 hf hf0 hv2 hE2 hzk2 hc hy1 hod heq hole hy hzk
    generalize y.vw (deep + 1) zk = ry at *
    go_wp2_with fail
    refine (HC.out _).mono ?_
    rintro e w2 ⟨rfl, hf2, hb2⟩
    have HF2 := hid (HFr.out.trans' (((Fr.refl _ wr).alloc _).trans' hf2)); have HB2 := hid hb2
    clear hf2 hb2
    by_cases hry : ry.1 = 0
    ·have hev : ev eD eM eR eS ry.1 = .nilIface := by rw [hry]; rfl
     rw [hev]
     go_wp2
     go_roundw
     case rel => exact ⟨k + 1, ry.2, by omega, by go_num, HF2.out, HB2.out, by have := HO9.out; omega, by rw [HE9.out, if_pos hry]⟩
     case measure => simp [intOf]; omega
    ·obtain ⟨t, v, he⟩ := HI4.out ry.1 hry
     rw [he]
     go_wp2
     go_ret
     have hrr := HR'.out
     rw [HE9.out, if_neg hry] at hrr
     rw [hrr]
     exact ⟨congrArg Ending.returned he.symm, HF3.out.trans' HF2.out, HB2.out⟩
   ·go_wp2
    go_ret
    have hrr := HR'.out
    rw [heq, List.drop_of_length_le (by omega), vwL] at hrr
    rw [hrr]
    exact ⟨rfl, HF3.out.trans' hf, hzk⟩
end
section
open Go.RowKit
def V.valid (x : V) : Int := (x.odd 1 0).1
set_option maxHeartbeats 800000 in
theorem rvalid_any (x : V) (hM : x.size ≤ 1099511627776) (D : Nat → Prop) (w : World) (u : Array Value) (h : VIn D w x u) :
  Calls Tryz.prog 92 #[.agg u] w fun e w' => e = .returned (.int .i64 x.valid) ∧ Fr (fun _ => False) w w' := by
 obtain ⟨v, rfl, hl⟩ := h.open
 obtain ⟨a, cap, us, rfl, -⟩ := hl
 have hF : ∀ o1 o2, Fr (fun _ => False) w ((w.alloc o1).alloc o2) := fun o1 o2 => ((Fr.refl _ _).alloc _).alloc _
 have hv : ∀ o1 o2, VIn (fun b => b ≠ w.heap.size + 1) ((w.alloc o1).alloc o2) x #[.int .i64 x.k, .int .i64 x.n, .string x.s, .slice a x.l.length cap] := fun o1 o2 => (h.mono fun k hk _ => by omega).frame (hF o1 o2) (fun _ _ => not_false)
 have hb : ∀ o1 : Obj, ((w.alloc o1).alloc (.cells #[.int .i64 0] 167)).heap[w.heap.size + 1]? = some (.cells #[.int .i64 0] 167) := fun o1 => by
  have := heap_alloc_new (w.alloc o1) (.cells #[.int .i64 0] 167)
  simpa using this
 have hodd := fun o1 => odd_any x.size x (Nat.le_refl _) (w.heap.size + 1) ((w.alloc o1).alloc (.cells #[.int .i64 0] 167)) _ 1 0 (hv o1 _) (by omega) (by omega) (hb o1)
 have HC := hid hodd; have HF := hid hF; have HX := hid (show x.valid = (x.odd 1 0).1 from rfl)
 clear hodd hF hv hb h hM
 generalize x.valid = rv at *
 generalize x.odd 1 0 = r at *
 generalize x.k = kk at *
 generalize x.n = nn at *
 generalize x.s = ss at *
 generalize x.l.length = ll at *
 have HD : ∀ o2 : Obj, ((w.alloc (.cells #[.int .i64 kk, .int .i64 nn, .string ss, .slice a ll cap] 44)).alloc o2).heap[w.heap.size]? = some (.cells #[.int .i64 kk, .int .i64 nn, .string ss, .slice a ll cap] 44) := fun o2 => ((Fr.refl (fun _ => False) _).alloc _).heap (heap_alloc_new w _) not_false
 go_enter Tryz.func92, Tryz.ntmps92
 go_wp2_with fail
 refine (HC.out _).mono ?_
 rintro e w2 ⟨rfl, hf2, -⟩
 have HF2 := hid ((HF.out _ _).trans hf2 (fun _ _ => id) (fun k hk e => by omega))
 clear hf2
 go_wp2
 go_ret
 exact ⟨by rw [HX.out]; rfl, HF2.out⟩
end
section
open Go.RowKit
theorem own_shape {k n : Int} (s : ByteArray) (e : Bool) (h : oddRange k n = false) : oddShape k n s e = (ownShape k n s e || !printed s) := by
 have hk : k = 0 ∨ k = 1 ∨ k = 2 ∨ k = 3 ∨ k = 4 := by
  simp [oddRange] at h
  omega
 unfold oddShape ownShape
 rcases hk with rfl | rfl | rfl | rfl | rfl <;> cases hn : (n != 0) <;> cases hs : (s.size != 0) <;> cases e <;> cases printed s <;> rfl
mutual
theorem V.vw_odd : ∀ (x : V) (deep sz left : Nat), sz + left = 4096 → (x.odd deep sz).1 = (x.vw deep left).1 ∧ ((x.vw deep left).1 = 0 → (x.odd deep sz).2 + (x.vw deep left).2 = 4096)
 | .mk k n s l, deep, sz, left, h => by
  have h2 := vwL_odd l (deep + 1) (oddSize k s sz) (left - (1 + strOf k s))
  have hsz : oddSize k s sz = sz + 1 + strOf k s := rfl
  simp only [V.odd, V.vw]
  by_cases h1 : 40 < deep
  ·simp [h1]
  simp only [if_neg h1]
  by_cases h3 : left ≤ strOf k s
  ·simp [h3, show 4096 < oddSize k s sz by omega]
  simp only [if_neg h3, if_neg (show ¬ 4096 < oddSize k s sz by omega)]
  cases er : oddRange k n
  ·have eo := own_shape s l.isEmpty er
   rw [eo]
   simp only [ownCode, er, Bool.false_eq_true, if_false]
   cases ownShape k n s l.isEmpty <;> cases printed s <;> simp
   exact h2 (by omega)
  ·simp [ownCode, er]
theorem vwL_odd : ∀ (l : List V) (deep sz left : Nat), sz + left = 4096 → (oddL l deep sz).1 = (vwL l deep left).1 ∧ ((vwL l deep left).1 = 0 → (oddL l deep sz).2 + (vwL l deep left).2 = 4096)
 | [], deep, sz, left, h => by simp [oddL, vwL, h]
 | x :: r, deep, sz, left, h => by
  obtain ⟨h1, h2⟩ := V.vw_odd x deep sz left h
  simp only [oddL, vwL]
  by_cases h0 : (x.vw deep left).1 = 0
  ·rw [if_pos (h1.trans h0), if_pos h0]
   exact vwL_odd r deep _ _ (h2 h0)
  ·rw [if_neg (fun e => h0 (h1.symm.trans e)), if_neg h0]
   exact ⟨h1, fun e => absurd e h0⟩
end
theorem V.vcode (x : V) : (x.vw 1 4096).1 = x.valid := (V.vw_odd x 1 0 4096 rfl).1.symm
set_option maxHeartbeats 800000 in
theorem vvalid_any (eD eM eR eS : Value) (i1 : IsErr eD) (i2 : IsErr eM) (i3 : IsErr eR) (i4 : IsErr eS) (x : V) (hM : x.size ≤ 1099511627776) (D : Nat → Prop) (w : World) (u : Array Value) (h : VIn D w x u) (hE : Errs w eD eM eR eS) (h4 : 7 ≤ w.heap.size) :
  Calls Tryz.prog 131 #[.agg u] w fun e w' => e = .returned (ev eD eM eR eS x.valid) ∧ Fr (fun _ => False) w w' := by
 obtain ⟨v, rfl, hl⟩ := h.open
 obtain ⟨a, cap, us, rfl, -⟩ := hl
 have hF : ∀ o1 o2, Fr (fun _ => False) w ((w.alloc o1).alloc o2) := fun o1 o2 => ((Fr.refl _ _).alloc _).alloc _
 have hv : ∀ o1 o2, VIn (fun b => b ≠ w.heap.size + 1) ((w.alloc o1).alloc o2) x #[.int .i64 x.k, .int .i64 x.n, .string x.s, .slice a x.l.length cap] := fun o1 o2 => (h.mono fun k hk _ => by omega).frame (hF o1 o2) (fun _ _ => not_false)
 have hb : ∀ o1 : Obj, ((w.alloc o1).alloc (.cells #[.int .i64 4096] 3)).heap[w.heap.size + 1]? = some (.cells #[.int .i64 (4096 : Nat)] 3) := fun o1 => by
  have := heap_alloc_new (w.alloc o1) (.cells #[.int .i64 4096] 3)
  simpa using this
 have hodd := fun o1 => vw_any eD eM eR eS i1 i2 i3 i4 x.size x (Nat.le_refl _) (w.heap.size + 1) ((w.alloc o1).alloc (.cells #[.int .i64 4096] 3)) _ 1 4096 (hv o1 _) (by omega) hM (by omega) (hb o1) (hE.frame (hF _ _) (fun _ _ => id)) (by omega)
 have HC := hid hodd; have HF := hid hF; have HX := hid x.vcode
 clear hodd hF hv hb h hM hE i1 i2 i3 i4
 generalize x.valid = rv at *
 generalize x.vw 1 4096 = r at *
 generalize x.k = kk at *
 generalize x.n = nn at *
 generalize x.s = ss at *
 generalize x.l.length = ll at *
 have hd : ∀ o2 : Obj, ((w.alloc (.cells #[.int .i64 kk, .int .i64 nn, .string ss, .slice a ll cap] 44)).alloc o2).heap[w.heap.size]? = some (.cells #[.int .i64 kk, .int .i64 nn, .string ss, .slice a ll cap] 44) := fun o2 => ((Fr.refl (fun _ => False) _).alloc _).heap (heap_alloc_new w _) not_false
 have HD := hid hd
 clear hd
 go_enter Tryz.func131, Tryz.ntmps131
 go_wp2_with fail
 refine (HC.out _).mono ?_
 rintro e w2 ⟨rfl, hf2, -⟩
 have HF2 := hid ((HF.out _ _).trans hf2 (fun _ _ => id) (fun k hk e => by omega))
 clear hf2
 go_wp2
 go_ret
 exact ⟨by rw [← HX.out]; rfl, HF2.out⟩
end
section
open Go.RowKit
def bareV (n : Int) : Value := .agg #[.int .i64 n, .bool false, .int .i64 0, .int .i64 0, .int .i64 0, .string ⟨#[]⟩, .slice none 0 0]
set_option maxHeartbeats 800000 in
theorem bare_any (n : Int) (w : World) : Calls Tryz.prog 38 #[.int .i64 n] w fun e w' => e = .returned (bareV n) ∧ Fr (fun _ => False) w w' := by
 go_enter Tryz.func38, Tryz.ntmps38
 go_wp2
 have hR : (w.alloc (.cells #[.int .i64 n, .bool false, .int .i64 0, .int .i64 0, .int .i64 0, .string ⟨#[]⟩, .slice none 0 0] 46)).heap[w.heap.size]? = some (.cells #[.int .i64 n, .bool false, .int .i64 0, .int .i64 0, .int .i64 0, .string ⟨#[]⟩, .slice none 0 0] 46) := heap_alloc_new w _
 refine bodyPost_ret (results_cell_row rfl _ _ w.heap.size _ _ _ _ rfl hR Tryz.underlying46 rfl (by kernel_rfl)) rfl ?_
 exact ⟨rfl, (Fr.refl _ _).alloc _⟩
set_option maxHeartbeats 800000 in
theorem none_any (w : World) : Calls Tryz.prog 43 #[] w fun e w' => e = .returned (bareV 0) ∧ Fr (fun _ => False) w w' := by
 go_enter Tryz.func43, Tryz.ntmps43
 go_wp2
 have hR : (w.alloc (.cells #[.int .i64 0, .bool false, .int .i64 0, .int .i64 0, .int .i64 0, .string ⟨#[]⟩, .slice none 0 0] 46)).heap[w.heap.size]? = some (.cells #[.int .i64 0, .bool false, .int .i64 0, .int .i64 0, .int .i64 0, .string ⟨#[]⟩, .slice none 0 0] 46) := heap_alloc_new w _
 refine bodyPost_ret (results_cell_row rfl _ _ w.heap.size _ _ _ _ rfl hR Tryz.underlying46 rfl (by kernel_rfl)) rfl ?_
 exact ⟨rfl, (Fr.refl _ _).alloc _⟩
theorem svs_nil (w : World) : Calls Tryz.prog 90 #[.slice none 0 0, .slice none 0 0] w fun e w' => e = .returned (.bool true) ∧ w = w' := by
 go_enter Tryz.func90, Tryz.ntmps90
 go_wp2
 go_loop [5] (fun i => i = .int .i64 0) (fun _ => 0)
 case atStart => rfl
 case round =>
  subst hrel
  go_wp2
  go_ret
  exact ⟨rfl, rfl⟩
theorem sv_zero (w : World) : Calls Tryz.prog 63 #[.agg #[.int .i64 0, .int .i64 0, .string ⟨#[]⟩, .slice none 0 0], .agg #[.int .i64 0, .int .i64 0, .string ⟨#[]⟩, .slice none 0 0]] w fun e w' => e = .returned (.bool true) ∧ Fr (fun _ => False) w w' := by
 go_enter Tryz.func63, Tryz.ntmps63
 go_wp2_with fail
 refine (svs_nil _).mono ?_
 rintro e w2 ⟨rfl, rfl⟩
 go_wp2
 go_ret
 exact ⟨rfl, ((Fr.refl _ _).alloc _).alloc _⟩
set_option maxHeartbeats 1600000 in
theorem samefault_num (m n : Int) (w : World) : Calls Tryz.prog 44 #[bareV m, bareV n] w fun e w' => e = .returned (.bool (decide (m = n))) ∧ Fr (fun _ => False) w w' := by
 have hd : decide (m = n) = (m == n) := by
  rw [Bool.eq_iff_iff]
  simp
 have HD := hid hd
 clear hd
 unfold bareV
 go_enter Tryz.func44, Tryz.ntmps44
 go_wp2_with fail
 refine (sv_zero _).mono ?_
 rintro e w2 ⟨rfl, hf2⟩
 have hF : ∀ o1 o2 : Obj, Fr (fun _ => False) w ((w.alloc o1).alloc o2) := fun o1 o2 => ((Fr.refl _ _).alloc _).alloc _
 have h1 := hf2.heap (k := w.heap.size) (((Fr.refl (fun _ => False) _).alloc _).heap (heap_alloc_new w (.cells #[.int .i64 m, .bool false, .int .i64 0, .int .i64 0, .int .i64 0, .string ⟨#[]⟩, .slice none 0 0] 46)) not_false) not_false
 have h2 := hf2.heap (k := w.heap.size + 1) (o := .cells #[.int .i64 n, .bool false, .int .i64 0, .int .i64 0, .int .i64 0, .string ⟨#[]⟩, .slice none 0 0] 46) (by
  have := heap_alloc_new (w.alloc (.cells #[.int .i64 m, .bool false, .int .i64 0, .int .i64 0, .int .i64 0, .string ⟨#[]⟩, .slice none 0 0] 46)) (.cells #[.int .i64 n, .bool false, .int .i64 0, .int .i64 0, .int .i64 0, .string ⟨#[]⟩, .slice none 0 0] 46)
  simpa using this) not_false
 have x0 : w2.cell? ⟨w.heap.size, 0, none⟩ = some (.int .i64 m) := by rw [cell_of_row _ _ 0 _ _ _ h1]; rfl
 have x1 : w2.cell? ⟨w.heap.size, 1, none⟩ = some (.bool false) := by rw [cell_of_row _ _ 1 _ _ _ h1]; rfl
 have x2 : w2.cell? ⟨w.heap.size, 2, none⟩ = some (.int .i64 0) := by rw [cell_of_row _ _ 2 _ _ _ h1]; rfl
 have y0 : w2.cell? ⟨w.heap.size + 1, 0, none⟩ = some (.int .i64 n) := by rw [cell_of_row _ _ 0 _ _ _ h2]; rfl
 have y1 : w2.cell? ⟨w.heap.size + 1, 1, none⟩ = some (.bool false) := by rw [cell_of_row _ _ 1 _ _ _ h2]; rfl
 have y2 : w2.cell? ⟨w.heap.size + 1, 2, none⟩ = some (.int .i64 0) := by rw [cell_of_row _ _ 2 _ _ _ h2]; rfl
 have HF := hid ((hF _ _).trans' hf2)
 clear h1 h2 hf2 hF
 cases hmn : (m == n) with
 | false =>
  rw [hmn] at HD
  go_wp2
  go_ret
  exact ⟨ret_bool HD.out.symm, HF.out⟩
 | true =>
  rw [hmn] at HD
  go_wp2
  go_ret
  exact ⟨ret_bool HD.out.symm, HF.out⟩
end
section
open Go.RowKit
def sentG : List Nat := [4, 1, 0, 2, 6, 5, 7, 8, 9, 10, 11, 3, 12, 13, 14, 15, 16]
def Sents (w : World) (pa : Nat → Addr) : Prop := ∀ i, i < 17 → w.cell? ⟨sentG.getD i 0, 0, none⟩ = some (.iface 200 (.pointer (some (pa i))))
theorem Sents.frame {w w' : World} {pa : Nat → Addr} (h : Sents w pa) (hf : Fr (fun _ => False) w w') : Sents w' pa := fun i hi => hf.cell (h i hi) not_false
set_option maxHeartbeats 1600000 in
theorem sentinels_any (w : World) (pa : Nat → Addr) (h : Sents w pa) : Calls Tryz.prog 122 #[] w fun e w' => e = .returned (.slice (some ⟨w.heap.size, 0, none⟩) 17 17) ∧ w' = w.alloc (.cells #[.iface 200 (.pointer (some (pa 0))), .iface 200 (.pointer (some (pa 1))), .iface 200 (.pointer (some (pa 2))), .iface 200 (.pointer (some (pa 3))), .iface 200 (.pointer (some (pa 4))), .iface 200 (.pointer (some (pa 5))), .iface 200 (.pointer (some (pa 6))), .iface 200 (.pointer (some (pa 7))), .iface 200 (.pointer (some (pa 8))), .iface 200 (.pointer (some (pa 9))), .iface 200 (.pointer (some (pa 10))), .iface 200 (.pointer (some (pa 11))), .iface 200 (.pointer (some (pa 12))), .iface 200 (.pointer (some (pa 13))), .iface 200 (.pointer (some (pa 14))), .iface 200 (.pointer (some (pa 15))), .iface 200 (.pointer (some (pa 16)))] 27) := by
 have g0 : w.cell? ⟨4, 0, none⟩ = some (.iface 200 (.pointer (some (pa 0)))) := h 0 (by decide)
 have g1 : w.cell? ⟨1, 0, none⟩ = some (.iface 200 (.pointer (some (pa 1)))) := h 1 (by decide)
 have g2 : w.cell? ⟨0, 0, none⟩ = some (.iface 200 (.pointer (some (pa 2)))) := h 2 (by decide)
 have g3 : w.cell? ⟨2, 0, none⟩ = some (.iface 200 (.pointer (some (pa 3)))) := h 3 (by decide)
 have g4 : w.cell? ⟨6, 0, none⟩ = some (.iface 200 (.pointer (some (pa 4)))) := h 4 (by decide)
 have g5 : w.cell? ⟨5, 0, none⟩ = some (.iface 200 (.pointer (some (pa 5)))) := h 5 (by decide)
 have g6 : w.cell? ⟨7, 0, none⟩ = some (.iface 200 (.pointer (some (pa 6)))) := h 6 (by decide)
 have g7 : w.cell? ⟨8, 0, none⟩ = some (.iface 200 (.pointer (some (pa 7)))) := h 7 (by decide)
 have g8 : w.cell? ⟨9, 0, none⟩ = some (.iface 200 (.pointer (some (pa 8)))) := h 8 (by decide)
 have g9 : w.cell? ⟨10, 0, none⟩ = some (.iface 200 (.pointer (some (pa 9)))) := h 9 (by decide)
 have g10 : w.cell? ⟨11, 0, none⟩ = some (.iface 200 (.pointer (some (pa 10)))) := h 10 (by decide)
 have g11 : w.cell? ⟨3, 0, none⟩ = some (.iface 200 (.pointer (some (pa 11)))) := h 11 (by decide)
 have g12 : w.cell? ⟨12, 0, none⟩ = some (.iface 200 (.pointer (some (pa 12)))) := h 12 (by decide)
 have g13 : w.cell? ⟨13, 0, none⟩ = some (.iface 200 (.pointer (some (pa 13)))) := h 13 (by decide)
 have g14 : w.cell? ⟨14, 0, none⟩ = some (.iface 200 (.pointer (some (pa 14)))) := h 14 (by decide)
 have g15 : w.cell? ⟨15, 0, none⟩ = some (.iface 200 (.pointer (some (pa 15)))) := h 15 (by decide)
 have g16 : w.cell? ⟨16, 0, none⟩ = some (.iface 200 (.pointer (some (pa 16)))) := h 16 (by decide)
 clear h
 generalize pa 0 = a0 at *
 generalize pa 1 = a1 at *
 generalize pa 2 = a2 at *
 generalize pa 3 = a3 at *
 generalize pa 4 = a4 at *
 generalize pa 5 = a5 at *
 generalize pa 6 = a6 at *
 generalize pa 7 = a7 at *
 generalize pa 8 = a8 at *
 generalize pa 9 = a9 at *
 generalize pa 10 = a10 at *
 generalize pa 11 = a11 at *
 generalize pa 12 = a12 at *
 generalize pa 13 = a13 at *
 generalize pa 14 = a14 at *
 generalize pa 15 = a15 at *
 generalize pa 16 = a16 at *
 go_enter Tryz.func122, Tryz.ntmps122
 go_wp2_with fail
 go_ret
 exact ⟨rfl, rfl⟩
def Rowed (w : World) (a : Addr) : Prop := ∃ c t, w.heap[a.block]? = some (.cells c t)
theorem Rowed.frame {w w' : World} {a : Addr} (h : Rowed w a) (hf : Fr (fun _ => False) w w') : Rowed w' a := by
 obtain ⟨c, t, h⟩ := h
 exact ⟨c, t, hf.heap h not_false⟩
theorem eql_same (a : Addr) (w : World) : (binOp .eql 27 (.iface 200 (.pointer (some a))) (.iface 200 (.pointer (some a)))).run Tryz.prog w = .ok (.bool true) w := by
 obtain ⟨i, hi, hc⟩ : ∃ i, Tryz.prog.info? 200 = some i ∧ i.comparable = true := by
  have h : (Tryz.prog.info? 200).map (·.comparable) = some true := by kernel_rfl
  cases hh : Tryz.prog.info? 200 with
  | none => rw [hh] at h; cases h
  | some i => rw [hh] at h; exact ⟨i, rfl, by simpa using h⟩
 obtain ⟨j, hj⟩ : ∃ j, Tryz.prog.info? 214 = some j := by
  have h : (Tryz.prog.info? 214).isSome = true := by kernel_rfl
  exact Option.isSome_iff_exists.1 h
 exact run_eql_iface_ptr_same w a Tryz.underlying27 Tryz.underlying200 hi hc hj
theorem eql_other {a b : Addr} {w : World} (hne : a ≠ b) (ha : Rowed w a) (hb : Rowed w b) : (binOp .eql 27 (.iface 200 (.pointer (some a))) (.iface 200 (.pointer (some b)))).run Tryz.prog w = .ok (.bool false) w := by
 obtain ⟨i, hi, hc⟩ : ∃ i, Tryz.prog.info? 200 = some i ∧ i.comparable = true := by
  have h : (Tryz.prog.info? 200).map (·.comparable) = some true := by kernel_rfl
  cases hh : Tryz.prog.info? 200 with
  | none => rw [hh] at h; cases h
  | some i => rw [hh] at h; exact ⟨i, rfl, by simpa using h⟩
 obtain ⟨j, hj, hs⟩ : ∃ j, Tryz.prog.info? 214 = some j ∧ j.size ≠ 0 := by
  have h : (Tryz.prog.info? 214).map (fun j => j.size != 0) = some true := by kernel_rfl
  cases hh : Tryz.prog.info? 214 with
  | none => rw [hh] at h; cases h
  | some i => rw [hh] at h; exact ⟨i, rfl, by simpa using h⟩
 obtain ⟨ca, ta, ha⟩ := ha
 obtain ⟨cb, tb, hb⟩ := hb
 exact run_eql_iface_ptr_other w Tryz.underlying27 Tryz.underlying200 hi hc hj hs hne ha hb
theorem alike_same (a : Addr) (w : World) : Calls Tryz.prog 123 #[.iface 200 (.pointer (some a)), .iface 200 (.pointer (some a))] w fun e w' => e = .returned (.bool true) ∧ w = w' := by
 have h := eql_same a
 go_enter Tryz.func123, Tryz.ntmps123
 go_wp2
 go_ret
 exact ⟨rfl, rfl⟩
theorem alike_other {a b : Addr} {w : World} (hne : a ≠ b) (ha : Rowed w a) (hb : Rowed w b) : Calls Tryz.prog 123 #[.iface 200 (.pointer (some a)), .iface 200 (.pointer (some b))] w fun e w' => e = .returned (.bool false) ∧ w = w' := by
 have h := eql_other hne ha hb
 clear hne ha hb
 go_enter Tryz.func123, Tryz.ntmps123
 go_wp2
 go_ret
 exact ⟨rfl, rfl⟩
structure Sent17 (w : World) (pa : Nat → Addr) : Prop where
 s : Sents w pa
 r : ∀ i, i < 17 → Rowed w (pa i)
 n : ∀ i j, i < 17 → j < 17 → i ≠ j → pa i ≠ pa j
theorem Sent17.frame {w w' : World} {pa : Nat → Addr} (h : Sent17 w pa) (hf : Fr (fun _ => False) w w') : Sent17 w' pa := ⟨h.s.frame hf, fun i hi => (h.r i hi).frame hf, h.n⟩
theorem sent_get (pa : Nat → Addr) (k : Nat) (hk : k < 17) : (#[.iface 200 (.pointer (some (pa 0))), .iface 200 (.pointer (some (pa 1))), .iface 200 (.pointer (some (pa 2))), .iface 200 (.pointer (some (pa 3))), .iface 200 (.pointer (some (pa 4))), .iface 200 (.pointer (some (pa 5))), .iface 200 (.pointer (some (pa 6))), .iface 200 (.pointer (some (pa 7))), .iface 200 (.pointer (some (pa 8))), .iface 200 (.pointer (some (pa 9))), .iface 200 (.pointer (some (pa 10))), .iface 200 (.pointer (some (pa 11))), .iface 200 (.pointer (some (pa 12))), .iface 200 (.pointer (some (pa 13))), .iface 200 (.pointer (some (pa 14))), .iface 200 (.pointer (some (pa 15))), .iface 200 (.pointer (some (pa 16)))] : Array Value)[k]? = some (.iface 200 (.pointer (some (pa k)))) := by
 obtain rfl | rfl | rfl | rfl | rfl | rfl | rfl | rfl | rfl | rfl | rfl | rfl | rfl | rfl | rfl | rfl | rfl : k = 0 ∨ k = 1 ∨ k = 2 ∨ k = 3 ∨ k = 4 ∨ k = 5 ∨ k = 6 ∨ k = 7 ∨ k = 8 ∨ k = 9 ∨ k = 10 ∨ k = 11 ∨ k = 12 ∨ k = 13 ∨ k = 14 ∨ k = 15 ∨ k = 16 := by omega
 all_goals rfl
set_option maxHeartbeats 1600000 in
theorem sentinel_any (w : World) (pa : Nat → Addr) (h : Sent17 w pa) (j : Nat) (hj : j < 17) : Calls Tryz.prog 98 #[.iface 200 (.pointer (some (pa j)))] w fun e w' => e = .returned (.int .i64 (101 + j)) ∧ Fr (fun _ => False) w w' := by
 have hs := sentinels_any w pa h.s
 have HS := hid hs; have HH := hid h
 clear hs h
 go_enter Tryz.func98, Tryz.ntmps98
 go_wp2_with fail
 refine HS.out.mono ?_
 rintro e w' ⟨rfl, rfl⟩
 have hb := heap_alloc_new w (.cells #[.iface 200 (.pointer (some (pa 0))), .iface 200 (.pointer (some (pa 1))), .iface 200 (.pointer (some (pa 2))), .iface 200 (.pointer (some (pa 3))), .iface 200 (.pointer (some (pa 4))), .iface 200 (.pointer (some (pa 5))), .iface 200 (.pointer (some (pa 6))), .iface 200 (.pointer (some (pa 7))), .iface 200 (.pointer (some (pa 8))), .iface 200 (.pointer (some (pa 9))), .iface 200 (.pointer (some (pa 10))), .iface 200 (.pointer (some (pa 11))), .iface 200 (.pointer (some (pa 12))), .iface 200 (.pointer (some (pa 13))), .iface 200 (.pointer (some (pa 14))), .iface 200 (.pointer (some (pa 15))), .iface 200 (.pointer (some (pa 16)))] 27)
 have hF := (Fr.refl (fun _ => False) w).alloc (.cells #[.iface 200 (.pointer (some (pa 0))), .iface 200 (.pointer (some (pa 1))), .iface 200 (.pointer (some (pa 2))), .iface 200 (.pointer (some (pa 3))), .iface 200 (.pointer (some (pa 4))), .iface 200 (.pointer (some (pa 5))), .iface 200 (.pointer (some (pa 6))), .iface 200 (.pointer (some (pa 7))), .iface 200 (.pointer (some (pa 8))), .iface 200 (.pointer (some (pa 9))), .iface 200 (.pointer (some (pa 10))), .iface 200 (.pointer (some (pa 11))), .iface 200 (.pointer (some (pa 12))), .iface 200 (.pointer (some (pa 13))), .iface 200 (.pointer (some (pa 14))), .iface 200 (.pointer (some (pa 15))), .iface 200 (.pointer (some (pa 16)))] 27)
 generalize w.alloc (.cells #[.iface 200 (.pointer (some (pa 0))), .iface 200 (.pointer (some (pa 1))), .iface 200 (.pointer (some (pa 2))), .iface 200 (.pointer (some (pa 3))), .iface 200 (.pointer (some (pa 4))), .iface 200 (.pointer (some (pa 5))), .iface 200 (.pointer (some (pa 6))), .iface 200 (.pointer (some (pa 7))), .iface 200 (.pointer (some (pa 8))), .iface 200 (.pointer (some (pa 9))), .iface 200 (.pointer (some (pa 10))), .iface 200 (.pointer (some (pa 11))), .iface 200 (.pointer (some (pa 12))), .iface 200 (.pointer (some (pa 13))), .iface 200 (.pointer (some (pa 14))), .iface 200 (.pointer (some (pa 15))), .iface 200 (.pointer (some (pa 16)))] 27) = W at *
 have H2 := HH.out.frame hF
 have hg := sent_get pa
 have hce := fun k (hk : k < 17) => (cell_of_row W w.heap.size k _ _ _ hb).trans (hg k hk)
 have HC := hid hce; have HF := hid hF; have H2 := hid H2
 clear hb hF hg hce HS HH
 go_wp2_with fail
 go_loopw [4] (fun i wr => ∃ k : Nat, k ≤ j ∧ i = .int .i64 k ∧ W = wr) (fun i _ => 17 - (intOf i).toNat)
 case atStart => exact ⟨0, Nat.zero_le _, rfl, rfl⟩
 case round =>
  obtain ⟨k, hk, rfl, rfl⟩ := hrel
  have hk17 : k < 17 := by omega
  have hc := HC.out k hk17
  by_cases hkj : k = j
  ·subst hkj
   have ha := alike_same (pa k) W
   have HA := hid ha
   clear ha
   go_wp2_with fail
   refine HA.out.mono ?_
   rintro e w' ⟨rfl, rfl⟩
   go_wp2
   go_ret
   exact ⟨rfl, HF.out⟩
  ·have ha := alike_other (w := W) (H2.out.n j k hj hk17 (Ne.symm hkj)) (H2.out.r j hj) (H2.out.r k hk17)
   have HA := hid ha
   clear ha
   go_wp2_with fail
   refine HA.out.mono ?_
   rintro e w' ⟨rfl, rfl⟩
   go_wp2
   go_roundw
   case rel => exact ⟨k + 1, by omega, by go_num, trivial⟩
   case measure => simp [intOf]; omega
theorem assert_raise (a : Addr) (w : World) : (Instr.typeAssert (.iface 200 (.pointer (some a))) 27 145 true).run Tryz.prog w = .ok (.tuple #[.pointer none, .bool false]) w := by kernel_rfl
theorem assert_at (a : Addr) (w : World) : (Instr.typeAssert (.iface 200 (.pointer (some a))) 27 123 true).run Tryz.prog w = .ok (.tuple #[.pointer none, .bool false]) w := by kernel_rfl
set_option maxHeartbeats 1600000 in
theorem inner_any (w : World) (pa : Nat → Addr) (h : Sent17 w pa) (j : Nat) (hj : j < 17) : Calls Tryz.prog 76 #[.iface 200 (.pointer (some (pa j)))] w fun e w' => e = .returned (bareV (101 + j)) ∧ Fr (fun _ => False) w w' := by
 have HH := hid h
 clear h
 have ht := assert_raise (pa j)
 go_enter Tryz.func76, Tryz.ntmps76
 go_wp2_with fail
 have hF := (Fr.refl (fun _ => False) w).alloc (.cells #[.int .i64 0, .bool false, .int .i64 0, .int .i64 0, .int .i64 0, .string ⟨#[]⟩, .slice none 0 0] 46)
 have hrow := heap_alloc_new w (.cells #[.int .i64 0, .bool false, .int .i64 0, .int .i64 0, .int .i64 0, .string ⟨#[]⟩, .slice none 0 0] 46)
 refine (sentinel_any _ pa (HH.out.frame hF) j hj).mono ?_
 rintro e w2 ⟨rfl, hf2⟩
 have HF := hid (hF.trans' hf2); have HR2 := hid (hf2.heap hrow not_false)
 clear hF hf2 hrow ht
 go_wp2_with fail
 refine (bare_any (101 + j) w2).mono ?_
 rintro e w3 ⟨rfl, hf3⟩
 have HF3 := hid (HF.out.trans' hf3); have HRR := hid (hf3.heap HR2.out not_false)
 clear hf3
 unfold bareV
 have hR := HRR.out
 have x0 : w3.cell? ⟨w.heap.size, 0, none⟩ = some (.int .i64 0) := by rw [cell_of_row _ _ 0 _ _ _ hR]; rfl
 have x1 : w3.cell? ⟨w.heap.size, 1, none⟩ = some (.bool false) := by rw [cell_of_row _ _ 1 _ _ _ hR]; rfl
 have x2 : w3.cell? ⟨w.heap.size, 2, none⟩ = some (.int .i64 0) := by rw [cell_of_row _ _ 2 _ _ _ hR]; rfl
 have x3 : w3.cell? ⟨w.heap.size, 3, none⟩ = some (.int .i64 0) := by rw [cell_of_row _ _ 3 _ _ _ hR]; rfl
 have x4 : w3.cell? ⟨w.heap.size, 4, none⟩ = some (.int .i64 0) := by rw [cell_of_row _ _ 4 _ _ _ hR]; rfl
 have x5 : w3.cell? ⟨w.heap.size, 5, none⟩ = some (.string ⟨#[]⟩) := by rw [cell_of_row _ _ 5 _ _ _ hR]; rfl
 have x6 : w3.cell? ⟨w.heap.size, 6, none⟩ = some (.slice none 0 0) := by rw [cell_of_row _ _ 6 _ _ _ hR]; rfl
 have fz : ∀ i, w3.frozen? ⟨w.heap.size, i, none⟩ = false := fun i => frozen_of_row _ _ i _ _ hR
 clear hR
 go_wp2_with fail
 have hR2 := (setCell_row 6 (.slice none 0 0) (setCell_row 5 (.string ⟨#[]⟩) (setCell_row 4 (.int .i64 0) (setCell_row 3 (.int .i64 0) (setCell_row 2 (.int .i64 0) (setCell_row 1 (.bool false) (setCell_row 0 (.int .i64 (101 + j)) HRR.out)))))))
 simp only [List.setIfInBounds_toArray, List.set_cons_zero, List.set_cons_succ] at hR2
 have hf8 : Fr (fun q => q = w.heap.size) w3 (((((((w3.setCell ⟨w.heap.size, 0, none⟩ (.int .i64 (101 + j))).setCell ⟨w.heap.size, 1, none⟩ (.bool false)).setCell ⟨w.heap.size, 2, none⟩ (.int .i64 0)).setCell ⟨w.heap.size, 3, none⟩ (.int .i64 0)).setCell ⟨w.heap.size, 4, none⟩ (.int .i64 0)).setCell ⟨w.heap.size, 5, none⟩ (.string ⟨#[]⟩)).setCell ⟨w.heap.size, 6, none⟩ (.slice none 0 0)) := ((((((((Fr.refl (fun q => q = w.heap.size) w3).setCell (p := ⟨w.heap.size, 0, none⟩) (.inl rfl) (.int .i64 (101 + j))).setCell (p := ⟨w.heap.size, 1, none⟩) (.inl rfl) (.bool false)).setCell (p := ⟨w.heap.size, 2, none⟩) (.inl rfl) (.int .i64 0)).setCell (p := ⟨w.heap.size, 3, none⟩) (.inl rfl) (.int .i64 0)).setCell (p := ⟨w.heap.size, 4, none⟩) (.inl rfl) (.int .i64 0)).setCell (p := ⟨w.heap.size, 5, none⟩) (.inl rfl) (.string ⟨#[]⟩)).setCell (p := ⟨w.heap.size, 6, none⟩) (.inl rfl) (.slice none 0 0))
 refine bodyPost_ret (results_cell_row rfl _ _ w.heap.size _ _ _ _ rfl hR2 Tryz.underlying46 rfl (by kernel_rfl)) rfl ?_
 exact ⟨rfl, HF3.out.trans hf8 (fun _ _ => id) (fun q hq e => by omega)⟩
set_option maxHeartbeats 1600000 in
theorem fault_any (w : World) (pa : Nat → Addr) (h : Sent17 w pa) (j : Nat) (hj : j < 17) : Calls Tryz.prog 45 #[.iface 200 (.pointer (some (pa j)))] w fun e w' => e = .returned (bareV (101 + j)) ∧ Fr (fun _ => False) w w' := by
 have HH := hid h
 clear h
 have ht := assert_at (pa j)
 go_enter Tryz.func45, Tryz.ntmps45
 go_wp2_with fail
 have hF := (Fr.refl (fun _ => False) w).alloc (.cells #[.int .i64 0, .bool false, .int .i64 0, .int .i64 0, .int .i64 0, .string ⟨#[]⟩, .slice none 0 0] 46)
 have hrow := heap_alloc_new w (.cells #[.int .i64 0, .bool false, .int .i64 0, .int .i64 0, .int .i64 0, .string ⟨#[]⟩, .slice none 0 0] 46)
 refine (inner_any _ pa (HH.out.frame hF) j hj).mono ?_
 rintro e w3 ⟨rfl, hf3⟩
 have HF3 := hid (hF.trans' hf3); have HRR := hid (hf3.heap hrow not_false)
 clear hF hf3 hrow ht
 unfold bareV
 have hR := HRR.out
 have x0 : w3.cell? ⟨w.heap.size, 0, none⟩ = some (.int .i64 0) := by rw [cell_of_row _ _ 0 _ _ _ hR]; rfl
 have x1 : w3.cell? ⟨w.heap.size, 1, none⟩ = some (.bool false) := by rw [cell_of_row _ _ 1 _ _ _ hR]; rfl
 have x2 : w3.cell? ⟨w.heap.size, 2, none⟩ = some (.int .i64 0) := by rw [cell_of_row _ _ 2 _ _ _ hR]; rfl
 have x3 : w3.cell? ⟨w.heap.size, 3, none⟩ = some (.int .i64 0) := by rw [cell_of_row _ _ 3 _ _ _ hR]; rfl
 have x4 : w3.cell? ⟨w.heap.size, 4, none⟩ = some (.int .i64 0) := by rw [cell_of_row _ _ 4 _ _ _ hR]; rfl
 have x5 : w3.cell? ⟨w.heap.size, 5, none⟩ = some (.string ⟨#[]⟩) := by rw [cell_of_row _ _ 5 _ _ _ hR]; rfl
 have x6 : w3.cell? ⟨w.heap.size, 6, none⟩ = some (.slice none 0 0) := by rw [cell_of_row _ _ 6 _ _ _ hR]; rfl
 have fz : ∀ i, w3.frozen? ⟨w.heap.size, i, none⟩ = false := fun i => frozen_of_row _ _ i _ _ hR
 clear hR
 go_wp2_with fail
 have hR2 := (setCell_row 6 (.slice none 0 0) (setCell_row 5 (.string ⟨#[]⟩) (setCell_row 4 (.int .i64 0) (setCell_row 3 (.int .i64 0) (setCell_row 2 (.int .i64 0) (setCell_row 1 (.bool false) (setCell_row 0 (.int .i64 (101 + j)) HRR.out)))))))
 simp only [List.setIfInBounds_toArray, List.set_cons_zero, List.set_cons_succ] at hR2
 have hf8 : Fr (fun q => q = w.heap.size) w3 (((((((w3.setCell ⟨w.heap.size, 0, none⟩ (.int .i64 (101 + j))).setCell ⟨w.heap.size, 1, none⟩ (.bool false)).setCell ⟨w.heap.size, 2, none⟩ (.int .i64 0)).setCell ⟨w.heap.size, 3, none⟩ (.int .i64 0)).setCell ⟨w.heap.size, 4, none⟩ (.int .i64 0)).setCell ⟨w.heap.size, 5, none⟩ (.string ⟨#[]⟩)).setCell ⟨w.heap.size, 6, none⟩ (.slice none 0 0)) := ((((((((Fr.refl (fun q => q = w.heap.size) w3).setCell (p := ⟨w.heap.size, 0, none⟩) (.inl rfl) (.int .i64 (101 + j))).setCell (p := ⟨w.heap.size, 1, none⟩) (.inl rfl) (.bool false)).setCell (p := ⟨w.heap.size, 2, none⟩) (.inl rfl) (.int .i64 0)).setCell (p := ⟨w.heap.size, 3, none⟩) (.inl rfl) (.int .i64 0)).setCell (p := ⟨w.heap.size, 4, none⟩) (.inl rfl) (.int .i64 0)).setCell (p := ⟨w.heap.size, 5, none⟩) (.inl rfl) (.string ⟨#[]⟩)).setCell (p := ⟨w.heap.size, 6, none⟩) (.inl rfl) (.slice none 0 0))
 refine bodyPost_ret (results_cell_row rfl _ _ w.heap.size _ _ _ _ rfl hR2 Tryz.underlying46 rfl (by kernel_rfl)) rfl ?_
 exact ⟨rfl, HF3.out.trans hf8 (fun _ _ => id) (fun q hq e => by omega)⟩
set_option maxHeartbeats 1600000 in
theorem fault_nil (w : World) : Calls Tryz.prog 45 #[.nilIface] w fun e w' => e = .returned (bareV 0) ∧ Fr (fun _ => False) w w' := by
 go_enter Tryz.func45, Tryz.ntmps45
 go_wp2_with fail
 have hF := (Fr.refl (fun _ => False) w).alloc (.cells #[.int .i64 0, .bool false, .int .i64 0, .int .i64 0, .int .i64 0, .string ⟨#[]⟩, .slice none 0 0] 46)
 have hrow := heap_alloc_new w (.cells #[.int .i64 0, .bool false, .int .i64 0, .int .i64 0, .int .i64 0, .string ⟨#[]⟩, .slice none 0 0] 46)
 refine (none_any _).mono ?_
 rintro e w3 ⟨rfl, hf3⟩
 have HF3 := hid (hF.trans' hf3); have HRR := hid (hf3.heap hrow not_false)
 clear hF hf3 hrow
 unfold bareV
 have hR := HRR.out
 have x0 : w3.cell? ⟨w.heap.size, 0, none⟩ = some (.int .i64 0) := by rw [cell_of_row _ _ 0 _ _ _ hR]; rfl
 have x1 : w3.cell? ⟨w.heap.size, 1, none⟩ = some (.bool false) := by rw [cell_of_row _ _ 1 _ _ _ hR]; rfl
 have x2 : w3.cell? ⟨w.heap.size, 2, none⟩ = some (.int .i64 0) := by rw [cell_of_row _ _ 2 _ _ _ hR]; rfl
 have x3 : w3.cell? ⟨w.heap.size, 3, none⟩ = some (.int .i64 0) := by rw [cell_of_row _ _ 3 _ _ _ hR]; rfl
 have x4 : w3.cell? ⟨w.heap.size, 4, none⟩ = some (.int .i64 0) := by rw [cell_of_row _ _ 4 _ _ _ hR]; rfl
 have x5 : w3.cell? ⟨w.heap.size, 5, none⟩ = some (.string ⟨#[]⟩) := by rw [cell_of_row _ _ 5 _ _ _ hR]; rfl
 have x6 : w3.cell? ⟨w.heap.size, 6, none⟩ = some (.slice none 0 0) := by rw [cell_of_row _ _ 6 _ _ _ hR]; rfl
 have fz : ∀ i, w3.frozen? ⟨w.heap.size, i, none⟩ = false := fun i => frozen_of_row _ _ i _ _ hR
 clear hR
 go_wp2_with fail
 have hR2 := (setCell_row 6 (.slice none 0 0) (setCell_row 5 (.string ⟨#[]⟩) (setCell_row 4 (.int .i64 0) (setCell_row 3 (.int .i64 0) (setCell_row 2 (.int .i64 0) (setCell_row 1 (.bool false) (setCell_row 0 (.int .i64 0) HRR.out)))))))
 simp only [List.setIfInBounds_toArray, List.set_cons_zero, List.set_cons_succ] at hR2
 have hf8 : Fr (fun q => q = w.heap.size) w3 (((((((w3.setCell ⟨w.heap.size, 0, none⟩ (.int .i64 0)).setCell ⟨w.heap.size, 1, none⟩ (.bool false)).setCell ⟨w.heap.size, 2, none⟩ (.int .i64 0)).setCell ⟨w.heap.size, 3, none⟩ (.int .i64 0)).setCell ⟨w.heap.size, 4, none⟩ (.int .i64 0)).setCell ⟨w.heap.size, 5, none⟩ (.string ⟨#[]⟩)).setCell ⟨w.heap.size, 6, none⟩ (.slice none 0 0)) := ((((((((Fr.refl (fun q => q = w.heap.size) w3).setCell (p := ⟨w.heap.size, 0, none⟩) (.inl rfl) (.int .i64 0)).setCell (p := ⟨w.heap.size, 1, none⟩) (.inl rfl) (.bool false)).setCell (p := ⟨w.heap.size, 2, none⟩) (.inl rfl) (.int .i64 0)).setCell (p := ⟨w.heap.size, 3, none⟩) (.inl rfl) (.int .i64 0)).setCell (p := ⟨w.heap.size, 4, none⟩) (.inl rfl) (.int .i64 0)).setCell (p := ⟨w.heap.size, 5, none⟩) (.inl rfl) (.string ⟨#[]⟩)).setCell (p := ⟨w.heap.size, 6, none⟩) (.inl rfl) (.slice none 0 0))
 refine bodyPost_ret (results_cell_row rfl _ _ w.heap.size _ _ _ _ rfl hR2 Tryz.underlying46 rfl (by kernel_rfl)) rfl ?_
 exact ⟨rfl, HF3.out.trans hf8 (fun _ _ => id) (fun q hq e => by omega)⟩
set_option maxHeartbeats 1600000 in
theorem seesame_num (w : World) (e : Value) (m c : Int) (hf : ∀ w', Fr (fun _ => False) w w' → Calls Tryz.prog 45 #[e] w' fun x w'' => x = .returned (bareV m) ∧ Fr (fun _ => False) w' w'') :
  Calls Tryz.prog 20 #[e, bareV c] w fun x w' => x = .returned (.bool (decide (m = c))) ∧ Fr (fun _ => False) w w' := by
 have HC := hid hf
 clear hf
 have hb := heap_alloc_new w (.cells #[.int .i64 c, .bool false, .int .i64 0, .int .i64 0, .int .i64 0, .string ⟨#[]⟩, .slice none 0 0] 46)
 have hF := (Fr.refl (fun _ => False) w).alloc (.cells #[.int .i64 c, .bool false, .int .i64 0, .int .i64 0, .int .i64 0, .string ⟨#[]⟩, .slice none 0 0] 46)
 have hsf := fun w' => samefault_num m c w'
 have HSF := hid hsf
 clear hsf
 unfold bareV at HC HSF ⊢
 go_enter Tryz.func20, Tryz.ntmps20
 go_upto_region 1 with fail
 generalize w.alloc (.cells #[.int .i64 c, .bool false, .int .i64 0, .int .i64 0, .int .i64 0, .string ⟨#[]⟩, .slice none 0 0] 46) = W at *
 have HF := hid hF
 clear hF
 refine wp_region_cls (fun w' => Fr (fun _ => False) W w') (by kernel_rfl) (by kernel_rfl) (Fr.refl _ _).drew ?_
 (refine q_take ?_ (by kernel_rfl) ?_ ?_; rotate_left; (· intro w' hS; go_simp; try with_reducible rfl); (try simp only [Act.put, List.setIfInBounds_toArray, List.set_cons_zero, List.set_cons_succ]))
 (refine q_call ?_ ?_ (by kernel_rfl) ?_ ?_; rotate_left 2; (· intro w' hS; go_simp; first | with_reducible rfl | (constructor <;> with_reducible rfl)); (refine ⟨_, fun w' hw => (HC.out w' (HF.out.trans' hw)).mono fun _ _ h => ⟨h.1, hw.trans' h.2⟩, ?_⟩); (try simp only [Act.put, List.setIfInBounds_toArray, List.set_cons_zero, List.set_cons_succ]))
 (refine q_load (by kernel_rfl) rfl rfl (fun w' hw => Fr.heap hw hb not_false) (by kernel_rfl) (by kernel_rfl) ?_; (try simp only [Act.put, List.setIfInBounds_toArray, List.set_cons_zero, List.set_cons_succ]))
 (refine q_call ?_ ?_ (by kernel_rfl) ?_ ?_; rotate_left 2; (· intro w' hS; go_simp; first | with_reducible rfl | (constructor <;> with_reducible rfl)); (refine ⟨_, fun w' hw => (HSF.out w').mono fun _ _ h => ⟨h.1, hw.trans' h.2⟩, ?_⟩); (try simp only [Act.put, List.setIfInBounds_toArray, List.set_cons_zero, List.set_cons_succ]))
 (refine q_take ?_ (by kernel_rfl) ?_ ?_; rotate_left; (· intro w' hS; go_simp; try with_reducible rfl); (try simp only [Act.put, List.setIfInBounds_toArray, List.set_cons_zero, List.set_cons_succ]))
 refine q_end (fun W6 hw => ?_)
 have HW := hid (HF.out.trans' hw)
 clear hw
 go_wp2
 go_ret
 exact ⟨rfl, HW.out⟩
set_option maxHeartbeats 1600000 in
theorem seeis_num (w : World) (e : Value) (m c : Int) (hf : ∀ w', Fr (fun _ => False) w w' → Calls Tryz.prog 45 #[e] w' fun x w'' => x = .returned (bareV m) ∧ Fr (fun _ => False) w' w'') :
  Calls Tryz.prog 17 #[e, .int .i64 c] w fun x w' => x = .returned (.bool (decide (m = c))) ∧ Fr (fun _ => False) w w' := by
 have HC := hid hf
 clear hf
 go_enter Tryz.func17, Tryz.ntmps17
 go_wp2_with fail
 refine (bare_any c w).mono ?_
 rintro x w2 ⟨rfl, hf2⟩
 have hs := seesame_num w2 e m c fun w' hw => HC.out w' (hf2.trans' hw)
 have HS := hid hs; have HF2 := hid hf2
 clear hs hf2
 unfold bareV at HS ⊢
 go_wp2_with fail
 refine HS.out.mono ?_
 rintro x w3 ⟨rfl, hf3⟩
 have HF3 := hid (HF2.out.trans' hf3)
 clear hf3
 go_wp2
 go_ret
 exact ⟨rfl, HF3.out⟩
def errV (pa : Nat → Addr) (m : Nat) : Value := if m = 0 then .nilIface else .iface 200 (.pointer (some (pa (m - 101))))
def ErrNo (m : Nat) : Prop := m = 0 ∨ 101 ≤ m ∧ m ≤ 117
theorem is_num (w : World) (pa : Nat → Addr) (h : Sent17 w pa) (m : Nat) (hm : ErrNo m) (c : Int) : Calls Tryz.prog 17 #[errV pa m, .int .i64 c] w fun x w' => x = .returned (.bool (decide ((m : Int) = c))) ∧ Fr (fun _ => False) w w' := by
 rcases hm with rfl | ⟨h1, h2⟩
 ·exact seeis_num w _ 0 c fun w' _ => fault_nil w'
 ·unfold errV
  rw [if_neg (by omega)]
  refine seeis_num w _ m c fun w' hw => ?_
  have := fault_any w' pa (h.frame hw) (m - 101) (by omega)
  rw [show (101 + ((m - 101 : Nat) : Int)) = (m : Int) by omega] at this
  exact this
end
end Go.Proofs.YtbegahbagnflnaaGreatDoor
