/- RefOdd, VPrint, VOwnErr: several texts in one: a claim has at most 60 files -/
import Derived.Test.YtbegahbagnflnaaDoorMa04
import Derived.Test.YtbegahbagnflnaaDoorMa03
import Derived.StillTailTactics
import Derived.Deep.CutRange
import Derived.Deep.CutBlock
set_option linter.unusedSimpArgs false
set_option linter.unusedVariables false
set_option linter.unnecessarySimpa false
namespace Go.Proofs.YtbegahbagnflnaaDoor
section
open Go.RowKit

def oddRange (k n : Int) : Bool := decide (k < 0) || decide (4 < k) || (k == 1 && (decide (n < -2147483648) || decide (2147483647 < n))) || (k == 3 && (decide (n < 0) || decide (14 < n)))
def oddShape (k n : Int) (s : ByteArray) (e : Bool) : Bool := (!(k == 0 || k == 1 || k == 3) && n != 0) || (k != 2 && s.size != 0) || (k != 4 && !e) || !printed s
def oddSize (k : Int) (s : ByteArray) (sz : Nat) : Nat := sz + 1 + (if k = 2 then s.size else 0)
mutual
def V.odd : V → Nat → Nat → Int × Nat
  | .mk k n s l, deep, sz => if 40 < deep then (112, sz) else if 4096 < oddSize k s sz then (104, oddSize k s sz) else
    if oddRange k n then (105, oddSize k s sz) else if oddShape k n s l.isEmpty then (103, oddSize k s sz) else oddL l (deep + 1) (oddSize k s sz)
def oddL : List V → Nat → Nat → Int × Nat
  | [], _, sz => (0, sz)
  | x :: r, deep, sz => if (V.odd x deep sz).1 = 0 then oddL r deep (V.odd x deep sz).2 else V.odd x deep sz
end
theorem wrap64 (n : Int) (h1 : -9223372036854775808 ≤ n) (h2 : n ≤ 9223372036854775807) : IntKind.i64.wrap n = n := by simp [IntKind.wrap, IntKind.signed, IntKind.bits]; omega
theorem str_isEmpty (s : ByteArray) : (!s.toList.isEmpty) = (s.size != 0) := by
  have h : s.toList.length = s.size := by rw [ByteArray.toList_eq]; simp
  cases hl : s.toList with
  | nil => rw [hl] at h; simp at h; simp [← h]
  | cons x r => rw [hl] at h; simp at h; simp [← h]
theorem len_pos (l : List V) : decide ((0 : Int) < l.length) = !l.isEmpty := by cases l <;> simp <;> omega
/-- What one call of odd leaves: the block B of the walk holds the new sum. -/
def OddPost (B : Nat) (w : World) (r : Int × Nat) (e : Ending) (w' : World) : Prop :=
  e = .returned (.int .i64 r.1) ∧ Fr (fun b => b = B) w w' ∧ w'.heap[B]? = some (.cells #[.int .i64 r.2] 148)

end
section
open Go.RowKit

set_option maxHeartbeats 800000 in
theorem vprintable_any (s : ByteArray) (hs : s.size ≤ 1099511627776) (w : World) : Calls Tryd.prog 125 #[.string s] w fun e w' => e = .returned (.bool (printed s)) ∧ w = w' := by
  go_enter Tryd.func125, Tryd.ntmps125
  go_wp2
  go_loopw [6] (fun i wr => ∃ k : Nat, k ≤ s.size ∧ i = .int .i64 k ∧ w = wr ∧ ∀ j, j < k → 32 ≤ (s.data.toList.getD j 0).toNat ∧ (s.data.toList.getD j 0).toNat ≤ 126) (fun i _ => s.size - (intOf i).toNat)
  case atStart => exact ⟨0, Nat.zero_le _, rfl, rfl, fun j hj => by omega⟩
  case round =>
    obtain ⟨k, hk, rfl, rfl, hall⟩ := hrel
    by_cases hlt : k < s.size
    · have hbk : (s.data.toList.getD k 0).toNat = s[k].toNat := by
        have : k < s.data.toList.length := by simpa using hlt
        simp [List.getD, hlt]; rfl
      go_wp2_with fail
      all_goals first
        | (go_ret; exact ⟨congrArg (fun b => Ending.returned (.bool b)) (printed_false k hlt (by omega)).symm, rfl⟩)
        | exact ⟨⟨k + 1, by omega, by go_num, trivial, all_step hall (by omega)⟩, by simp [intOf]; omega⟩
        | (go_roundw <;> first | exact ⟨k + 1, by omega, by go_num, rfl, all_step hall (by omega)⟩ | (simp [intOf]; omega))
    · go_wp2
      go_ret
      exact ⟨congrArg (fun b => Ending.returned (.bool b)) (printed_true fun j hj => hall j (by omega)).symm, rfl⟩
end
section
open Go.RowKit

/-- The four errors lie in their variables. -/
structure Errs (w : World) (eD eM eR eS : Value) : Prop where
  d : w.cell? ⟨3, 0, none⟩ = some eD
  m : w.cell? ⟨2, 0, none⟩ = some eM
  r : w.cell? ⟨6, 0, none⟩ = some eR
  s : w.cell? ⟨0, 0, none⟩ = some eS
theorem Errs.frame {w w' : World} {eD eM eR eS : Value} (h : Errs w eD eM eR eS) {S : Nat → Prop} (hf : Fr S w w') (hS : ∀ k, k < 7 → ¬ S k) : Errs w' eD eM eR eS :=
  ⟨hf.cell h.d (hS 3 (by decide)), hf.cell h.m (hS 2 (by decide)), hf.cell h.r (hS 6 (by decide)), hf.cell h.s (hS 0 (by decide))⟩
/-- The error of a number. -/
def ev (eD eM eR eS : Value) (n : Int) : Value := if n = 0 then .nilIface else if n = 112 then eD else if n = 104 then eM else if n = 105 then eR else eS
def ownShape (k n : Int) (s : ByteArray) (e : Bool) : Bool := (k != 2 && s.size != 0) || (k != 4 && !e) || ((k == 2 || k == 4) && n != 0)
def ownCode (k n : Int) (s : ByteArray) (e : Bool) : Int := if oddRange k n then 105 else if ownShape k n s e then 103 else if printed s then 0 else 103

set_option maxHeartbeats 3200000 in
theorem vown_any (x : V) (D : Nat → Prop) (w : World) (u : Array Value) (h : VIn D w x u) (hsm : x.s.size ≤ 1099511627776) (eD eM eR eS : Value) (he : Errs w eD eM eR eS) :
    Calls Tryd.prog 120 #[.agg u] w fun e w' => e = .returned (ev eD eM eR eS (ownCode x.k x.n x.s x.l.isEmpty)) ∧ Fr (fun _ => False) w w' := by
  obtain ⟨v, rfl, a, cap, us, rfl, hc, hm, hn, hb, hi⟩ := h.open
  have hlm : x.l.length ≤ 9223372036854775807 := Nat.le_trans hc hm
  clear h hb hi hn
  generalize x.k = kk at *
  generalize x.n = nn at *
  generalize x.s = ss at *
  generalize x.l = l at *
  obtain ⟨r, hr⟩ : ∃ r, r = ownCode kk nn ss l.isEmpty := ⟨_, rfl⟩
  rw [← hr]
  have hF : Fr (fun _ => False) w (w.alloc (.cells #[.int .i64 kk, .int .i64 nn, .string ss, .slice a l.length cap] 34)) := (Fr.refl _ _).alloc _
  have hbx : (w.alloc (.cells #[.int .i64 kk, .int .i64 nn, .string ss, .slice a l.length cap] 34)).heap[w.heap.size]? = some (.cells #[.int .i64 kk, .int .i64 nn, .string ss, .slice a l.length cap] 34) := heap_alloc_new w _
  have g2 := hF.cell he.r not_false
  have g3 := hF.cell he.s not_false
  have d0 : (w.alloc (.cells #[.int .i64 kk, .int .i64 nn, .string ss, .slice a l.length cap] 34)).cell? ⟨w.heap.size, 0, none⟩ = some (.int .i64 kk) := by rw [cell_of_row _ _ 0 _ _ _ hbx]; rfl
  have d1 : (w.alloc (.cells #[.int .i64 kk, .int .i64 nn, .string ss, .slice a l.length cap] 34)).cell? ⟨w.heap.size, 1, none⟩ = some (.int .i64 nn) := by rw [cell_of_row _ _ 1 _ _ _ hbx]; rfl
  have d2 : (w.alloc (.cells #[.int .i64 kk, .int .i64 nn, .string ss, .slice a l.length cap] 34)).cell? ⟨w.heap.size, 2, none⟩ = some (.string ss) := by rw [cell_of_row _ _ 2 _ _ _ hbx]; rfl
  have d3 : (w.alloc (.cells #[.int .i64 kk, .int .i64 nn, .string ss, .slice a l.length cap] 34)).cell? ⟨w.heap.size, 3, none⟩ = some (.slice a l.length cap) := by rw [cell_of_row _ _ 3 _ _ _ hbx]; rfl
  have HF := hid hF; have HR := hid hr
  clear hF hbx hr he
  by_cases er : oddRange kk nn = true
  · have hr : r = 105 := by rw [HR.out, ownCode, if_pos er]
    have hk : kk < 0 ∨ 4 < kk ∨ (kk = 1 ∧ nn < -2147483648) ∨ (kk = 1 ∧ 2147483647 < nn) ∨ (kk = 3 ∧ nn < 0) ∨ (kk = 3 ∧ 14 < nn) := by
      simp [oddRange] at er
      omega
    clear er HR
    subst hr
    rcases hk with h | h | ⟨rfl, h⟩ | ⟨rfl, h⟩ | ⟨rfl, h⟩ | ⟨rfl, h⟩
    all_goals (go_enter Tryd.func120, Tryd.ntmps120; go_wp2; go_ret; exact ⟨rfl, HF.out⟩)
  have hk0 : 0 ≤ kk ∧ kk ≤ 4 ∧ (kk = 1 → -2147483648 ≤ nn ∧ nn ≤ 2147483647) ∧ (kk = 3 → 0 ≤ nn ∧ nn ≤ 14) := by
    simp [oddRange] at er
    omega
  obtain ⟨k0, k4, k1, k3⟩ := hk0
  have hr : r = if ownShape kk nn ss l.isEmpty then 103 else if printed ss then 0 else 103 := by rw [HR.out, ownCode, if_neg er]
  have HR' := hid hr
  clear er HR hr
  go_enter Tryd.func120, Tryd.ntmps120
  go_upto_region 3 with fail
  generalize w.alloc (.cells #[.int .i64 kk, .int .i64 nn, .string ss, .slice a l.length cap] 34) = wc0 at *
  go_cut [13] from 14 to 26 (fun c wx => c = .bool false ∧ wx = wc0)
  case first =>
    by_cases h1 : kk = 1
    · obtain ⟨k1a, k1b⟩ := k1 h1
      subst h1
      go_wp2_with fail
      go_meet
      exact ⟨by simp; omega, rfl⟩
    · have q1 : (kk == 1) = false := by simpa using h1
      go_wp2_with fail
      go_meet
      exact ⟨rfl, rfl⟩
  case rest =>
  obtain ⟨rfl, rfl⟩ := hcut
  go_upto_region 5 with fail
  go_cut [28] from 29 to 41 (fun c wx => c = .bool false ∧ wx = wc)
  case first =>
    by_cases h1 : kk = 3
    · obtain ⟨k1a, k1b⟩ := k3 h1
      subst h1
      go_wp2_with fail
      go_meet
      exact ⟨by simp; omega, rfl⟩
    · have q1 : (kk == 3) = false := by simpa using h1
      go_wp2_with fail
      go_meet
      exact ⟨rfl, rfl⟩
  case rest =>
  obtain ⟨rfl, rfl⟩ := hcut
  go_upto_region 7 with fail
  go_cut [43] from 44 to 77 (fun c wx => c = .bool (ownShape kk nn ss l.isEmpty) ∧ wx = wc)
  case first =>
    refine wp_region_cls0 (fun w' => w' = wc) rfl ?_
    (refine q_take (.pointer (some ⟨w.heap.size, 0, none⟩)) (by rfl) ?_ ?_; (· intro w' hS; cases hS; (go_simp; try rfl)); (try simp only [Act.put, List.setIfInBounds_toArray, List.set_cons_zero, List.set_cons_succ]))
    (refine q_take (.int .i64 kk) (by rfl) ?_ ?_; (· intro w' hS; cases hS; (go_simp; try rfl)); (try simp only [Act.put, List.setIfInBounds_toArray, List.set_cons_zero, List.set_cons_succ]))
    (refine q_take (.bool (kk != 2)) (by rfl) ?_ ?_; (· intro w' hS; cases hS; (go_simp; try rfl)); (try simp only [Act.put, List.setIfInBounds_toArray, List.set_cons_zero, List.set_cons_succ]))
    generalize hc2 : (kk != 2) = c2
    (refine q_take (.bool c2) (by rfl) ?_ ?_; (· intro w' hS; cases hS; (go_simp; try rfl)); (try simp only [Act.put, List.setIfInBounds_toArray, List.set_cons_zero, List.set_cons_succ]))
    (refine q_sym (c2) (.pointer (some ⟨w.heap.size, 2, none⟩)) (by cases c2 <;> rfl) ?_ ?_; (· intro hc w' hS; cases hS; revert hc; cases c2 <;> intro hc <;> first | (cases hc; done) | (go_simp; try rfl)); (try simp only [Act.put, List.setIfInBounds_toArray, List.set_cons_zero, List.set_cons_succ]))
    (refine q_sym (c2) (.string ss) (by cases c2 <;> rfl) ?_ ?_; (· intro hc w' hS; cases hS; revert hc; cases c2 <;> intro hc <;> first | (cases hc; done) | (go_simp; try rfl)); (try simp only [Act.put, List.setIfInBounds_toArray, List.set_cons_zero, List.set_cons_succ]))
    (refine q_sym (c2) (.bool (!ss.toList.isEmpty)) (by cases c2 <;> rfl) ?_ ?_; (· intro hc w' hS; cases hS; revert hc; cases c2 <;> intro hc <;> first | (cases hc; done) | (go_simp; try rfl)); (try simp only [Act.put, List.setIfInBounds_toArray, List.set_cons_zero, List.set_cons_succ]))
    generalize hs0 : (!ss.toList.isEmpty) = s0
    (refine q_take (.bool (c2 && s0)) (by rfl) ?_ ?_; (· intro w' hS; cases hS; cases c2 <;> cases s0 <;> (go_simp; try rfl)); (try simp only [Act.put, List.setIfInBounds_toArray, List.set_cons_zero, List.set_cons_succ]))
    generalize hA : (c2 && s0) = A
    (refine q_take (.bool A) (by rfl) ?_ ?_; (· intro w' hS; cases hS; (go_simp; try rfl)); (try simp only [Act.put, List.setIfInBounds_toArray, List.set_cons_zero, List.set_cons_succ]))
    (refine q_sym (!A) (.pointer (some ⟨w.heap.size, 0, none⟩)) (by cases A <;> rfl) ?_ ?_; (· intro hc w' hS; cases hS; revert hc; cases A <;> intro hc <;> first | (cases hc; done) | (go_simp; try rfl)); (try simp only [Act.put, List.setIfInBounds_toArray, List.set_cons_zero, List.set_cons_succ]))
    (refine q_sym (!A) (.int .i64 kk) (by cases A <;> rfl) ?_ ?_; (· intro hc w' hS; cases hS; revert hc; cases A <;> intro hc <;> first | (cases hc; done) | (go_simp; try rfl)); (try simp only [Act.put, List.setIfInBounds_toArray, List.set_cons_zero, List.set_cons_succ]))
    (refine q_sym (!A) (.bool (kk != 4)) (by cases A <;> rfl) ?_ ?_; (· intro hc w' hS; cases hS; revert hc; cases A <;> intro hc <;> first | (cases hc; done) | (go_simp; try rfl)); (try simp only [Act.put, List.setIfInBounds_toArray, List.set_cons_zero, List.set_cons_succ]))
    generalize hc4 : (kk != 4) = c4
    (refine q_sym (!A) (.bool c4) (by cases A <;> rfl) ?_ ?_; (· intro hc w' hS; cases hS; revert hc; cases A <;> intro hc <;> first | (cases hc; done) | (go_simp; try rfl)); (try simp only [Act.put, List.setIfInBounds_toArray, List.set_cons_zero, List.set_cons_succ]))
    (refine q_sym (!A && c4) (.pointer (some ⟨w.heap.size, 3, none⟩)) (by cases A <;> cases c4 <;> rfl) ?_ ?_; (· intro hc w' hS; cases hS; revert hc; cases A <;> cases c4 <;> intro hc <;> first | (cases hc; done) | (go_simp; try rfl)); (try simp only [Act.put, List.setIfInBounds_toArray, List.set_cons_zero, List.set_cons_succ]))
    (refine q_sym (!A && c4) (.slice a l.length cap) (by cases A <;> cases c4 <;> rfl) ?_ ?_; (· intro hc w' hS; cases hS; revert hc; cases A <;> cases c4 <;> intro hc <;> first | (cases hc; done) | (go_simp; try rfl)); (try simp only [Act.put, List.setIfInBounds_toArray, List.set_cons_zero, List.set_cons_succ]))
    (refine q_sym (!A && c4) (.int .i64 l.length) (by cases A <;> cases c4 <;> rfl) ?_ ?_; (· intro hc w' hS; cases hS; revert hc; cases A <;> cases c4 <;> intro hc <;> first | (cases hc; done) | (go_simp; try rfl)); (try simp only [Act.put, List.setIfInBounds_toArray, List.set_cons_zero, List.set_cons_succ]))
    (refine q_sym (!A && c4) (.bool (decide ((0 : Int) < l.length))) (by cases A <;> cases c4 <;> rfl) ?_ ?_; (· intro hc w' hS; cases hS; revert hc; cases A <;> cases c4 <;> intro hc <;> first | (cases hc; done) | (go_simp; try rfl)); (try simp only [Act.put, List.setIfInBounds_toArray, List.set_cons_zero, List.set_cons_succ]))
    generalize hl0 : decide ((0 : Int) < l.length) = l0
    (refine q_sym (!A) (.bool (c4 && l0)) (by cases A <;> cases c4 <;> cases l0 <;> rfl) ?_ ?_; (· intro hc w' hS; cases hS; revert hc; cases A <;> cases c4 <;> cases l0 <;> intro hc <;> first | (cases hc; done) | (go_simp; try rfl)); (try simp only [Act.put, List.setIfInBounds_toArray, List.set_cons_zero, List.set_cons_succ]))
    (refine q_take (.bool (A || (c4 && l0))) (by rfl) ?_ ?_; (· intro w' hS; cases hS; cases A <;> cases c4 <;> cases l0 <;> (go_simp; try rfl)); (try simp only [Act.put, List.setIfInBounds_toArray, List.set_cons_zero, List.set_cons_succ]))
    generalize hB : (A || (c4 && l0)) = Bv
    (refine q_take (.bool Bv) (by rfl) ?_ ?_; (· intro w' hS; cases hS; (go_simp; try rfl)); (try simp only [Act.put, List.setIfInBounds_toArray, List.set_cons_zero, List.set_cons_succ]))
    (refine q_sym (!Bv) (.pointer (some ⟨w.heap.size, 0, none⟩)) (by cases Bv <;> rfl) ?_ ?_; (· intro hc w' hS; cases hS; revert hc; cases Bv <;> intro hc <;> first | (cases hc; done) | (go_simp; try rfl)); (try simp only [Act.put, List.setIfInBounds_toArray, List.set_cons_zero, List.set_cons_succ]))
    (refine q_sym (!Bv) (.int .i64 kk) (by cases Bv <;> rfl) ?_ ?_; (· intro hc w' hS; cases hS; revert hc; cases Bv <;> intro hc <;> first | (cases hc; done) | (go_simp; try rfl)); (try simp only [Act.put, List.setIfInBounds_toArray, List.set_cons_zero, List.set_cons_succ]))
    (refine q_sym (!Bv) (.bool (kk == 2)) (by cases Bv <;> rfl) ?_ ?_; (· intro hc w' hS; cases hS; revert hc; cases Bv <;> intro hc <;> first | (cases hc; done) | (go_simp; try rfl)); (try simp only [Act.put, List.setIfInBounds_toArray, List.set_cons_zero, List.set_cons_succ]))
    generalize he2 : (kk == 2) = e2
    (refine q_sym (!Bv) (.bool e2) (by cases Bv <;> rfl) ?_ ?_; (· intro hc w' hS; cases hS; revert hc; cases Bv <;> intro hc <;> first | (cases hc; done) | (go_simp; try rfl)); (try simp only [Act.put, List.setIfInBounds_toArray, List.set_cons_zero, List.set_cons_succ]))
    (refine q_sym (!Bv && !e2) (.pointer (some ⟨w.heap.size, 0, none⟩)) (by cases Bv <;> cases e2 <;> rfl) ?_ ?_; (· intro hc w' hS; cases hS; revert hc; cases Bv <;> cases e2 <;> intro hc <;> first | (cases hc; done) | (go_simp; try rfl)); (try simp only [Act.put, List.setIfInBounds_toArray, List.set_cons_zero, List.set_cons_succ]))
    (refine q_sym (!Bv && !e2) (.int .i64 kk) (by cases Bv <;> cases e2 <;> rfl) ?_ ?_; (· intro hc w' hS; cases hS; revert hc; cases Bv <;> cases e2 <;> intro hc <;> first | (cases hc; done) | (go_simp; try rfl)); (try simp only [Act.put, List.setIfInBounds_toArray, List.set_cons_zero, List.set_cons_succ]))
    (refine q_sym (!Bv && !e2) (.bool (kk == 4)) (by cases Bv <;> cases e2 <;> rfl) ?_ ?_; (· intro hc w' hS; cases hS; revert hc; cases Bv <;> cases e2 <;> intro hc <;> first | (cases hc; done) | (go_simp; try rfl)); (try simp only [Act.put, List.setIfInBounds_toArray, List.set_cons_zero, List.set_cons_succ]))
    generalize he4 : (kk == 4) = e4
    (refine q_sym (!Bv) (.bool (e2 || e4)) (by cases Bv <;> cases e2 <;> cases e4 <;> rfl) ?_ ?_; (· intro hc w' hS; cases hS; revert hc; cases Bv <;> cases e2 <;> cases e4 <;> intro hc <;> first | (cases hc; done) | (go_simp; try rfl)); (try simp only [Act.put, List.setIfInBounds_toArray, List.set_cons_zero, List.set_cons_succ]))
    generalize hE : (e2 || e4) = E
    (refine q_sym (!Bv) (.bool E) (by cases Bv <;> rfl) ?_ ?_; (· intro hc w' hS; cases hS; revert hc; cases Bv <;> intro hc <;> first | (cases hc; done) | (go_simp; try rfl)); (try simp only [Act.put, List.setIfInBounds_toArray, List.set_cons_zero, List.set_cons_succ]))
    (refine q_sym (!Bv && E) (.pointer (some ⟨w.heap.size, 1, none⟩)) (by cases Bv <;> cases E <;> rfl) ?_ ?_; (· intro hc w' hS; cases hS; revert hc; cases Bv <;> cases E <;> intro hc <;> first | (cases hc; done) | (go_simp; try rfl)); (try simp only [Act.put, List.setIfInBounds_toArray, List.set_cons_zero, List.set_cons_succ]))
    (refine q_sym (!Bv && E) (.int .i64 nn) (by cases Bv <;> cases E <;> rfl) ?_ ?_; (· intro hc w' hS; cases hS; revert hc; cases Bv <;> cases E <;> intro hc <;> first | (cases hc; done) | (go_simp; try rfl)); (try simp only [Act.put, List.setIfInBounds_toArray, List.set_cons_zero, List.set_cons_succ]))
    (refine q_sym (!Bv && E) (.bool (nn != 0)) (by cases Bv <;> cases E <;> rfl) ?_ ?_; (· intro hc w' hS; cases hS; revert hc; cases Bv <;> cases E <;> intro hc <;> first | (cases hc; done) | (go_simp; try rfl)); (try simp only [Act.put, List.setIfInBounds_toArray, List.set_cons_zero, List.set_cons_succ]))
    generalize hn0 : (nn != 0) = n0
    (refine q_sym (!Bv) (.bool (E && n0)) (by cases Bv <;> cases E <;> cases n0 <;> rfl) ?_ ?_; (· intro hc w' hS; cases hS; revert hc; cases Bv <;> cases E <;> cases n0 <;> intro hc <;> first | (cases hc; done) | (go_simp; try rfl)); (try simp only [Act.put, List.setIfInBounds_toArray, List.set_cons_zero, List.set_cons_succ]))
    (refine q_take (.bool (Bv || (E && n0))) (by rfl) ?_ ?_; (· intro w' hS; cases hS; cases Bv <;> cases E <;> cases n0 <;> (go_simp; try rfl)); (try simp only [Act.put, List.setIfInBounds_toArray, List.set_cons_zero, List.set_cons_succ]))
    generalize hC : (Bv || (E && n0)) = Cv
    (refine q_take (.bool Cv) (by rfl) ?_ ?_; (· intro w' hS; cases hS; (go_simp; try rfl)); (try simp only [Act.put, List.setIfInBounds_toArray, List.set_cons_zero, List.set_cons_succ]))
    refine q_end (fun W1 hw => ?_)
    cases hw
    go_wp2_with fail
    subst hc2 hs0 hA hc4 hl0 hB he2 he4 hE hn0 hC
    go_meet
    refine ⟨?_, rfl⟩
    have e1 := str_isEmpty ss
    have e2 := len_pos l
    rw [e1, e2]
    rfl
  case rest =>
  obtain ⟨rfl, rfl⟩ := hcut
  cases hsh : ownShape kk nn ss l.isEmpty
  case true =>
    have hr := HR'.out
    rw [hsh, if_pos rfl] at hr
    subst hr
    go_wp2
    go_ret
    exact ⟨rfl, HF.out⟩
  have hr := HR'.out
  rw [hsh] at hr
  simp only [Bool.false_eq_true, if_false] at hr
  have HR := hid hr
  clear HR' hr hsh
  go_wp2_with fail
  refine (vprintable_any ss hsm _).mono ?_
  rintro e w2 ⟨rfl, rfl⟩
  cases hp : printed ss
  · have hr := HR.out
    rw [hp] at hr
    simp only [Bool.false_eq_true, if_false] at hr
    subst hr
    go_wp2
    go_ret
    exact ⟨rfl, HF.out⟩
  · have hr := HR.out
    rw [hp, if_pos rfl] at hr
    subst hr
    go_wp2
    go_ret
    exact ⟨rfl, HF.out⟩
end
end Go.Proofs.YtbegahbagnflnaaDoor
