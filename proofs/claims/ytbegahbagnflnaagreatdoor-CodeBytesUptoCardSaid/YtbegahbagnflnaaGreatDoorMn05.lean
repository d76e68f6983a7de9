import Derived.Test.YtbegahbagnflnaaGreatDoorMn04
import Derived.Test.YtbegahbagnflnaaGreatDoorMn03
import Derived.StillTailTactics
import Derived.Deep.CutRange
import Derived.Deep.CutBlock
set_option linter.unusedSimpArgs false
set_option linter.unusedVariables false
set_option linter.unnecessarySimpa false
namespace Go.Proofs.YtbegahbagnflnaaGreatDoor
section
open Go.RowKit
def oddRange (k n : Int) : Bool := decide (k < 0) || decide (4 < k) || (k == 1 && (decide (n < -2147483648) || decide (2147483647 < n))) || (k == 3 && (decide (n < 0) || decide (14 < n)))
def oddShape (k n : Int) (s : ByteArray) (e : Bool) : Bool := (!(k == 0 || k == 1 || k == 3) && n != 0) || (k != 2 && s.size != 0) || (k != 4 && !e) || !printed s
def oddSize (k : Int) (s : ByteArray) (sz : Nat) : Nat := sz + 1 + (if k = 2 then s.size else 0)
mutual
def V.odd : V → Nat → Nat → Int × Nat
 | .mk k n s l, deep, sz => if 40 < deep then (112, sz) else if 4096 < oddSize k s sz then (104, oddSize k s sz) else
  if oddRange k n then (105, oddSize k s sz) else if oddShape k n s l.isEmpty then (103, oddSize k s sz) else oddL l (deep + 1) (oddSize k s sz)
def oddL : List V → Nat → Nat → Int × Nat
 | [], _, sz => (0, sz)
 | x :: r, deep, sz => if (V.odd x deep sz).1 = 0 then oddL r deep (V.odd x deep sz).2 else V.odd x deep sz
end
theorem V.odd_eq (x : V) (deep sz : Nat) : x.odd deep sz = if 40 < deep then (112, sz) else if 4096 < oddSize x.k x.s sz then (104, oddSize x.k x.s sz) else
  if oddRange x.k x.n then (105, oddSize x.k x.s sz) else if oddShape x.k x.n x.s x.l.isEmpty then (103, oddSize x.k x.s sz) else oddL x.l (deep + 1) (oddSize x.k x.s sz) := by
 cases x; simp only [V.odd, V.k, V.n, V.s, V.l]; rfl
theorem oddSize_le (k : Int) (s : ByteArray) (sz : Nat) : oddSize k s sz ≤ sz + 1 + s.size := by unfold oddSize; split <;> omega
mutual
theorem V.odd_le : ∀ (x : V) (deep sz : Nat), (x.odd deep sz).2 ≤ sz + x.size
 | .mk k n s l, deep, sz => by
  have h1 := oddSize_le k s sz
  have h2 := oddL_le l (deep + 1) (oddSize k s sz)
  simp only [V.odd, V.size]
  repeat' split
  all_goals try simp only
  all_goals omega
theorem oddL_le : ∀ (l : List V) (deep sz : Nat), (oddL l deep sz).2 ≤ sz + sizeL l
 | [], deep, sz => by simp [oddL]
 | x :: r, deep, sz => by
  have h1 := V.odd_le x deep sz
  have h2 := oddL_le r deep (x.odd deep sz).2
  simp only [oddL, sizeL]
  split <;> omega
end
theorem oddL_drop (l : List V) (k deep z : Nat) (x : V) (h : l[k]? = some x) : oddL (l.drop k) deep z = if (x.odd deep z).1 = 0 then oddL (l.drop (k + 1)) deep (x.odd deep z).2 else x.odd deep z := by
 have hk := (List.getElem?_eq_some_iff.1 h).1
 rw [List.drop_eq_getElem_cons hk]
 have : l[k] = x := (List.getElem?_eq_some_iff.1 h).2
 rw [this, oddL]
theorem wrap64 (n : Int) (h1 : -9223372036854775808 ≤ n) (h2 : n ≤ 9223372036854775807) : IntKind.i64.wrap n = n := by simp [IntKind.wrap, IntKind.signed, IntKind.bits]; omega
theorem str_isEmpty (s : ByteArray) : (!s.toList.isEmpty) = (s.size != 0) := by
 have h : s.toList.length = s.size := by rw [ByteArray.toList_eq]; simp
 cases hl : s.toList with
 | nil => rw [hl] at h; simp at h; simp [← h]
 | cons x r => rw [hl] at h; simp at h; simp [← h]
theorem len_pos (l : List V) : decide ((0 : Int) < l.length) = !l.isEmpty := by cases l <;> simp <;> omega
def OddPost (B : Nat) (w : World) (r : Int × Nat) (e : Ending) (w' : World) : Prop :=
 e = .returned (.int .i64 r.1) ∧ Fr (fun b => b = B) w w' ∧ w'.heap[B]? = some (.cells #[.int .i64 r.2] 167)
set_option maxRecDepth 20000 in
set_option maxHeartbeats 3200000 in
theorem odd_any : ∀ (N : Nat) (x : V), x.size ≤ N → ∀ (B : Nat) (w : World) (u : Array Value) (deep sz : Nat), VIn (fun b => b ≠ B) w x u → deep ≤ 41 → sz + x.size ≤ 1099511627776 →
  w.heap[B]? = some (.cells #[.int .i64 sz] 167) →
  Calls Tryz.prog 119 #[.pointer (some ⟨B, 0, none⟩), .agg u, .int .i64 deep] w (OddPost B w (x.odd deep sz)) := by
 intro N
 induction N with
 | zero =>
  intro x h
  rw [V.size_eq] at h
  omega
 | succ N ih =>
  intro x hN B w u deep sz h hd hz hB
  have hs := V.size_eq x
  have hM : sz + x.size ≤ 1099511627776 := hz
  rw [V.odd_eq]
  obtain ⟨v, rfl, a, cap, us, rfl, hc, hm, hn, hb, hi⟩ := h.open
  have hlm : x.l.length ≤ 9223372036854775807 := Nat.le_trans hc hm
  have hsm : x.s.size ≤ 1099511627776 := by omega
  generalize x.k = kk at *
  generalize x.n = nn at *
  generalize x.s = ss at *
  generalize x.l = l at *
  have hBlt : B < w.heap.size := (Array.getElem?_eq_some_iff.1 hB).1
  have key : ∀ z : Int, Fr (fun b => b = B) w ((w.setCell ⟨B, 0, none⟩ (.int .i64 z)).alloc (.cells #[.int .i64 kk, .int .i64 nn, .string ss, .slice a l.length cap] 44)) ∧ ((w.setCell ⟨B, 0, none⟩ (.int .i64 z)).alloc (.cells #[.int .i64 kk, .int .i64 nn, .string ss, .slice a l.length cap] 44)).heap[B]? = some (.cells #[.int .i64 z] 167) ∧
    ((w.setCell ⟨B, 0, none⟩ (.int .i64 z)).alloc (.cells #[.int .i64 kk, .int .i64 nn, .string ss, .slice a l.length cap] 44)).heap[w.heap.size]? = some (.cells #[.int .i64 kk, .int .i64 nn, .string ss, .slice a l.length cap] 44) := fun z =>
   ⟨((Fr.refl (fun b => b = B) w).setCell (p := ⟨B, 0, none⟩) (.inl rfl) _).alloc _, ((Fr.refl (fun _ => False) (w.setCell ⟨B, 0, none⟩ (.int .i64 z))).alloc _).heap (setCell_row 0 (.int .i64 z) hB) not_false,
    by have := heap_alloc_new (w.setCell ⟨B, 0, none⟩ (.int .i64 z)) (.cells #[.int .i64 kk, .int .i64 nn, .string ss, .slice a l.length cap] 44); simpa using this⟩
  have hB1 := ((Fr.refl (fun _ => False) w).alloc (.cells #[.int .i64 kk, .int .i64 nn, .string ss, .slice a l.length cap] 44)).heap hB not_false
  have d0 : (w.alloc (.cells #[.int .i64 kk, .int .i64 nn, .string ss, .slice a l.length cap] 44)).cell? ⟨B, 0, none⟩ = some (.int .i64 sz) := by rw [cell_of_row _ _ 0 _ _ _ hB1]; rfl
  have f0 : (w.alloc (.cells #[.int .i64 kk, .int .i64 nn, .string ss, .slice a l.length cap] 44)).frozen? ⟨B, 0, none⟩ = false := frozen_of_row _ _ 0 _ _ hB1
  have dz : ((w.setCell ⟨B, 0, none⟩ (.int .i64 (sz + 1))).alloc (.cells #[.int .i64 kk, .int .i64 nn, .string ss, .slice a l.length cap] 44)).cell? ⟨B, 0, none⟩ = some (.int .i64 (sz + 1)) := by rw [cell_of_row _ _ 0 _ _ _ (key _).2.1]; rfl
  have fz : ((w.setCell ⟨B, 0, none⟩ (.int .i64 (sz + 1))).alloc (.cells #[.int .i64 kk, .int .i64 nn, .string ss, .slice a l.length cap] 44)).frozen? ⟨B, 0, none⟩ = false := frozen_of_row _ _ 0 _ _ (key _).2.1
  obtain ⟨r, hr⟩ : ∃ r, r = if 40 < deep then (112, sz) else if 4096 < oddSize kk ss sz then (104, oddSize kk ss sz) else
   if oddRange kk nn then (105, oddSize kk ss sz) else if oddShape kk nn ss l.isEmpty then (103, oddSize kk ss sz) else oddL l (deep + 1) (oddSize kk ss sz) := ⟨_, rfl⟩
  rw [← hr]
  have HB := hid hb; have HI := hid hi; have HS := hid hs; have HM := hid hM; have HN := hid hN; have HK := hid key; have HB0 := hid hB; have HR := hid hr
  clear hb hi hs hM hN h hn key hB hB1 hr
  by_cases h1 : 40 < deep
  ·go_enter Tryz.func119, Tryz.ntmps119
   go_wp2
   go_ret
   rw [HR.out, if_pos h1]
   exact ⟨rfl, (Fr.refl _ w).alloc _, ((Fr.refl (fun _ => False) w).alloc _).heap HB0.out not_false⟩
  go_enter Tryz.func119, Tryz.ntmps119
  go_upto_if 23 with fail
  go_cut [] from 23 to 34 (fun wx => Fr (fun b => b = B) w wx ∧ wx.heap[B]? = some (.cells #[.int .i64 (oddSize kk ss sz)] 167) ∧ wx.heap[w.heap.size]? = some (.cells #[.int .i64 kk, .int .i64 nn, .string ss, .slice a l.length cap] 44))
  case first =>
   by_cases k2 : kk = 2
   ·subst k2
    go_wp2_with fail
    have hW := HK.out (sz + 1)
    have e2 : (oddSize 2 ss sz : Int) = sz + 1 + ss.size := by simp [oddSize]
    generalize ((w.setCell ⟨B, 0, none⟩ (.int .i64 (sz + 1))).alloc (.cells #[.int .i64 2, .int .i64 nn, .string ss, .slice a l.length cap] 44)) = W1 at *
    have D2 : W1.cell? ⟨w.heap.size, 2, none⟩ = some (.string ss) := by rw [cell_of_row W1 _ 2 _ _ _ hW.2.2]; rfl
    have HW := hid hW; have HE2 := hid e2
    clear hW e2
    refine wp_region_ord [(0, 0), (1, 0), (2, 0), (3, 0), (4, 0), (5, 0), (6, 0), (7, 0), (8, 0), (9, 1), (10, 1), (11, 1)] (fun w' => w'.cell? ⟨B, 0, none⟩ = some (.int .i64 (sz + 1)) ∧ w'.cell? ⟨w.heap.size, 2, none⟩ = some (.string ss)) (by kernel_rfl) (by kernel_rfl) (by kernel_rfl) rfl (fun _ _ d _ _ h => by cases d <;> exact h) ⟨dz, D2⟩ ?_
    iterate 9 (refine wpO_take ?_ rfl (by kernel_rfl) ?_ ?_; rotate_left; (· intro w' hS; go_simp; try with_reducible rfl); try simp only [Act.put, List.setIfInBounds_toArray, List.set_cons_zero, List.set_cons_succ])
    (refine wpO_run rfl (by kernel_rfl) (fun K hK => ?_); go_simp; refine hK _ _ (fun _ => ⟨dz, D2⟩) ?_; clear hK K; try simp only [Act.put, List.setIfInBounds_toArray, List.set_cons_zero, List.set_cons_succ])
    (refine wpO_run rfl (by kernel_rfl) (fun K hK => ?_); go_simp; refine hK _ _ (fun _ => ⟨dz, D2⟩) ?_; clear hK K; try simp only [Act.put, List.setIfInBounds_toArray, List.set_cons_zero, List.set_cons_succ])
    refine wpO_run rfl (by kernel_rfl) (fun K hK => ?_)
    go_simp
    have ew : IntKind.i64.wrap ((sz : Int) + 1 + ss.size) = sz + 1 + ss.size := wrap64 _ (by omega) (by omega)
    rw [ew]
    refine hK _ _ (last_skip (by kernel_rfl)) ?_
    clear hK K
    try simp only [Act.put, List.setIfInBounds_toArray, List.set_cons_zero, List.set_cons_succ]
    refine wpO_end ?_
    go_wp2_with fail
    go_meet
    rw [HE2.out]
    exact ⟨(HW.out.1.setCell (p := ⟨B, 0, none⟩) (.inl rfl) _).drew, setCell_row 0 (.int .i64 (sz + 1 + ss.size)) (w := W1) HW.out.2.1, ((Fr.refl (fun b => b = B) W1).setCell (p := ⟨B, 0, none⟩) (.inl rfl) _).heap (o := .cells #[.int .i64 2, .int .i64 nn, .string ss, .slice a l.length cap] 44) HW.out.2.2 (by omega)⟩
   ·have q2 : (kk == 2) = false := by simpa using k2
    go_wp2_with fail
    go_meet
    rw [show (oddSize kk ss sz : Int) = sz + 1 by simp [oddSize, k2]]
    exact HK.out _
  case rest =>
  obtain ⟨hf, hB, hbx⟩ := hcut
  clear d0 f0 dz fz HK HB0
  have hsz := oddSize_le kk ss sz
  obtain ⟨z, hzz⟩ : ∃ z, z = oddSize kk ss sz := ⟨_, rfl⟩
  rw [← hzz] at hB hsz
  have hr := HR.out
  rw [← hzz, if_neg h1] at hr
  have HR' := hid hr
  clear hr HR hzz
  have dB : wc.cell? ⟨B, 0, none⟩ = some (.int .i64 z) := by rw [cell_of_row _ _ 0 _ _ _ hB]; rfl
  have d0 : wc.cell? ⟨w.heap.size, 0, none⟩ = some (.int .i64 kk) := by rw [cell_of_row _ _ 0 _ _ _ hbx]; rfl
  have d1 : wc.cell? ⟨w.heap.size, 1, none⟩ = some (.int .i64 nn) := by rw [cell_of_row _ _ 1 _ _ _ hbx]; rfl
  have d2 : wc.cell? ⟨w.heap.size, 2, none⟩ = some (.string ss) := by rw [cell_of_row _ _ 2 _ _ _ hbx]; rfl
  have d3 : wc.cell? ⟨w.heap.size, 3, none⟩ = some (.slice a l.length cap) := by rw [cell_of_row _ _ 3 _ _ _ hbx]; rfl
  have HF := hid hf; have HWB := hid hB
  clear hf hB hbx
  have H1 := hid h1
  clear h1
  by_cases hz2 : (4096 : Int) < z
  ·have hz3 := hid (show 4096 < z by omega)
   go_wp2
   go_ret
   rw [HR'.out, if_pos hz3.out]
   exact ⟨rfl, HF.out, HWB.out⟩
  have hr := HR'.out
  rw [if_neg (by omega)] at hr
  have HR := hid hr
  clear hr HR'
  go_upto_region 9 with fail
  go_cut [75] from 42 to 75 (fun c wx => c = .bool (oddRange kk nn) ∧ wx = wc)
  case first =>
   have hk : kk < 0 ∨ 4 < kk ∨ kk = 0 ∨ (kk = 1 ∧ nn < -2147483648) ∨ (kk = 1 ∧ 2147483647 < nn) ∨ (kk = 1 ∧ -2147483648 ≤ nn ∧ nn ≤ 2147483647) ∨ kk = 2 ∨ (kk = 3 ∧ nn < 0) ∨ (kk = 3 ∧ 14 < nn) ∨ (kk = 3 ∧ 0 ≤ nn ∧ nn ≤ 14) ∨ kk = 4 := by omega
   clear HR
   rcases hk with h | h | rfl | ⟨rfl, h⟩ | ⟨rfl, h⟩ | ⟨rfl, h⟩ | rfl | ⟨rfl, h⟩ | ⟨rfl, h⟩ | ⟨rfl, h⟩ | rfl
   all_goals (go_wp2_with fail; go_meet; exact ⟨by simp [oddRange] <;> omega, rfl⟩)
  case rest =>
  obtain ⟨rfl, rfl⟩ := hcut
  cases er : oddRange kk nn
  case true =>
   go_wp2
   go_ret
   rw [HR.out, er]
   exact ⟨rfl, HF.out, HWB.out⟩
  have hr := HR.out
  rw [er] at hr
  have hk5 : kk = 0 ∨ kk = 1 ∨ kk = 2 ∨ kk = 3 ∨ kk = 4 := by
   simp [oddRange] at er
   omega
  simp only [Bool.false_eq_true, if_false] at hr
  have HR' := hid hr
  clear HR er hr
  go_upto_region 11 with fail
  go_cut [8] from 76 to 85 (fun c wx => c = .bool (kk == 0 || kk == 1 || kk == 3) ∧ wx = wc)
  case first =>
   clear HR'
   rcases hk5 with rfl | rfl | rfl | rfl | rfl
   all_goals (go_wp2_with fail; go_meet; exact ⟨by rfl, rfl⟩)
  case rest =>
  obtain ⟨rfl, rfl⟩ := hcut
  have hpr := printed_any ss hsm
  have HP := hid hpr
  clear hpr
  go_upto_region 12 with fail
  go_cut [117] from 86 to 117 (fun c wx => c = .bool (oddShape kk nn ss l.isEmpty) ∧ wx = wc)
  case first =>
   clear HR'
   generalize hnb : (kk == 0 || kk == 1 || kk == 3) = nb
   refine wp_region_cls0 (fun w' => w' = wc) rfl ?_
   (refine q_take (.bool nb) (by rfl) ?_ ?_; (· intro w' hS; cases hS; (go_simp; try rfl)); (try simp only [Act.put, List.setIfInBounds_toArray, List.set_cons_zero, List.set_cons_succ]))
   (refine q_take (.bool (!nb)) (by rfl) ?_ ?_; (· intro w' hS; cases hS; (go_simp; try rfl)); (try simp only [Act.put, List.setIfInBounds_toArray, List.set_cons_zero, List.set_cons_succ]))
   (refine q_take (.bool (!nb)) (by rfl) ?_ ?_; (· intro w' hS; cases hS; (go_simp; try rfl)); (try simp only [Act.put, List.setIfInBounds_toArray, List.set_cons_zero, List.set_cons_succ]))
   (refine q_sym (!nb) (.pointer (some ⟨w.heap.size, 1, none⟩)) (by cases nb <;> rfl) ?_ ?_; (· intro hc w' hS; cases hS; revert hc; cases nb <;> intro hc <;> first | (cases hc; done) | (go_simp; try rfl)); (try simp only [Act.put, List.setIfInBounds_toArray, List.set_cons_zero, List.set_cons_succ]))
   (refine q_sym (!nb) (.int .i64 nn) (by cases nb <;> rfl) ?_ ?_; (· intro hc w' hS; cases hS; revert hc; cases nb <;> intro hc <;> first | (cases hc; done) | (go_simp; try rfl)); (try simp only [Act.put, List.setIfInBounds_toArray, List.set_cons_zero, List.set_cons_succ]))
   (refine q_sym (!nb) (.bool (nn != 0)) (by cases nb <;> rfl) ?_ ?_; (· intro hc w' hS; cases hS; revert hc; cases nb <;> intro hc <;> first | (cases hc; done) | (go_simp; try rfl)); (try simp only [Act.put, List.setIfInBounds_toArray, List.set_cons_zero, List.set_cons_succ]))
   generalize hn0 : (nn != 0) = n0
   (refine q_take (.bool (!nb && n0)) (by rfl) ?_ ?_; (· intro w' hS; cases hS; cases nb <;> cases n0 <;> (go_simp; try rfl)); (try simp only [Act.put, List.setIfInBounds_toArray, List.set_cons_zero, List.set_cons_succ]))
   generalize hA : (!nb && n0) = A
   (refine q_take (.bool A) (by rfl) ?_ ?_; (· intro w' hS; cases hS; (go_simp; try rfl)); (try simp only [Act.put, List.setIfInBounds_toArray, List.set_cons_zero, List.set_cons_succ]))
   (refine q_sym (!A) (.int .i64 kk) (by cases A <;> rfl) ?_ ?_; (· intro hc w' hS; cases hS; revert hc; cases A <;> intro hc <;> first | (cases hc; done) | (go_simp; try rfl)); (try simp only [Act.put, List.setIfInBounds_toArray, List.set_cons_zero, List.set_cons_succ]))
   (refine q_sym (!A) (.bool (kk != 2)) (by cases A <;> rfl) ?_ ?_; (· intro hc w' hS; cases hS; revert hc; cases A <;> intro hc <;> first | (cases hc; done) | (go_simp; try rfl)); (try simp only [Act.put, List.setIfInBounds_toArray, List.set_cons_zero, List.set_cons_succ]))
   generalize hc2 : (kk != 2) = c2
   (refine q_sym (!A) (.bool c2) (by cases A <;> rfl) ?_ ?_; (· intro hc w' hS; cases hS; revert hc; cases A <;> intro hc <;> first | (cases hc; done) | (go_simp; try rfl)); (try simp only [Act.put, List.setIfInBounds_toArray, List.set_cons_zero, List.set_cons_succ]))
   (refine q_sym (!A && c2) (.pointer (some ⟨w.heap.size, 2, none⟩)) (by cases A <;> cases c2 <;> rfl) ?_ ?_; (· intro hc w' hS; cases hS; revert hc; cases A <;> cases c2 <;> intro hc <;> first | (cases hc; done) | (go_simp; try rfl)); (try simp only [Act.put, List.setIfInBounds_toArray, List.set_cons_zero, List.set_cons_succ]))
   (refine q_sym (!A && c2) (.string ss) (by cases A <;> cases c2 <;> rfl) ?_ ?_; (· intro hc w' hS; cases hS; revert hc; cases A <;> cases c2 <;> intro hc <;> first | (cases hc; done) | (go_simp; try rfl)); (try simp only [Act.put, List.setIfInBounds_toArray, List.set_cons_zero, List.set_cons_succ]))
   (refine q_sym (!A && c2) (.bool (!ss.toList.isEmpty)) (by cases A <;> cases c2 <;> rfl) ?_ ?_; (· intro hc w' hS; cases hS; revert hc; cases A <;> cases c2 <;> intro hc <;> first | (cases hc; done) | (go_simp; try rfl)); (try simp only [Act.put, List.setIfInBounds_toArray, List.set_cons_zero, List.set_cons_succ]))
   generalize hs0 : (!ss.toList.isEmpty) = s0
   (refine q_sym (!A) (.bool (c2 && s0)) (by cases A <;> cases c2 <;> cases s0 <;> rfl) ?_ ?_; (· intro hc w' hS; cases hS; revert hc; cases A <;> cases c2 <;> cases s0 <;> intro hc <;> first | (cases hc; done) | (go_simp; try rfl)); (try simp only [Act.put, List.setIfInBounds_toArray, List.set_cons_zero, List.set_cons_succ]))
   (refine q_take (.bool (A || (c2 && s0))) (by rfl) ?_ ?_; (· intro w' hS; cases hS; cases A <;> cases c2 <;> cases s0 <;> (go_simp; try rfl)); (try simp only [Act.put, List.setIfInBounds_toArray, List.set_cons_zero, List.set_cons_succ]))
   generalize hB : (A || (c2 && s0)) = Bv
   (refine q_take (.bool Bv) (by rfl) ?_ ?_; (· intro w' hS; cases hS; (go_simp; try rfl)); (try simp only [Act.put, List.setIfInBounds_toArray, List.set_cons_zero, List.set_cons_succ]))
   (refine q_sym (!Bv) (.int .i64 kk) (by cases Bv <;> rfl) ?_ ?_; (· intro hc w' hS; cases hS; revert hc; cases Bv <;> intro hc <;> first | (cases hc; done) | (go_simp; try rfl)); (try simp only [Act.put, List.setIfInBounds_toArray, List.set_cons_zero, List.set_cons_succ]))
   (refine q_sym (!Bv) (.bool (kk != 4)) (by cases Bv <;> rfl) ?_ ?_; (· intro hc w' hS; cases hS; revert hc; cases Bv <;> intro hc <;> first | (cases hc; done) | (go_simp; try rfl)); (try simp only [Act.put, List.setIfInBounds_toArray, List.set_cons_zero, List.set_cons_succ]))
   generalize hc4 : (kk != 4) = c4
   (refine q_sym (!Bv) (.bool c4) (by cases Bv <;> rfl) ?_ ?_; (· intro hc w' hS; cases hS; revert hc; cases Bv <;> intro hc <;> first | (cases hc; done) | (go_simp; try rfl)); (try simp only [Act.put, List.setIfInBounds_toArray, List.set_cons_zero, List.set_cons_succ]))
   (refine q_sym (!Bv && c4) (.pointer (some ⟨w.heap.size, 3, none⟩)) (by cases Bv <;> cases c4 <;> rfl) ?_ ?_; (· intro hc w' hS; cases hS; revert hc; cases Bv <;> cases c4 <;> intro hc <;> first | (cases hc; done) | (go_simp; try rfl)); (try simp only [Act.put, List.setIfInBounds_toArray, List.set_cons_zero, List.set_cons_succ]))
   (refine q_sym (!Bv && c4) (.slice a l.length cap) (by cases Bv <;> cases c4 <;> rfl) ?_ ?_; (· intro hc w' hS; cases hS; revert hc; cases Bv <;> cases c4 <;> intro hc <;> first | (cases hc; done) | (go_simp; try rfl)); (try simp only [Act.put, List.setIfInBounds_toArray, List.set_cons_zero, List.set_cons_succ]))
   (refine q_sym (!Bv && c4) (.int .i64 l.length) (by cases Bv <;> cases c4 <;> rfl) ?_ ?_; (· intro hc w' hS; cases hS; revert hc; cases Bv <;> cases c4 <;> intro hc <;> first | (cases hc; done) | (go_simp; try rfl)); (try simp only [Act.put, List.setIfInBounds_toArray, List.set_cons_zero, List.set_cons_succ]))
   (refine q_sym (!Bv && c4) (.bool (decide ((0 : Int) < l.length))) (by cases Bv <;> cases c4 <;> rfl) ?_ ?_; (· intro hc w' hS; cases hS; revert hc; cases Bv <;> cases c4 <;> intro hc <;> first | (cases hc; done) | (go_simp; try rfl)); (try simp only [Act.put, List.setIfInBounds_toArray, List.set_cons_zero, List.set_cons_succ]))
   generalize hl0 : decide ((0 : Int) < l.length) = l0
   (refine q_sym (!Bv) (.bool (c4 && l0)) (by cases Bv <;> cases c4 <;> cases l0 <;> rfl) ?_ ?_; (· intro hc w' hS; cases hS; revert hc; cases Bv <;> cases c4 <;> cases l0 <;> intro hc <;> first | (cases hc; done) | (go_simp; try rfl)); (try simp only [Act.put, List.setIfInBounds_toArray, List.set_cons_zero, List.set_cons_succ]))
   (refine q_take (.bool (Bv || (c4 && l0))) (by rfl) ?_ ?_; (· intro w' hS; cases hS; cases Bv <;> cases c4 <;> cases l0 <;> (go_simp; try rfl)); (try simp only [Act.put, List.setIfInBounds_toArray, List.set_cons_zero, List.set_cons_succ]))
   generalize hC : (Bv || (c4 && l0)) = Cv
   (refine q_take (.bool Cv) (by rfl) ?_ ?_; (· intro w' hS; cases hS; (go_simp; try rfl)); (try simp only [Act.put, List.setIfInBounds_toArray, List.set_cons_zero, List.set_cons_succ]))
   (refine q_sym (!Cv) (.pointer (some ⟨w.heap.size, 2, none⟩)) (by cases Cv <;> rfl) ?_ ?_; (· intro hc w' hS; cases hS; revert hc; cases Cv <;> intro hc <;> first | (cases hc; done) | (go_simp; try rfl)); (try simp only [Act.put, List.setIfInBounds_toArray, List.set_cons_zero, List.set_cons_succ]))
   (refine q_sym (!Cv) (.string ss) (by cases Cv <;> rfl) ?_ ?_; (· intro hc w' hS; cases hS; revert hc; cases Cv <;> intro hc <;> first | (cases hc; done) | (go_simp; try rfl)); (try simp only [Act.put, List.setIfInBounds_toArray, List.set_cons_zero, List.set_cons_succ]))
   (refine q_symcall (!Cv) (.bool (printed ss)) 142 #[.string ss] (by cases Cv <;> rfl) ?_ ?_ ?_; (· intro hc w' hS; cases hS; revert hc; cases Cv <;> intro hc <;> first | (cases hc; done) | (go_simp; done) | (go_simp; first | with_reducible rfl | (constructor <;> with_reducible rfl))); (· intro hc w' hS; cases hS; exact (HP.out _).mono fun _ _ h => ⟨h.1, h.2.symm⟩); (try simp only [Act.put, List.setIfInBounds_toArray, List.set_cons_zero, List.set_cons_succ]))
   generalize hp : printed ss = p
   (refine q_sym (!Cv) (.bool (!p)) (by cases Cv <;> cases p <;> rfl) ?_ ?_; (· intro hc w' hS; cases hS; revert hc; cases Cv <;> cases p <;> intro hc <;> first | (cases hc; done) | (go_simp; try rfl)); (try simp only [Act.put, List.setIfInBounds_toArray, List.set_cons_zero, List.set_cons_succ]))
   (refine q_take (.bool (Cv || !p)) (by rfl) ?_ ?_; (· intro w' hS; cases hS; cases Cv <;> cases p <;> (go_simp; try rfl)); (try simp only [Act.put, List.setIfInBounds_toArray, List.set_cons_zero, List.set_cons_succ]))
   refine q_end (fun W1 hw => ?_)
   cases hw
   go_wp2_with fail
   subst hnb hn0 hA hc2 hs0 hB hc4 hl0 hC hp
   go_meet
   refine ⟨?_, rfl⟩
   have e1 := str_isEmpty ss
   have e2 := len_pos l
   rw [e1, e2]
   rfl
  case rest =>
  obtain ⟨rfl, rfl⟩ := hcut
  cases er : oddShape kk nn ss l.isEmpty
  case true =>
   go_wp2
   go_ret
   rw [HR'.out, er]
   exact ⟨rfl, HF.out, HWB.out⟩
  have hr := HR'.out
  rw [er] at hr
  simp only [Bool.false_eq_true, if_false] at hr
  have HR := hid hr
  clear HR' hr HP er
  have Hih := hid ih
  clear ih
  go_wp2_with fail
  go_loopw [9] (fun i wr => ∃ k zk : Nat, k ≤ l.length ∧ i = .int .i64 k ∧ Fr (fun b => b = B) wc wr ∧ wr.heap[B]? = some (.cells #[.int .i64 zk] 167) ∧ zk ≤ z + sizeL (l.take k) ∧ oddL l (deep + 1) z = oddL (l.drop k) (deep + 1) zk) (fun i _ => l.length - (intOf i).toNat)
  case atStart => exact ⟨0, z, Nat.zero_le _, rfl, Fr.refl _ _, HWB.out, Nat.le_add_right _ _, rfl⟩
  case round =>
   obtain ⟨k, zk, hk, rfl, hf, hzk, hle, heq⟩ := hrel
   have dB' : wr.cell? ⟨B, 0, none⟩ = some (.int .i64 zk) := by rw [cell_of_row _ _ 0 _ _ _ hzk]; rfl
   have d3' := hf.cell d3 (fun e => by have e : w.heap.size = B := e; omega)
   by_cases hlt : k < l.length
   ·obtain ⟨b, o, y, a', c', rfl, hbB, hy, hv, e0, e1, e2, e3⟩ := VL.elem HB.out HI.out k hlt
    have hf0 := HF.out.trans' hf
    replace e0 := hf0.cell e0 hbB
    replace e1 := hf0.cell e1 hbB
    replace e2 := hf0.cell e2 hbB
    replace e3 := hf0.cell e3 hbB
    have hv2 := hv.frame hf0 (fun _ h => h)
    have t1 := sizeL_take l k y hy
    have t2 := sizeL_mem hy
    have t3 := sizeL_take_le l (k + 1)
    have hy1 : y.size ≤ N := by have := HS.out; have := HN.out; omega
    have hod := oddL_drop l k (deep + 1) zk y hy
    have hole := y.odd_le (deep + 1) zk
    have hc := Hih.out y hy1 B wr _ (deep + 1) zk hv2 (by have := H1.out; omega) (by have := HS.out; have := HM.out; omega) hzk
    rw [hod] at heq
    have HE := hid heq; have HFr := hid hf; have HC := hid hc; have HT := hid t1; have HL := hid hle; have HO := hid hole
    clear hv t1 t2 t3 hf hf0 hv2 hc hy1 hod heq hle hole hy hzk
    generalize y.odd (deep + 1) zk = ry at *
    go_wp2_with fail
    refine HC.out.mono ?_
    rintro e w2 ⟨rfl, hf2, hb2⟩
    have HF2 := hid (HFr.out.trans' hf2); have HB2 := hid hb2
    clear hf2 hb2
    by_cases hry : ry.1 = 0
    ·go_wp2
     go_roundw
     case rel => exact ⟨k + 1, ry.2, by omega, by go_num, HF2.out, HB2.out, by have := HO.out; have := HL.out; have := HT.out; omega, by rw [HE.out, if_pos hry]⟩
     case measure => simp [intOf]; omega
    ·have hq : (ry.1 == 0) = false := by simpa using hry
     go_wp2
     go_ret
     have hrr := HR.out
     rw [HE.out, if_neg hry] at hrr
     rw [hrr]
     exact ⟨rfl, HF.out.trans' HF2.out, HB2.out⟩
   ·go_wp2
    go_ret
    have hrr := HR.out
    rw [heq, List.drop_of_length_le (by omega), oddL] at hrr
    rw [hrr]
    exact ⟨rfl, HF.out.trans' hf, hzk⟩
end
section
open Go.RowKit
set_option maxHeartbeats 800000 in
theorem vprintable_any (s : ByteArray) (hs : s.size ≤ 1099511627776) (w : World) : Calls Tryz.prog 154 #[.string s] w fun e w' => e = .returned (.bool (printed s)) ∧ w = w' := by
 go_enter Tryz.func154, Tryz.ntmps154
 go_wp2
 go_loopw [6] (fun i wr => ∃ k : Nat, k ≤ s.size ∧ i = .int .i64 k ∧ w = wr ∧ ∀ j, j < k → 32 ≤ (s.data.toList.getD j 0).toNat ∧ (s.data.toList.getD j 0).toNat ≤ 126) (fun i _ => s.size - (intOf i).toNat)
 case atStart => exact ⟨0, Nat.zero_le _, rfl, rfl, fun j hj => by omega⟩
 case round =>
  obtain ⟨k, hk, rfl, rfl, hall⟩ := hrel
  by_cases hlt : k < s.size
  ·have hbk : (s.data.toList.getD k 0).toNat = s[k].toNat := by
    have : k < s.data.toList.length := by simpa using hlt
    simp [List.getD, hlt]; rfl
   go_wp2_with fail
   all_goals first
    | (go_ret; exact ⟨congrArg (fun b => Ending.returned (.bool b)) (printed_false k hlt (by omega)).symm, rfl⟩)
    | exact ⟨⟨k + 1, by omega, by go_num, trivial, all_step hall (by omega)⟩, by simp [intOf]; omega⟩
    | (go_roundw <;> first | exact ⟨k + 1, by omega, by go_num, rfl, all_step hall (by omega)⟩ | (simp [intOf]; omega))
  ·go_wp2
   go_ret
   exact ⟨congrArg (fun b => Ending.returned (.bool b)) (printed_true fun j hj => hall j (by omega)).symm, rfl⟩
end
end Go.Proofs.YtbegahbagnflnaaGreatDoor
