/- The statement NumOrders, walked. -/
import Derived.Test.YtjngddmjgcecnaaNumC
import Derived.Test.YtjngddmjgcecnaaCmpPlain
namespace Go.Proofs.Ytjngddmjgcecnaa
open Go.RowKit

/-- What the six calls give: less, greater, not greater, not less, same, not same, the code. -/
def six (x y : V) (r1 r2 r3 r4 r5 r6 c : Int) : Prop :=
  ((x.k ≠ y.k ∨ x.k = 4) ∧ c = 1 ∧ ((r5 = 1 ∧ r6 = 0) ∨ (r5 = 0 ∧ r6 = 1))) ∨
  (x.k = y.k ∧ x.k ≠ 4 ∧ c = 0 ∧ ((r1 = 1 ∧ r2 = 0 ∧ r3 = 1 ∧ r4 = 0 ∧ r5 = 0 ∧ r6 = 1) ∨ (r1 = 0 ∧ r2 = 1 ∧ r3 = 0 ∧ r4 = 1 ∧ r5 = 0 ∧ r6 = 1) ∨ (r1 = 0 ∧ r2 = 0 ∧ r3 = 1 ∧ r4 = 1 ∧ r5 = 1 ∧ r6 = 0)))
theorem six_ok (x y : V) (hx : x.right = true) (hy : y.right = true) : ∃ c, (pOrd 12 x y).2 = c ∧ (pOrd 14 x y).2 = c ∧ (pOrd 13 x y).2 = c ∧ (pOrd 15 x y).2 = c ∧
    six x y (pOrd 12 x y).1 (pOrd 14 x y).1 (pOrd 13 x y).1 (pOrd 15 x y).1 (if V.same x y then 1 else 0) (if V.same x y then 0 else 1) c := by
  by_cases hk : x.k ≠ y.k ∨ x.k = 4
  · have hp : ∀ op, pOrd op x y = (0, 1) := fun op => by unfold pOrd; rw [if_pos hk]
    refine ⟨1, by rw [hp], by rw [hp], by rw [hp], by rw [hp], .inl ⟨hk, rfl, ?_⟩⟩
    cases V.same x y
    · exact .inr ⟨rfl, rfl⟩
    · exact .inl ⟨rfl, rfl⟩
  · have hp : ∀ op, pOrd op x y = (if isOrd op x y then 1 else 0, 0) := fun op => by unfold pOrd; rw [if_neg hk]
    have hkk : x.k = y.k := Classical.byContradiction fun e => hk (.inl e)
    have hk4 : x.k ≠ 4 := fun e => hk (.inr e)
    refine ⟨0, by rw [hp], by rw [hp], by rw [hp], by rw [hp], .inr ⟨hkk, hk4, rfl, ?_⟩⟩
    rw [hp, hp, hp, hp]
    have hl := kinded_l (right_ok hx).2.2 hk4
    have hl' := kinded_l (right_ok hy).2.2 (by rw [← hkk]; exact hk4)
    simp only [isOrd]
    rcases cmp_flat x y hkk hl hl' with ⟨e, h1, h2⟩ | ⟨e, h1, h2⟩ | ⟨e, h1, h2⟩
    · rw [V.same_eq.2 e]
      simp [h1, h2]
    · rw [V.same_ne e]
      simp [h1, h2]
    · rw [V.same_ne e]
      simp [h1, h2]

set_option maxRecDepth 100000 in
set_option maxHeartbeats 6400000 in
theorem numOrders_any (x y : V) (u u' : Array Value) (w : World) (h : VIn T w x u) (h' : VIn T w y u') (hxs : x.size ≤ 1048576) (hys : y.size ≤ 1048576) :
    Calls Try.prog 3 #[.agg u, .agg u'] w fun e w' => e = .returned (.bool true) ∧ Fr (fun _ => False) w w' := by
  obtain ⟨v1, rfl, a1, c1, us1, rfl, -⟩ := h.open
  obtain ⟨v2, rfl, a2, c2, us2, rfl, -⟩ := h'.open
  have HX := hid h; have HY := hid h'; have HXS := hid hxs; have HYS := hid hys
  have hf := ((Fr.refl (fun _ => False) w).alloc (.cells #[.int .i64 x.k, .int .i64 x.n, .string x.s, .slice a1 x.l.length c1] 24)).alloc (.cells #[.int .i64 y.k, .int .i64 y.n, .string y.s, .slice a2 y.l.length c2] 24)
  have hr := ((Fr.refl (fun _ => False) (w.alloc (.cells #[.int .i64 x.k, .int .i64 x.n, .string x.s, .slice a1 x.l.length c1] 24))).alloc (.cells #[.int .i64 y.k, .int .i64 y.n, .string y.s, .slice a2 y.l.length c2] 24)).heap (heap_alloc_new w (.cells #[.int .i64 x.k, .int .i64 x.n, .string x.s, .slice a1 x.l.length c1] 24)) not_false
  have hr' := heap_alloc_new (w.alloc (.cells #[.int .i64 x.k, .int .i64 x.n, .string x.s, .slice a1 x.l.length c1] 24)) (.cells #[.int .i64 y.k, .int .i64 y.n, .string y.s, .slice a2 y.l.length c2] 24)
  rw [show (w.alloc (.cells #[.int .i64 x.k, .int .i64 x.n, .string x.s, .slice a1 x.l.length c1] 24)).heap.size = w.heap.size + 1 by simp] at hr'
  have HF0 := hid hf; have HR0 := hid hr; have HQ0 := hid hr'
  clear h h' hxs hys hf hr hr'
  go_enter Try.func3, Try.ntmps3
  go_wp2_with fail
  refine (nfirst_any _).mono ?_
  rintro e w1 ⟨rfl, hf1⟩
  have HF1 := hid (HF0.out.trans' hf1); have HR1 := hid (hf1.heap HR0.out not_false); have HQ1 := hid (hf1.heap HQ0.out not_false)
  clear hf1 HF0 HR0 HQ0
  have z0 : w1.cell? ⟨w.heap.size, 0, none⟩ = some (.int .i64 x.k) := by rw [cell_of_row _ _ 0 _ _ _ HR1.out]; rfl
  have z1 : w1.cell? ⟨w.heap.size, 1, none⟩ = some (.int .i64 x.n) := by rw [cell_of_row _ _ 1 _ _ _ HR1.out]; rfl
  have z2 : w1.cell? ⟨w.heap.size, 2, none⟩ = some (.string x.s) := by rw [cell_of_row _ _ 2 _ _ _ HR1.out]; rfl
  have z3 : w1.cell? ⟨w.heap.size, 3, none⟩ = some (.slice a1 x.l.length c1) := by rw [cell_of_row _ _ 3 _ _ _ HR1.out]; rfl
  go_wp2_with fail
  refine (rright_any x (by have := HXS.out; omega) T _ _ (HX.out.fr HF1.out)).mono ?_
  rintro e w2 ⟨rfl, hf2⟩
  have HF2 := hid (HF1.out.trans' hf2); have HR2 := hid (hf2.heap HR1.out not_false); have HQ2 := hid (hf2.heap HQ1.out not_false)
  clear hf2 HF1 HR1 HQ1 z0 z1 z2 z3
  by_cases hrx : x.right = true
  rotate_left
  · rw [Bool.eq_false_iff.2 hrx]
    go_wp2_with fail
    go_ret
    exact ⟨rfl, HF2.out⟩
  rw [hrx]
  have q0 : w2.cell? ⟨w.heap.size + 1, 0, none⟩ = some (.int .i64 y.k) := by rw [cell_of_row _ _ 0 _ _ _ HQ2.out]; rfl
  have q1 : w2.cell? ⟨w.heap.size + 1, 1, none⟩ = some (.int .i64 y.n) := by rw [cell_of_row _ _ 1 _ _ _ HQ2.out]; rfl
  have q2 : w2.cell? ⟨w.heap.size + 1, 2, none⟩ = some (.string y.s) := by rw [cell_of_row _ _ 2 _ _ _ HQ2.out]; rfl
  have q3 : w2.cell? ⟨w.heap.size + 1, 3, none⟩ = some (.slice a2 y.l.length c2) := by rw [cell_of_row _ _ 3 _ _ _ HQ2.out]; rfl
  go_wp2_with fail
  refine (rright_any y (by have := HYS.out; omega) T _ _ (HY.out.fr HF2.out)).mono ?_
  rintro e w3 ⟨rfl, hf3⟩
  have HF3 := hid (HF2.out.trans' hf3); have HR3 := hid (hf3.heap HR2.out not_false); have HQ3 := hid (hf3.heap HQ2.out not_false)
  clear hf3 HF2 HR2 HQ2 q0 q1 q2 q3
  by_cases hry : y.right = true
  rotate_left
  · rw [Bool.eq_false_iff.2 hry]
    go_wp2_with fail
    go_ret
    exact ⟨rfl, HF3.out⟩
  rw [hry]
  have hkx := right_kr hrx
  have hky := right_kr hry
  obtain ⟨c, e1, e2, e3, e4, hsix⟩ := six_ok x y hrx hry
  have D12 := fun w1 (hf : Fr (fun _ => False) w w1) => two_ord 12 (.inl rfl) x y hkx hky w1 _ _ (HX.out.fr hf) (HY.out.fr hf)
  have D14 := fun w1 (hf : Fr (fun _ => False) w w1) => two_ord 14 (.inr (.inr (.inl rfl))) x y hkx hky w1 _ _ (HX.out.fr hf) (HY.out.fr hf)
  have D13 := fun w1 (hf : Fr (fun _ => False) w w1) => two_ord 13 (.inr (.inl rfl)) x y hkx hky w1 _ _ (HX.out.fr hf) (HY.out.fr hf)
  have D15 := fun w1 (hf : Fr (fun _ => False) w w1) => two_ord 15 (.inr (.inr (.inr rfl))) x y hkx hky w1 _ _ (HX.out.fr hf) (HY.out.fr hf)
  have D10 := fun w1 (hf : Fr (fun _ => False) w w1) => two_eq x y w1 _ _ (HX.out.fr hf) (HY.out.fr hf)
  have D11 := fun w1 (hf : Fr (fun _ => False) w w1) => two_ne x y w1 _ _ (HX.out.fr hf) (HY.out.fr hf)
  simp only [e1, e2, e3, e4] at D12 D14 D13 D15
  generalize (pOrd 12 x y).1 = r1 at *
  generalize (pOrd 14 x y).1 = r2 at *
  generalize (pOrd 13 x y).1 = r3 at *
  generalize (pOrd 15 x y).1 = r4 at *
  generalize (if V.same x y = true then (1 : Int) else 0) = r5 at *
  generalize (if V.same x y = true then (0 : Int) else 1) = r6 at *
  unfold cI at D12 D14 D13 D15 D10 D11
  have C12 := hid D12
  have C14 := hid D14
  have C13 := hid D13
  have C15 := hid D15
  have C10 := hid D10
  have C11 := hid D11
  have HSIX := hid hsix
  clear hkx hky e1 e2 e3 e4 hsix hrx hry D12 D14 D13 D15 D10 D11
  have z0 : w3.cell? ⟨w.heap.size, 0, none⟩ = some (.int .i64 x.k) := by rw [cell_of_row _ _ 0 _ _ _ HR3.out]; rfl
  have z1 : w3.cell? ⟨w.heap.size, 1, none⟩ = some (.int .i64 x.n) := by rw [cell_of_row _ _ 1 _ _ _ HR3.out]; rfl
  have z2 : w3.cell? ⟨w.heap.size, 2, none⟩ = some (.string x.s) := by rw [cell_of_row _ _ 2 _ _ _ HR3.out]; rfl
  have z3 : w3.cell? ⟨w.heap.size, 3, none⟩ = some (.slice a1 x.l.length c1) := by rw [cell_of_row _ _ 3 _ _ _ HR3.out]; rfl
  have q0 : w3.cell? ⟨w.heap.size + 1, 0, none⟩ = some (.int .i64 y.k) := by rw [cell_of_row _ _ 0 _ _ _ HQ3.out]; rfl
  have q1 : w3.cell? ⟨w.heap.size + 1, 1, none⟩ = some (.int .i64 y.n) := by rw [cell_of_row _ _ 1 _ _ _ HQ3.out]; rfl
  have q2 : w3.cell? ⟨w.heap.size + 1, 2, none⟩ = some (.string y.s) := by rw [cell_of_row _ _ 2 _ _ _ HQ3.out]; rfl
  have q3 : w3.cell? ⟨w.heap.size + 1, 3, none⟩ = some (.slice a2 y.l.length c2) := by rw [cell_of_row _ _ 3 _ _ _ HQ3.out]; rfl
  go_wp2_with fail
  refine (C12.out _ HF3.out).mono ?_
  rintro e w4 ⟨rfl, hf4⟩
  have hfa := hf4.alloc (.cells #[.int .i64 0, .int .i64 r1, .string ⟨#[]⟩, .slice none 0 0] 24)
  have HF4 := hid (HF3.out.trans' hfa); have HR4 := hid (hfa.heap HR3.out not_false); have HQ4 := hid (hfa.heap HQ3.out not_false)
  have P12 := hid (heap_alloc_new w4 (.cells #[.int .i64 0, .int .i64 r1, .string ⟨#[]⟩, .slice none 0 0] 24))
  clear hf4 hfa HF3 HR3 HQ3 z0 z1 z2 z3 q0 q1 q2 q3
  go_upto_region 7 with fail
  generalize w4.alloc (.cells #[.int .i64 0, .int .i64 r1, .string ⟨#[]⟩, .slice none 0 0] 24) = W4 at *
  have z0 : W4.cell? ⟨w.heap.size, 0, none⟩ = some (.int .i64 x.k) := by rw [cell_of_row _ _ 0 _ _ _ HR4.out]; rfl
  have z1 : W4.cell? ⟨w.heap.size, 1, none⟩ = some (.int .i64 x.n) := by rw [cell_of_row _ _ 1 _ _ _ HR4.out]; rfl
  have z2 : W4.cell? ⟨w.heap.size, 2, none⟩ = some (.string x.s) := by rw [cell_of_row _ _ 2 _ _ _ HR4.out]; rfl
  have z3 : W4.cell? ⟨w.heap.size, 3, none⟩ = some (.slice a1 x.l.length c1) := by rw [cell_of_row _ _ 3 _ _ _ HR4.out]; rfl
  have q0 : W4.cell? ⟨w.heap.size + 1, 0, none⟩ = some (.int .i64 y.k) := by rw [cell_of_row _ _ 0 _ _ _ HQ4.out]; rfl
  have q1 : W4.cell? ⟨w.heap.size + 1, 1, none⟩ = some (.int .i64 y.n) := by rw [cell_of_row _ _ 1 _ _ _ HQ4.out]; rfl
  have q2 : W4.cell? ⟨w.heap.size + 1, 2, none⟩ = some (.string y.s) := by rw [cell_of_row _ _ 2 _ _ _ HQ4.out]; rfl
  have q3 : W4.cell? ⟨w.heap.size + 1, 3, none⟩ = some (.slice a2 y.l.length c2) := by rw [cell_of_row _ _ 3 _ _ _ HQ4.out]; rfl
  go_wp2_with fail
  refine (C14.out _ HF4.out).mono ?_
  rintro e w5 ⟨rfl, hf5⟩
  have hfa := hf5.alloc (.cells #[.int .i64 0, .int .i64 r2, .string ⟨#[]⟩, .slice none 0 0] 24)
  have HF5 := hid (HF4.out.trans' hfa); have HR5 := hid (hfa.heap HR4.out not_false); have HQ5 := hid (hfa.heap HQ4.out not_false)
  have P14 := hid (heap_alloc_new w5 (.cells #[.int .i64 0, .int .i64 r2, .string ⟨#[]⟩, .slice none 0 0] 24))
  have P12 := hid (hfa.heap P12.out not_false)
  clear hf5 hfa HF4 HR4 HQ4 z0 z1 z2 z3 q0 q1 q2 q3
  go_upto_region 8 with fail
  generalize w5.alloc (.cells #[.int .i64 0, .int .i64 r2, .string ⟨#[]⟩, .slice none 0 0] 24) = W5 at *
  have z0 : W5.cell? ⟨w.heap.size, 0, none⟩ = some (.int .i64 x.k) := by rw [cell_of_row _ _ 0 _ _ _ HR5.out]; rfl
  have z1 : W5.cell? ⟨w.heap.size, 1, none⟩ = some (.int .i64 x.n) := by rw [cell_of_row _ _ 1 _ _ _ HR5.out]; rfl
  have z2 : W5.cell? ⟨w.heap.size, 2, none⟩ = some (.string x.s) := by rw [cell_of_row _ _ 2 _ _ _ HR5.out]; rfl
  have z3 : W5.cell? ⟨w.heap.size, 3, none⟩ = some (.slice a1 x.l.length c1) := by rw [cell_of_row _ _ 3 _ _ _ HR5.out]; rfl
  have q0 : W5.cell? ⟨w.heap.size + 1, 0, none⟩ = some (.int .i64 y.k) := by rw [cell_of_row _ _ 0 _ _ _ HQ5.out]; rfl
  have q1 : W5.cell? ⟨w.heap.size + 1, 1, none⟩ = some (.int .i64 y.n) := by rw [cell_of_row _ _ 1 _ _ _ HQ5.out]; rfl
  have q2 : W5.cell? ⟨w.heap.size + 1, 2, none⟩ = some (.string y.s) := by rw [cell_of_row _ _ 2 _ _ _ HQ5.out]; rfl
  have q3 : W5.cell? ⟨w.heap.size + 1, 3, none⟩ = some (.slice a2 y.l.length c2) := by rw [cell_of_row _ _ 3 _ _ _ HQ5.out]; rfl
  go_wp2_with fail
  refine (C13.out _ HF5.out).mono ?_
  rintro e w6 ⟨rfl, hf6⟩
  have hfa := hf6.alloc (.cells #[.int .i64 0, .int .i64 r3, .string ⟨#[]⟩, .slice none 0 0] 24)
  have HF6 := hid (HF5.out.trans' hfa); have HR6 := hid (hfa.heap HR5.out not_false); have HQ6 := hid (hfa.heap HQ5.out not_false)
  have P13 := hid (heap_alloc_new w6 (.cells #[.int .i64 0, .int .i64 r3, .string ⟨#[]⟩, .slice none 0 0] 24))
  have P12 := hid (hfa.heap P12.out not_false)
  have P14 := hid (hfa.heap P14.out not_false)
  clear hf6 hfa HF5 HR5 HQ5 z0 z1 z2 z3 q0 q1 q2 q3
  go_upto_region 9 with fail
  generalize w6.alloc (.cells #[.int .i64 0, .int .i64 r3, .string ⟨#[]⟩, .slice none 0 0] 24) = W6 at *
  have z0 : W6.cell? ⟨w.heap.size, 0, none⟩ = some (.int .i64 x.k) := by rw [cell_of_row _ _ 0 _ _ _ HR6.out]; rfl
  have z1 : W6.cell? ⟨w.heap.size, 1, none⟩ = some (.int .i64 x.n) := by rw [cell_of_row _ _ 1 _ _ _ HR6.out]; rfl
  have z2 : W6.cell? ⟨w.heap.size, 2, none⟩ = some (.string x.s) := by rw [cell_of_row _ _ 2 _ _ _ HR6.out]; rfl
  have z3 : W6.cell? ⟨w.heap.size, 3, none⟩ = some (.slice a1 x.l.length c1) := by rw [cell_of_row _ _ 3 _ _ _ HR6.out]; rfl
  have q0 : W6.cell? ⟨w.heap.size + 1, 0, none⟩ = some (.int .i64 y.k) := by rw [cell_of_row _ _ 0 _ _ _ HQ6.out]; rfl
  have q1 : W6.cell? ⟨w.heap.size + 1, 1, none⟩ = some (.int .i64 y.n) := by rw [cell_of_row _ _ 1 _ _ _ HQ6.out]; rfl
  have q2 : W6.cell? ⟨w.heap.size + 1, 2, none⟩ = some (.string y.s) := by rw [cell_of_row _ _ 2 _ _ _ HQ6.out]; rfl
  have q3 : W6.cell? ⟨w.heap.size + 1, 3, none⟩ = some (.slice a2 y.l.length c2) := by rw [cell_of_row _ _ 3 _ _ _ HQ6.out]; rfl
  go_wp2_with fail
  refine (C15.out _ HF6.out).mono ?_
  rintro e w7 ⟨rfl, hf7⟩
  have hfa := hf7.alloc (.cells #[.int .i64 0, .int .i64 r4, .string ⟨#[]⟩, .slice none 0 0] 24)
  have HF7 := hid (HF6.out.trans' hfa); have HR7 := hid (hfa.heap HR6.out not_false); have HQ7 := hid (hfa.heap HQ6.out not_false)
  have P15 := hid (heap_alloc_new w7 (.cells #[.int .i64 0, .int .i64 r4, .string ⟨#[]⟩, .slice none 0 0] 24))
  have P12 := hid (hfa.heap P12.out not_false)
  have P14 := hid (hfa.heap P14.out not_false)
  have P13 := hid (hfa.heap P13.out not_false)
  clear hf7 hfa HF6 HR6 HQ6 z0 z1 z2 z3 q0 q1 q2 q3
  go_upto_region 10 with fail
  generalize w7.alloc (.cells #[.int .i64 0, .int .i64 r4, .string ⟨#[]⟩, .slice none 0 0] 24) = W7 at *
  have z0 : W7.cell? ⟨w.heap.size, 0, none⟩ = some (.int .i64 x.k) := by rw [cell_of_row _ _ 0 _ _ _ HR7.out]; rfl
  have z1 : W7.cell? ⟨w.heap.size, 1, none⟩ = some (.int .i64 x.n) := by rw [cell_of_row _ _ 1 _ _ _ HR7.out]; rfl
  have z2 : W7.cell? ⟨w.heap.size, 2, none⟩ = some (.string x.s) := by rw [cell_of_row _ _ 2 _ _ _ HR7.out]; rfl
  have z3 : W7.cell? ⟨w.heap.size, 3, none⟩ = some (.slice a1 x.l.length c1) := by rw [cell_of_row _ _ 3 _ _ _ HR7.out]; rfl
  have q0 : W7.cell? ⟨w.heap.size + 1, 0, none⟩ = some (.int .i64 y.k) := by rw [cell_of_row _ _ 0 _ _ _ HQ7.out]; rfl
  have q1 : W7.cell? ⟨w.heap.size + 1, 1, none⟩ = some (.int .i64 y.n) := by rw [cell_of_row _ _ 1 _ _ _ HQ7.out]; rfl
  have q2 : W7.cell? ⟨w.heap.size + 1, 2, none⟩ = some (.string y.s) := by rw [cell_of_row _ _ 2 _ _ _ HQ7.out]; rfl
  have q3 : W7.cell? ⟨w.heap.size + 1, 3, none⟩ = some (.slice a2 y.l.length c2) := by rw [cell_of_row _ _ 3 _ _ _ HQ7.out]; rfl
  go_wp2_with fail
  refine (C10.out _ HF7.out).mono ?_
  rintro e w8 ⟨rfl, hf8⟩
  have hfa := hf8.alloc (.cells #[.int .i64 0, .int .i64 r5, .string ⟨#[]⟩, .slice none 0 0] 24)
  have HF8 := hid (HF7.out.trans' hfa); have HR8 := hid (hfa.heap HR7.out not_false); have HQ8 := hid (hfa.heap HQ7.out not_false)
  have P10 := hid (heap_alloc_new w8 (.cells #[.int .i64 0, .int .i64 r5, .string ⟨#[]⟩, .slice none 0 0] 24))
  have P12 := hid (hfa.heap P12.out not_false)
  have P14 := hid (hfa.heap P14.out not_false)
  have P13 := hid (hfa.heap P13.out not_false)
  have P15 := hid (hfa.heap P15.out not_false)
  clear hf8 hfa HF7 HR7 HQ7 z0 z1 z2 z3 q0 q1 q2 q3
  go_upto_region 11 with fail
  generalize w8.alloc (.cells #[.int .i64 0, .int .i64 r5, .string ⟨#[]⟩, .slice none 0 0] 24) = W8 at *
  have z0 : W8.cell? ⟨w.heap.size, 0, none⟩ = some (.int .i64 x.k) := by rw [cell_of_row _ _ 0 _ _ _ HR8.out]; rfl
  have z1 : W8.cell? ⟨w.heap.size, 1, none⟩ = some (.int .i64 x.n) := by rw [cell_of_row _ _ 1 _ _ _ HR8.out]; rfl
  have z2 : W8.cell? ⟨w.heap.size, 2, none⟩ = some (.string x.s) := by rw [cell_of_row _ _ 2 _ _ _ HR8.out]; rfl
  have z3 : W8.cell? ⟨w.heap.size, 3, none⟩ = some (.slice a1 x.l.length c1) := by rw [cell_of_row _ _ 3 _ _ _ HR8.out]; rfl
  have q0 : W8.cell? ⟨w.heap.size + 1, 0, none⟩ = some (.int .i64 y.k) := by rw [cell_of_row _ _ 0 _ _ _ HQ8.out]; rfl
  have q1 : W8.cell? ⟨w.heap.size + 1, 1, none⟩ = some (.int .i64 y.n) := by rw [cell_of_row _ _ 1 _ _ _ HQ8.out]; rfl
  have q2 : W8.cell? ⟨w.heap.size + 1, 2, none⟩ = some (.string y.s) := by rw [cell_of_row _ _ 2 _ _ _ HQ8.out]; rfl
  have q3 : W8.cell? ⟨w.heap.size + 1, 3, none⟩ = some (.slice a2 y.l.length c2) := by rw [cell_of_row _ _ 3 _ _ _ HQ8.out]; rfl
  go_wp2_with fail
  refine (C11.out _ HF8.out).mono ?_
  rintro e w9 ⟨rfl, hf9⟩
  have hfa := hf9.alloc (.cells #[.int .i64 0, .int .i64 r6, .string ⟨#[]⟩, .slice none 0 0] 24)
  have HF9 := hid (HF8.out.trans' hfa); have HR9 := hid (hfa.heap HR8.out not_false); have HQ9 := hid (hfa.heap HQ8.out not_false)
  have P11 := hid (heap_alloc_new w9 (.cells #[.int .i64 0, .int .i64 r6, .string ⟨#[]⟩, .slice none 0 0] 24))
  have P12 := hid (hfa.heap P12.out not_false)
  have P14 := hid (hfa.heap P14.out not_false)
  have P13 := hid (hfa.heap P13.out not_false)
  have P15 := hid (hfa.heap P15.out not_false)
  have P10 := hid (hfa.heap P10.out not_false)
  clear hf9 hfa HF8 HR8 HQ8 z0 z1 z2 z3 q0 q1 q2 q3
  go_upto_region 12 with fail
  generalize w9.alloc (.cells #[.int .i64 0, .int .i64 r6, .string ⟨#[]⟩, .slice none 0 0] 24) = W9 at *
  have HSX := HSIX.out
  have z0 : W9.cell? ⟨w.heap.size, 0, none⟩ = some (.int .i64 x.k) := by rw [cell_of_row _ _ 0 _ _ _ HR9.out]; rfl
  have q0 : W9.cell? ⟨w.heap.size + 1, 0, none⟩ = some (.int .i64 y.k) := by rw [cell_of_row _ _ 0 _ _ _ HQ9.out]; rfl
  have p12 : W9.cell? ⟨w4.heap.size, 1, none⟩ = some (.int .i64 r1) := by rw [cell_of_row _ _ 1 _ _ _ P12.out]; rfl
  have p14 : W9.cell? ⟨w5.heap.size, 1, none⟩ = some (.int .i64 r2) := by rw [cell_of_row _ _ 1 _ _ _ P14.out]; rfl
  have p13 : W9.cell? ⟨w6.heap.size, 1, none⟩ = some (.int .i64 r3) := by rw [cell_of_row _ _ 1 _ _ _ P13.out]; rfl
  have p15 : W9.cell? ⟨w7.heap.size, 1, none⟩ = some (.int .i64 r4) := by rw [cell_of_row _ _ 1 _ _ _ P15.out]; rfl
  have p10 : W9.cell? ⟨w8.heap.size, 1, none⟩ = some (.int .i64 r5) := by rw [cell_of_row _ _ 1 _ _ _ P10.out]; rfl
  have p11 : W9.cell? ⟨w9.heap.size, 1, none⟩ = some (.int .i64 r6) := by rw [cell_of_row _ _ 1 _ _ _ P11.out]; rfl
  clear HSIX HX HY HXS HYS HR9 HQ9 P12 P14 P13 P15 P10 P11 C12 C14 C13 C15 C10 C11
  rcases HSX with ⟨hk, rfl, hr⟩ | ⟨hk, hk4, rfl, hr⟩
  · rcases hk with hk | hk
    · have q1 : (x.k != y.k) = true := by simpa using hk
      clear hk
      rcases hr with ⟨rfl, rfl⟩ | ⟨rfl, rfl⟩
      all_goals
        go_wp2_with fail
        go_ret
        exact ⟨rfl, HF9.out⟩
    · by_cases hkk : x.k = y.k
      · have q1 : (x.k != y.k) = false := by simpa using hkk
        have q2 : (x.k == 4) = true := by simpa using hk
        clear hk hkk
        rcases hr with ⟨rfl, rfl⟩ | ⟨rfl, rfl⟩
        all_goals
          go_wp2_with fail
          go_ret
          exact ⟨rfl, HF9.out⟩
      · have q1 : (x.k != y.k) = true := by simpa using hkk
        clear hk hkk
        rcases hr with ⟨rfl, rfl⟩ | ⟨rfl, rfl⟩
        all_goals
          go_wp2_with fail
          go_ret
          exact ⟨rfl, HF9.out⟩
  · have q1 : (x.k != y.k) = false := by simpa using hk
    have q2 : (x.k == 4) = false := by simpa using hk4
    clear hk hk4
    rcases hr with ⟨rfl, rfl, rfl, rfl, rfl, rfl⟩ | ⟨rfl, rfl, rfl, rfl, rfl, rfl⟩ | ⟨rfl, rfl, rfl, rfl, rfl, rfl⟩
    all_goals
      go_wp2_with fail
      go_ret
      exact ⟨rfl, HF9.out⟩
end Go.Proofs.Ytjngddmjgcecnaa
