/- The law's first, and right. -/
import Derived.Test.YtebanmigaikhhaaSeqH
import Derived.Test.YtebanmigaikhhaaRefMade
import Derived.Test.YtebanmigaikhhaaRefFits
namespace Go.Proofs.Ytebanmigaikhhaa
open Go.RowKit

def VI (n : Int) : V := .mk 0 n ⟨#[]⟩ []
theorem VI.inn (D : Nat → Prop) (w : World) (n : Int) : VIn D w (VI n) #[.int .i64 0, .int .i64 n, .string ⟨#[]⟩, .slice none 0 0] := (VL.nil D w).close 0 n ⟨#[]⟩
theorem first_list : pIns [VI 1, VI 3] (VI 2) 2 = ([VI 1, VI 2, VI 3], 0) := by
  have h1 : pAt [VI 1, VI 3] 2 = 1 := rfl
  have h2 : mcode [VI 1, VI 2, VI 3] = 0 := by decide
  unfold pIns
  rw [h1]
  show (mlist [VI 1, VI 2, VI 3], ((mcode [VI 1, VI 2, VI 3] : Nat) : Int)) = _
  unfold mlist
  rw [h2]
  rfl
set_option maxRecDepth 100000 in
set_option maxHeartbeats 1600000 in
theorem first_any (w : World) : Calls Try.prog 8 #[] w fun e w' => e = .returned (.bool true) ∧ Fr (fun _ => False) w w' := by
  go_enter Try.func8, Try.ntmps8
  go_wp2_with fail
  refine (vI_any 1 w).mono ?_
  rintro e w1 ⟨rfl, hf1⟩
  go_wp2_with fail
  refine (vI_any 3 w1).mono ?_
  rintro e w2 ⟨rfl, hf2⟩
  have hf3 := (hf1.trans' hf2).alloc (.cells #[.int .i64 0, .int .i64 1, .string ⟨#[]⟩, .slice none 0 0, .int .i64 0, .int .i64 3, .string ⟨#[]⟩, .slice none 0 0] 30)
  have hr3 := heap_alloc_new w2 (.cells #[.int .i64 0, .int .i64 1, .string ⟨#[]⟩, .slice none 0 0, .int .i64 0, .int .i64 3, .string ⟨#[]⟩, .slice none 0 0] 30)
  go_wp2_with fail
  refine (vI_any 2 _).mono ?_
  rintro e w3 ⟨rfl, hf4⟩
  have hr4 := hf4.heap hr3 not_false
  have hvl : VL T w3 [VI 1, VI 3] (.slice (some ⟨w2.heap.size, 0, none⟩) 2 2) := by
    refine ⟨_, 2, fun i => if i = 0 then #[.int .i64 0, .int .i64 1, .string ⟨#[]⟩, .slice none 0 0] else #[.int .i64 0, .int .i64 3, .string ⟨#[]⟩, .slice none 0 0], rfl, Nat.le_refl _, by simp [maxLen], (fun e => by cases e), fun i hi => ⟨w2.heap.size, 0, rfl, trivial, ?_, fun j hj => ?_⟩, fun i x hx => ?_⟩
    · dsimp only
      split <;> rfl
    · have hi2 : i = 0 ∨ i = 1 := by simp at hi; omega
      rw [cell_of_row _ _ _ _ _ _ hr4]
      rcases hi2 with rfl | rfl <;> (obtain rfl | rfl | rfl | rfl : j = 0 ∨ j = 1 ∨ j = 2 ∨ j = 3 := by omega) <;> rfl
    · have hi2 : i = 0 ∨ i = 1 := by have := (List.getElem?_eq_some_iff.1 hx).1; simp at this; omega
      rcases hi2 with rfl | rfl
      · cases hx; exact VI.inn _ _ _
      · cases hx; exact VI.inn _ _ _
  have HF := hid (hf3.trans' hf4); have HVL := hid hvl
  clear hf1 hf2 hf3 hf4 hr3 hr4 hvl
  go_wp2_with fail
  refine (insert_any [VI 1, VI 3] (VI 2) _ _ 2 w3 HVL.out (VI.inn _ _ _) (by decide) (by decide)).mono ?_
  rintro e w4 ⟨v', rfl, hf5, hv5⟩
  rw [first_list] at hv5 ⊢
  obtain ⟨a, c, us, rfl, hc, hm, hn, hb, hi⟩ := id hv5
  obtain ⟨b, o, y, a', c', rfl, -, hy, hv, e0, e1, e2, e3⟩ := VL.elem hb hi 1 (by decide)
  cases hy
  have HF5 := hid (HF.out.trans' hf5)
  clear hf5 hv5 hb hi hn hv e0 e2 e3
  go_wp2_with fail
  go_ret
  exact ⟨rfl, HF5.out⟩

/-- A right list. -/
def rightL (l : List V) : Bool := (decide (l.length ≤ 5000) && l.all V.right) && (V.mk 4 0 ⟨#[]⟩ l).right
set_option maxHeartbeats 1600000 in
theorem right_any (l : List V) (v : Value) (w : World) (h : VL T w l v) (hl : sizeL l ≤ 1073741824) : Calls Try.prog 16 #[v] w fun e w' => e = .returned (.bool (rightL l)) ∧ Fr (fun _ => False) w w' := by
  have hc1 := rights_any 5000 l (by omega) T w v h
  have hc2 := fun w' (hf : Fr (fun _ => False) w w') => rright_any (.mk 4 0 ⟨#[]⟩ l) (by rw [V.size, show (ByteArray.size ⟨#[]⟩) = 0 from rfl]; omega) T w' _ ((h.fr hf).close 4 0 ⟨#[]⟩)
  obtain ⟨a, c, us, rfl, -⟩ := id h
  have hr : rightL l = ((decide (l.length ≤ 5000) && l.all V.right) && (V.mk 4 0 ⟨#[]⟩ l).right) := rfl
  generalize (decide (l.length ≤ 5000) && l.all V.right) = b1 at *
  generalize (V.mk 4 0 ⟨#[]⟩ l).right = b2 at *
  have HR := hid hr; have H1 := hid hc1; have H2 := hid hc2
  clear h hl hr hc1 hc2
  go_enter Try.func16, Try.ntmps16
  go_wp2_with fail
  refine H1.out.mono ?_
  rintro e w1 ⟨rfl, hf⟩
  have HF := hid hf
  clear hf
  cases b1 with
  | false =>
    go_wp2_with fail
    go_ret
    exact ⟨ret_bool HR.out.symm, HF.out⟩
  | true =>
    go_wp2_with fail
    refine (H2.out _ HF.out).mono ?_
    rintro e w2 ⟨rfl, hf2⟩
    have HF2 := hid (HF.out.trans' hf2)
    clear hf2
    go_wp2_with fail
    go_ret
    exact ⟨ret_bool HR.out.symm, HF2.out⟩
theorem rightL_ok {l : List V} (h : rightL l = true) : 1 + deepL l ≤ 40 ∧ 1 + sizeL l ≤ 4096 ∧ kindedL l ∧ l.length ≤ 4095 := by
  unfold rightL at h
  simp only [Bool.and_eq_true] at h
  obtain ⟨a, b, c⟩ := right_ok h.2
  rw [V.deep] at a
  rw [V.size, show (ByteArray.size ⟨#[]⟩) = 0 from rfl] at b
  have := len_le_sizeL l
  exact ⟨a, by omega, c.2.2, by omega⟩
end Go.Proofs.Ytebanmigaikhhaa
