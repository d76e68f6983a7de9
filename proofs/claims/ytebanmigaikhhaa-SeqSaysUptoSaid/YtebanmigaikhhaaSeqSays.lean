/- The statement SeqSays, walked. -/
import Derived.Test.YtebanmigaikhhaaSeqFirst
import Derived.Test.YtebanmigaikhhaaRefSame
import Derived.Test.YtebanmigaikhhaaRefSeqB
namespace Go.Proofs.Ytebanmigaikhhaa
open Go.RowKit

def MP (w : World) (l : List V) (c : Int) (e : Ending) (w' : World) : Prop := ∃ v', e = .returned (.tuple #[v', .int .i64 c]) ∧ Fr (fun _ => False) w w' ∧ VL T w' l v'
def GP (w : World) (x : V) (c : Int) (e : Ending) (w' : World) : Prop := ∃ u, e = .returned (.tuple #[.agg u, .int .i64 c]) ∧ Fr (fun _ => False) w w' ∧ VIn T w' x u

set_option maxRecDepth 100000 in
set_option maxHeartbeats 6400000 in
theorem seqSays_any (l m : List V) (i j : Int) (x : V) (v v2 : Value) (u : Array Value) (w : World) (h : VL T w l v) (hm : VL T w m v2) (hx : VIn T w x u) (hl : sizeL l ≤ 1048576) (hml : sizeL m ≤ 1048576) (hxs : x.size ≤ 1048576) :
    Calls Try.prog 5 #[v, v2, .int .i64 i, .int .i64 j, .agg u] w fun e w' => e = .returned (.bool true) ∧ Fr (fun _ => False) w w' := by
  obtain ⟨vx, rfl, ax, cx, usx, rfl, -⟩ := hx.open
  have hf := (Fr.refl (fun _ => False) w).alloc (.cells #[.int .i64 x.k, .int .i64 x.n, .string x.s, .slice ax x.l.length cx] 30)
  have hr := heap_alloc_new w (.cells #[.int .i64 x.k, .int .i64 x.n, .string x.s, .slice ax x.l.length cx] 30)
  obtain ⟨a, c, us, rfl, -⟩ := id h
  obtain ⟨am, cm, usm, rfl, -⟩ := id hm
  have HF0 := hid hf; have HR0 := hid hr; have HV := hid h; have HM := hid hm; have HX := hid hx; have HL := hid hl; have HML := hid hml; have HXS := hid hxs
  clear hf hr h hx hl hxs hm hml
  obtain ⟨gx, gc, hg⟩ : ∃ a b, pGet l i = (a, b) := ⟨_, _, rfl⟩
  obtain ⟨cl, cc, hc⟩ : ∃ a b, pCut l i j = (a, b) := ⟨_, _, rfl⟩
  obtain ⟨pl, pc, hp⟩ : ∃ a b, pPut l i x = (a, b) := ⟨_, _, rfl⟩
  obtain ⟨il, ic, hi⟩ : ∃ a b, pIns l x i = (a, b) := ⟨_, _, rfl⟩
  obtain ⟨dl, dc, hd⟩ : ∃ a b, pDel l i = (a, b) := ⟨_, _, rfl⟩
  obtain ⟨tl, tc, ht⟩ : ∃ a b, pCat l m = (a, b) := ⟨_, _, rfl⟩
  have CG := hid (show ∀ w1, Fr (fun _ => False) w w1 → Calls Try.prog 23 #[(.slice a l.length c), .int .i64 i] w1 (GP w1 gx gc) from fun w1 hf => by
    have := get_any l _ i w1 (HV.out.fr hf) (by have := HL.out; omega)
    rw [hg] at this
    exact this)
  have CC := hid (show ∀ w1, Fr (fun _ => False) w w1 → Calls Try.prog 18 #[(.slice a l.length c), .int .i64 i, .int .i64 j] w1 (MP w1 cl cc) from fun w1 hf => by
    have := cut_any l _ i j w1 (HV.out.fr hf) (by have := HL.out; omega)
    rw [hc] at this
    exact this)
  have CP := hid (show ∀ w1, Fr (fun _ => False) w w1 → Calls Try.prog 28 #[(.slice a l.length c), .int .i64 i, .agg #[.int .i64 x.k, .int .i64 x.n, .string x.s, .slice ax x.l.length cx]] w1 (MP w1 pl pc) from fun w1 hf => by
    have := put_any l x _ _ i w1 (HV.out.fr hf) (HX.out.fr hf) (by have := HL.out; omega) (by have := HXS.out; omega)
    rw [hp] at this
    exact this)
  have CI := hid (show ∀ w1, Fr (fun _ => False) w w1 → Calls Try.prog 20 #[(.slice a l.length c), .agg #[.int .i64 x.k, .int .i64 x.n, .string x.s, .slice ax x.l.length cx], .int .i64 i] w1 (MP w1 il ic) from fun w1 hf => by
    have := insert_any l x _ _ i w1 (HV.out.fr hf) (HX.out.fr hf) (by have := HL.out; omega) (by have := HXS.out; omega)
    rw [hi] at this
    exact this)
  have CD := hid (show ∀ w1, Fr (fun _ => False) w w1 → Calls Try.prog 24 #[(.slice a l.length c), .int .i64 i] w1 (MP w1 dl dc) from fun w1 hf => by
    have := delete_any l _ i w1 (HV.out.fr hf) (by have := HL.out; omega)
    rw [hd] at this
    exact this)
  have CT := hid (show ∀ w1, Fr (fun _ => False) w w1 → Calls Try.prog 19 #[(.slice a l.length c), (.slice am m.length cm)] w1 (MP w1 tl tc) from fun w1 hf => by
    have := cat_any l m _ _ w1 (HV.out.fr hf) (HM.out.fr hf) (by have := HL.out; omega) (by have := HML.out; omega)
    rw [ht] at this
    exact this)
  go_enter Try.func5, Try.ntmps5
  go_wp2_with fail
  refine (first_any _).mono ?_
  rintro e w1 ⟨rfl, hf1⟩
  have HF1 := hid (HF0.out.trans' hf1)
  have HR1 := hid (hf1.heap HR0.out not_false)
  clear hf1 HF0 HR0
  go_wp2_with fail
  refine (right_any l _ _ (HV.out.fr HF1.out) (by have := HL.out; omega)).mono ?_
  rintro e w2 ⟨rfl, hf2⟩
  have HF2 := hid (HF1.out.trans' hf2)
  have HR2 := hid (hf2.heap HR1.out not_false)
  clear hf2 HF1 HR1
  by_cases hrl : rightL l = true
  rotate_left
  · rw [Bool.eq_false_iff.2 hrl]
    go_wp2_with fail
    go_ret
    exact ⟨rfl, HF2.out⟩
  rw [hrl]
  go_wp2_with fail
  refine (right_any m _ _ (HM.out.fr HF2.out) (by have := HML.out; omega)).mono ?_
  rintro e w3 ⟨rfl, hf3⟩
  have HF3 := hid (HF2.out.trans' hf3)
  have HR3 := hid (hf3.heap HR2.out not_false)
  clear hf3 HF2 HR2
  by_cases hrm : rightL m = true
  rotate_left
  · rw [Bool.eq_false_iff.2 hrm]
    go_wp2_with fail
    go_ret
    exact ⟨rfl, HF3.out⟩
  rw [hrm]
  have z0 : w3.cell? ⟨w.heap.size, 0, none⟩ = some (.int .i64 x.k) := by rw [cell_of_row _ _ 0 _ _ _ HR3.out]; rfl
  have z1 : w3.cell? ⟨w.heap.size, 1, none⟩ = some (.int .i64 x.n) := by rw [cell_of_row _ _ 1 _ _ _ HR3.out]; rfl
  have z2 : w3.cell? ⟨w.heap.size, 2, none⟩ = some (.string x.s) := by rw [cell_of_row _ _ 2 _ _ _ HR3.out]; rfl
  have z3 : w3.cell? ⟨w.heap.size, 3, none⟩ = some (.slice ax x.l.length cx) := by rw [cell_of_row _ _ 3 _ _ _ HR3.out]; rfl
  go_wp2_with fail
  refine (rright_any x (by have := HXS.out; omega) T _ _ (HX.out.fr HF3.out)).mono ?_
  rintro e w4 ⟨rfl, hf4⟩
  have HF4 := hid (HF3.out.trans' hf4)
  have HR4 := hid (hf4.heap HR3.out not_false)
  clear hf4 HF3 HR3 z0 z1 z2 z3
  by_cases hrx : x.right = true
  rotate_left
  · rw [Bool.eq_false_iff.2 hrx]
    go_wp2_with fail
    go_ret
    exact ⟨rfl, HF4.out⟩
  rw [hrx]
  have hkl := (rightL_ok hrl).2.2.1
  have hkm := (rightL_ok hrm).2.2.1
  have hkx := (right_ok hrx).2.2
  have DG := hid (show ∀ w1, Fr (fun _ => False) w w1 → Calls Try.prog 26 #[(.slice a l.length c), .int .i64 i] w1 (GP w1 gx gc) from fun w1 hf => by
    have := rget_any l _ i w1 (HV.out.fr hf) (by have := HL.out; omega)
    rw [hg] at this
    exact this)
  have DC := hid (show ∀ w1, Fr (fun _ => False) w w1 → Calls Try.prog 27 #[(.slice a l.length c), .int .i64 i, .int .i64 j] w1 (MP w1 cl cc) from fun w1 hf => by
    have := rcut_any l hkl _ i j w1 (HV.out.fr hf) (by have := HL.out; omega)
    rw [hc] at this
    exact this)
  have DP := hid (show ∀ w1, Fr (fun _ => False) w w1 → Calls Try.prog 29 #[(.slice a l.length c), .int .i64 i, .agg #[.int .i64 x.k, .int .i64 x.n, .string x.s, .slice ax x.l.length cx]] w1 (MP w1 pl pc) from fun w1 hf => by
    have := rput_any l hkl x hkx _ _ i w1 (HV.out.fr hf) (HX.out.fr hf) (by have := HL.out; omega) (by have := HXS.out; omega)
    rw [hp] at this
    exact this)
  have DI := hid (show ∀ w1, Fr (fun _ => False) w w1 → Calls Try.prog 30 #[(.slice a l.length c), .agg #[.int .i64 x.k, .int .i64 x.n, .string x.s, .slice ax x.l.length cx], .int .i64 i] w1 (MP w1 il ic) from fun w1 hf => by
    have := rinsert_any l hkl x hkx _ _ i w1 (HV.out.fr hf) (HX.out.fr hf) (by have := HL.out; omega) (by have := HXS.out; omega)
    rw [hi] at this
    exact this)
  have DD := hid (show ∀ w1, Fr (fun _ => False) w w1 → Calls Try.prog 31 #[(.slice a l.length c), .int .i64 i] w1 (MP w1 dl dc) from fun w1 hf => by
    have := rdelete_any l hkl _ i w1 (HV.out.fr hf) (by have := HL.out; omega)
    rw [hd] at this
    exact this)
  have DT := hid (show ∀ w1, Fr (fun _ => False) w w1 → Calls Try.prog 32 #[(.slice a l.length c), (.slice am m.length cm)] w1 (MP w1 tl tc) from fun w1 hf => by
    have := rcat_any l m hkl hkm _ _ w1 (HV.out.fr hf) (HM.out.fr hf) (by have := HL.out; omega) (by have := HML.out; omega)
    rw [ht] at this
    exact this)
  clear hkl hkm hkx hrl hrm hrx hg hc hp hi hd ht
  go_wp2_with fail
  refine (rvalues_of (sizeL l) (rvalue_any (sizeL l)) l (Nat.le_refl _) (by have := HL.out; omega) T _ _ (HV.out.fr HF4.out)).mono ?_
  rintro e w5 ⟨v5, rfl, hf5, hv5⟩
  obtain ⟨a5, c5, us5, rfl, -⟩ := id hv5
  have HF5 := hid (HF4.out.trans' hf5)
  have HR5 := hid (hf5.heap HR4.out not_false)
  have HW5 := hid hv5.t
  clear hf5 hv5 HF4 HR4
  go_wp2_with fail
  refine (CG.out _ HF5.out).mono ?_
  rintro e w6 ⟨u6, rfl, hf6, hv6⟩
  obtain ⟨v6, rfl, a6, c6, us6, rfl, -⟩ := hv6.open
  have hfa := hf6.alloc (.cells #[.int .i64 gx.k, .int .i64 gx.n, .string gx.s, .slice a6 gx.l.length c6] 30)
  have hfb := (Fr.refl (fun _ => False) w6).alloc (.cells #[.int .i64 gx.k, .int .i64 gx.n, .string gx.s, .slice a6 gx.l.length c6] 30)
  have hra := heap_alloc_new w6 (.cells #[.int .i64 gx.k, .int .i64 gx.n, .string gx.s, .slice a6 gx.l.length c6] 30)
  have HF6 := hid (HF5.out.trans' hfa)
  have HW5_6 := hid (HW5.out.fr hfa)
  have HR6 := hid (hfa.heap HR5.out not_false)
  have G1_6 := hid (hv6.fr hfb)
  have G1R_6 := hid hra
  clear hf6 hv6 hfa hfb hra HF5 HW5 HR5
  go_wp2_with fail
  refine (DG.out _ HF6.out).mono ?_
  rintro e w7 ⟨u7, rfl, hf7, hv7⟩
  obtain ⟨v7, rfl, a7, c7, us7, rfl, -⟩ := hv7.open
  have hfa := hf7.alloc (.cells #[.int .i64 gx.k, .int .i64 gx.n, .string gx.s, .slice a7 gx.l.length c7] 30)
  have hfb := (Fr.refl (fun _ => False) w7).alloc (.cells #[.int .i64 gx.k, .int .i64 gx.n, .string gx.s, .slice a7 gx.l.length c7] 30)
  have hra := heap_alloc_new w7 (.cells #[.int .i64 gx.k, .int .i64 gx.n, .string gx.s, .slice a7 gx.l.length c7] 30)
  have HF7 := hid (HF6.out.trans' hfa)
  have HW5_7 := hid (HW5_6.out.fr hfa)
  have G1_7 := hid (G1_6.out.fr hfa)
  have HR7 := hid (hfa.heap HR6.out not_false)
  have G1R_7 := hid (hfa.heap G1R_6.out not_false)
  have G2_7 := hid (hv7.fr hfb)
  have G2R_7 := hid hra
  clear hf7 hv7 hfa hfb hra HF6 HW5_6 G1_6 HR6 G1R_6
  go_wp2_with fail
  refine (CC.out _ HF7.out).mono ?_
  rintro e w8 ⟨v8, rfl, hf8, hv8⟩
  obtain ⟨a8, c8, us8, rfl, -⟩ := id hv8
  have HF8 := hid (HF7.out.trans' hf8)
  have HW5_8 := hid (HW5_7.out.fr hf8)
  have G1_8 := hid (G1_7.out.fr hf8)
  have G2_8 := hid (G2_7.out.fr hf8)
  have HR8 := hid (hf8.heap HR7.out not_false)
  have G1R_8 := hid (hf8.heap G1R_7.out not_false)
  have G2R_8 := hid (hf8.heap G2R_7.out not_false)
  have C1_8 := hid hv8
  clear hf8 hv8 HF7 HW5_7 G1_7 G2_7 HR7 G1R_7 G2R_7
  go_wp2_with fail
  refine (DC.out _ HF8.out).mono ?_
  rintro e w9 ⟨v9, rfl, hf9, hv9⟩
  obtain ⟨a9, c9, us9, rfl, -⟩ := id hv9
  have HF9 := hid (HF8.out.trans' hf9)
  have HW5_9 := hid (HW5_8.out.fr hf9)
  have G1_9 := hid (G1_8.out.fr hf9)
  have G2_9 := hid (G2_8.out.fr hf9)
  have C1_9 := hid (C1_8.out.fr hf9)
  have HR9 := hid (hf9.heap HR8.out not_false)
  have G1R_9 := hid (hf9.heap G1R_8.out not_false)
  have G2R_9 := hid (hf9.heap G2R_8.out not_false)
  have C2_9 := hid hv9
  clear hf9 hv9 HF8 HW5_8 G1_8 G2_8 C1_8 HR8 G1R_8 G2R_8
  have z0 : w9.cell? ⟨w.heap.size, 0, none⟩ = some (.int .i64 x.k) := by rw [cell_of_row _ _ 0 _ _ _ HR9.out]; rfl
  have z1 : w9.cell? ⟨w.heap.size, 1, none⟩ = some (.int .i64 x.n) := by rw [cell_of_row _ _ 1 _ _ _ HR9.out]; rfl
  have z2 : w9.cell? ⟨w.heap.size, 2, none⟩ = some (.string x.s) := by rw [cell_of_row _ _ 2 _ _ _ HR9.out]; rfl
  have z3 : w9.cell? ⟨w.heap.size, 3, none⟩ = some (.slice ax x.l.length cx) := by rw [cell_of_row _ _ 3 _ _ _ HR9.out]; rfl
  go_wp2_with fail
  refine (CP.out _ HF9.out).mono ?_
  rintro e w10 ⟨v10, rfl, hf10, hv10⟩
  obtain ⟨a10, c10, us10, rfl, -⟩ := id hv10
  have HF10 := hid (HF9.out.trans' hf10)
  have HW5_10 := hid (HW5_9.out.fr hf10)
  have G1_10 := hid (G1_9.out.fr hf10)
  have G2_10 := hid (G2_9.out.fr hf10)
  have C1_10 := hid (C1_9.out.fr hf10)
  have C2_10 := hid (C2_9.out.fr hf10)
  have HR10 := hid (hf10.heap HR9.out not_false)
  have G1R_10 := hid (hf10.heap G1R_9.out not_false)
  have G2R_10 := hid (hf10.heap G2R_9.out not_false)
  have P1_10 := hid hv10
  clear hf10 hv10 HF9 HW5_9 G1_9 G2_9 C1_9 C2_9 HR9 G1R_9 G2R_9 z0 z1 z2 z3
  have z0 : w10.cell? ⟨w.heap.size, 0, none⟩ = some (.int .i64 x.k) := by rw [cell_of_row _ _ 0 _ _ _ HR10.out]; rfl
  have z1 : w10.cell? ⟨w.heap.size, 1, none⟩ = some (.int .i64 x.n) := by rw [cell_of_row _ _ 1 _ _ _ HR10.out]; rfl
  have z2 : w10.cell? ⟨w.heap.size, 2, none⟩ = some (.string x.s) := by rw [cell_of_row _ _ 2 _ _ _ HR10.out]; rfl
  have z3 : w10.cell? ⟨w.heap.size, 3, none⟩ = some (.slice ax x.l.length cx) := by rw [cell_of_row _ _ 3 _ _ _ HR10.out]; rfl
  go_wp2_with fail
  refine (DP.out _ HF10.out).mono ?_
  rintro e w11 ⟨v11, rfl, hf11, hv11⟩
  obtain ⟨a11, c11, us11, rfl, -⟩ := id hv11
  have HF11 := hid (HF10.out.trans' hf11)
  have HW5_11 := hid (HW5_10.out.fr hf11)
  have G1_11 := hid (G1_10.out.fr hf11)
  have G2_11 := hid (G2_10.out.fr hf11)
  have C1_11 := hid (C1_10.out.fr hf11)
  have C2_11 := hid (C2_10.out.fr hf11)
  have P1_11 := hid (P1_10.out.fr hf11)
  have HR11 := hid (hf11.heap HR10.out not_false)
  have G1R_11 := hid (hf11.heap G1R_10.out not_false)
  have G2R_11 := hid (hf11.heap G2R_10.out not_false)
  have P2_11 := hid hv11
  clear hf11 hv11 HF10 HW5_10 G1_10 G2_10 C1_10 C2_10 P1_10 HR10 G1R_10 G2R_10 z0 z1 z2 z3
  have z0 : w11.cell? ⟨w.heap.size, 0, none⟩ = some (.int .i64 x.k) := by rw [cell_of_row _ _ 0 _ _ _ HR11.out]; rfl
  have z1 : w11.cell? ⟨w.heap.size, 1, none⟩ = some (.int .i64 x.n) := by rw [cell_of_row _ _ 1 _ _ _ HR11.out]; rfl
  have z2 : w11.cell? ⟨w.heap.size, 2, none⟩ = some (.string x.s) := by rw [cell_of_row _ _ 2 _ _ _ HR11.out]; rfl
  have z3 : w11.cell? ⟨w.heap.size, 3, none⟩ = some (.slice ax x.l.length cx) := by rw [cell_of_row _ _ 3 _ _ _ HR11.out]; rfl
  go_wp2_with fail
  refine (CI.out _ HF11.out).mono ?_
  rintro e w12 ⟨v12, rfl, hf12, hv12⟩
  obtain ⟨a12, c12, us12, rfl, -⟩ := id hv12
  have HF12 := hid (HF11.out.trans' hf12)
  have HW5_12 := hid (HW5_11.out.fr hf12)
  have G1_12 := hid (G1_11.out.fr hf12)
  have G2_12 := hid (G2_11.out.fr hf12)
  have C1_12 := hid (C1_11.out.fr hf12)
  have C2_12 := hid (C2_11.out.fr hf12)
  have P1_12 := hid (P1_11.out.fr hf12)
  have P2_12 := hid (P2_11.out.fr hf12)
  have HR12 := hid (hf12.heap HR11.out not_false)
  have G1R_12 := hid (hf12.heap G1R_11.out not_false)
  have G2R_12 := hid (hf12.heap G2R_11.out not_false)
  have I1_12 := hid hv12
  clear hf12 hv12 HF11 HW5_11 G1_11 G2_11 C1_11 C2_11 P1_11 P2_11 HR11 G1R_11 G2R_11 z0 z1 z2 z3
  have z0 : w12.cell? ⟨w.heap.size, 0, none⟩ = some (.int .i64 x.k) := by rw [cell_of_row _ _ 0 _ _ _ HR12.out]; rfl
  have z1 : w12.cell? ⟨w.heap.size, 1, none⟩ = some (.int .i64 x.n) := by rw [cell_of_row _ _ 1 _ _ _ HR12.out]; rfl
  have z2 : w12.cell? ⟨w.heap.size, 2, none⟩ = some (.string x.s) := by rw [cell_of_row _ _ 2 _ _ _ HR12.out]; rfl
  have z3 : w12.cell? ⟨w.heap.size, 3, none⟩ = some (.slice ax x.l.length cx) := by rw [cell_of_row _ _ 3 _ _ _ HR12.out]; rfl
  go_wp2_with fail
  refine (DI.out _ HF12.out).mono ?_
  rintro e w13 ⟨v13, rfl, hf13, hv13⟩
  obtain ⟨a13, c13, us13, rfl, -⟩ := id hv13
  have HF13 := hid (HF12.out.trans' hf13)
  have HW5_13 := hid (HW5_12.out.fr hf13)
  have G1_13 := hid (G1_12.out.fr hf13)
  have G2_13 := hid (G2_12.out.fr hf13)
  have C1_13 := hid (C1_12.out.fr hf13)
  have C2_13 := hid (C2_12.out.fr hf13)
  have P1_13 := hid (P1_12.out.fr hf13)
  have P2_13 := hid (P2_12.out.fr hf13)
  have I1_13 := hid (I1_12.out.fr hf13)
  have HR13 := hid (hf13.heap HR12.out not_false)
  have G1R_13 := hid (hf13.heap G1R_12.out not_false)
  have G2R_13 := hid (hf13.heap G2R_12.out not_false)
  have I2_13 := hid hv13
  clear hf13 hv13 HF12 HW5_12 G1_12 G2_12 C1_12 C2_12 P1_12 P2_12 I1_12 HR12 G1R_12 G2R_12 z0 z1 z2 z3
  go_wp2_with fail
  refine (CD.out _ HF13.out).mono ?_
  rintro e w14 ⟨v14, rfl, hf14, hv14⟩
  obtain ⟨a14, c14, us14, rfl, -⟩ := id hv14
  have HF14 := hid (HF13.out.trans' hf14)
  have HW5_14 := hid (HW5_13.out.fr hf14)
  have G1_14 := hid (G1_13.out.fr hf14)
  have G2_14 := hid (G2_13.out.fr hf14)
  have C1_14 := hid (C1_13.out.fr hf14)
  have C2_14 := hid (C2_13.out.fr hf14)
  have P1_14 := hid (P1_13.out.fr hf14)
  have P2_14 := hid (P2_13.out.fr hf14)
  have I1_14 := hid (I1_13.out.fr hf14)
  have I2_14 := hid (I2_13.out.fr hf14)
  have HR14 := hid (hf14.heap HR13.out not_false)
  have G1R_14 := hid (hf14.heap G1R_13.out not_false)
  have G2R_14 := hid (hf14.heap G2R_13.out not_false)
  have D1_14 := hid hv14
  clear hf14 hv14 HF13 HW5_13 G1_13 G2_13 C1_13 C2_13 P1_13 P2_13 I1_13 I2_13 HR13 G1R_13 G2R_13
  go_wp2_with fail
  refine (DD.out _ HF14.out).mono ?_
  rintro e w15 ⟨v15, rfl, hf15, hv15⟩
  obtain ⟨a15, c15, us15, rfl, -⟩ := id hv15
  have HF15 := hid (HF14.out.trans' hf15)
  have HW5_15 := hid (HW5_14.out.fr hf15)
  have G1_15 := hid (G1_14.out.fr hf15)
  have G2_15 := hid (G2_14.out.fr hf15)
  have C1_15 := hid (C1_14.out.fr hf15)
  have C2_15 := hid (C2_14.out.fr hf15)
  have P1_15 := hid (P1_14.out.fr hf15)
  have P2_15 := hid (P2_14.out.fr hf15)
  have I1_15 := hid (I1_14.out.fr hf15)
  have I2_15 := hid (I2_14.out.fr hf15)
  have D1_15 := hid (D1_14.out.fr hf15)
  have HR15 := hid (hf15.heap HR14.out not_false)
  have G1R_15 := hid (hf15.heap G1R_14.out not_false)
  have G2R_15 := hid (hf15.heap G2R_14.out not_false)
  have D2_15 := hid hv15
  clear hf15 hv15 HF14 HW5_14 G1_14 G2_14 C1_14 C2_14 P1_14 P2_14 I1_14 I2_14 D1_14 HR14 G1R_14 G2R_14
  go_wp2_with fail
  refine (CT.out _ HF15.out).mono ?_
  rintro e w16 ⟨v16, rfl, hf16, hv16⟩
  obtain ⟨a16, c16, us16, rfl, -⟩ := id hv16
  have HF16 := hid (HF15.out.trans' hf16)
  have HW5_16 := hid (HW5_15.out.fr hf16)
  have G1_16 := hid (G1_15.out.fr hf16)
  have G2_16 := hid (G2_15.out.fr hf16)
  have C1_16 := hid (C1_15.out.fr hf16)
  have C2_16 := hid (C2_15.out.fr hf16)
  have P1_16 := hid (P1_15.out.fr hf16)
  have P2_16 := hid (P2_15.out.fr hf16)
  have I1_16 := hid (I1_15.out.fr hf16)
  have I2_16 := hid (I2_15.out.fr hf16)
  have D1_16 := hid (D1_15.out.fr hf16)
  have D2_16 := hid (D2_15.out.fr hf16)
  have HR16 := hid (hf16.heap HR15.out not_false)
  have G1R_16 := hid (hf16.heap G1R_15.out not_false)
  have G2R_16 := hid (hf16.heap G2R_15.out not_false)
  have T1_16 := hid hv16
  clear hf16 hv16 HF15 HW5_15 G1_15 G2_15 C1_15 C2_15 P1_15 P2_15 I1_15 I2_15 D1_15 D2_15 HR15 G1R_15 G2R_15
  go_wp2_with fail
  refine (DT.out _ HF16.out).mono ?_
  rintro e w17 ⟨v17, rfl, hf17, hv17⟩
  obtain ⟨a17, c17, us17, rfl, -⟩ := id hv17
  have HF17 := hid (HF16.out.trans' hf17)
  have HW5_17 := hid (HW5_16.out.fr hf17)
  have G1_17 := hid (G1_16.out.fr hf17)
  have G2_17 := hid (G2_16.out.fr hf17)
  have C1_17 := hid (C1_16.out.fr hf17)
  have C2_17 := hid (C2_16.out.fr hf17)
  have P1_17 := hid (P1_16.out.fr hf17)
  have P2_17 := hid (P2_16.out.fr hf17)
  have I1_17 := hid (I1_16.out.fr hf17)
  have I2_17 := hid (I2_16.out.fr hf17)
  have D1_17 := hid (D1_16.out.fr hf17)
  have D2_17 := hid (D2_16.out.fr hf17)
  have T1_17 := hid (T1_16.out.fr hf17)
  have HR17 := hid (hf17.heap HR16.out not_false)
  have G1R_17 := hid (hf17.heap G1R_16.out not_false)
  have G2R_17 := hid (hf17.heap G2R_16.out not_false)
  have T2_17 := hid hv17
  clear hf17 hv17 HF16 HW5_16 G1_16 G2_16 C1_16 C2_16 P1_16 P2_16 I1_16 I2_16 D1_16 D2_16 T1_16 HR16 G1R_16 G2R_16
  have y0 : w17.cell? ⟨w6.heap.size, 0, none⟩ = some (.int .i64 gx.k) := by rw [cell_of_row _ _ 0 _ _ _ G1R_17.out]; rfl
  have y1 : w17.cell? ⟨w6.heap.size, 1, none⟩ = some (.int .i64 gx.n) := by rw [cell_of_row _ _ 1 _ _ _ G1R_17.out]; rfl
  have y2 : w17.cell? ⟨w6.heap.size, 2, none⟩ = some (.string gx.s) := by rw [cell_of_row _ _ 2 _ _ _ G1R_17.out]; rfl
  have y3 : w17.cell? ⟨w6.heap.size, 3, none⟩ = some (.slice a6 gx.l.length c6) := by rw [cell_of_row _ _ 3 _ _ _ G1R_17.out]; rfl
  have z0 : w17.cell? ⟨w7.heap.size, 0, none⟩ = some (.int .i64 gx.k) := by rw [cell_of_row _ _ 0 _ _ _ G2R_17.out]; rfl
  have z1 : w17.cell? ⟨w7.heap.size, 1, none⟩ = some (.int .i64 gx.n) := by rw [cell_of_row _ _ 1 _ _ _ G2R_17.out]; rfl
  have z2 : w17.cell? ⟨w7.heap.size, 2, none⟩ = some (.string gx.s) := by rw [cell_of_row _ _ 2 _ _ _ G2R_17.out]; rfl
  have z3 : w17.cell? ⟨w7.heap.size, 3, none⟩ = some (.slice a7 gx.l.length c7) := by rw [cell_of_row _ _ 3 _ _ _ G2R_17.out]; rfl
  go_wp2_with fail
  refine (rsame_refl gx.size gx (Nat.le_refl _) T T _ _ _ G1_17.out G2_17.out).mono ?_
  rintro e w18 ⟨rfl, hf18⟩
  have HG := hid hf18
  clear hf18 y0 y1 y2 y3 z0 z1 z2 z3 HR17 G1R_17 G2R_17
  go_wp2_with fail
  refine (rsames_of (sizeL cl) (rsame_refl _) cl (Nat.le_refl _) T T _ _ _ (C1_17.out.fr HG.out) (C2_17.out.fr HG.out)).mono ?_
  rintro e w19 ⟨rfl, hf19⟩
  have HG19 := hid (HG.out.trans' hf19)
  clear hf19
  go_wp2_with fail
  refine (rsames_of (sizeL pl) (rsame_refl _) pl (Nat.le_refl _) T T _ _ _ (P1_17.out.fr HG19.out) (P2_17.out.fr HG19.out)).mono ?_
  rintro e w20 ⟨rfl, hf20⟩
  have HG20 := hid (HG19.out.trans' hf20)
  clear hf20
  go_wp2_with fail
  refine (rsames_of (sizeL il) (rsame_refl _) il (Nat.le_refl _) T T _ _ _ (I1_17.out.fr HG20.out) (I2_17.out.fr HG20.out)).mono ?_
  rintro e w21 ⟨rfl, hf21⟩
  have HG21 := hid (HG20.out.trans' hf21)
  clear hf21
  go_wp2_with fail
  refine (rsames_of (sizeL dl) (rsame_refl _) dl (Nat.le_refl _) T T _ _ _ (D1_17.out.fr HG21.out) (D2_17.out.fr HG21.out)).mono ?_
  rintro e w22 ⟨rfl, hf22⟩
  have HG22 := hid (HG21.out.trans' hf22)
  clear hf22
  go_wp2_with fail
  refine (rsames_of (sizeL tl) (rsame_refl _) tl (Nat.le_refl _) T T _ _ _ (T1_17.out.fr HG22.out) (T2_17.out.fr HG22.out)).mono ?_
  rintro e w23 ⟨rfl, hf23⟩
  have HG23 := hid (HG22.out.trans' hf23)
  clear hf23
  go_wp2_with fail
  refine (rsames_of (sizeL l) (rsame_refl _) l (Nat.le_refl _) T T _ _ _ (HV.out.fr (HF17.out.trans' HG23.out)) (HW5_17.out.fr HG23.out)).mono ?_
  rintro e w24 ⟨rfl, hf24⟩
  have HG24 := hid (HG23.out.trans' hf24)
  clear hf24
  go_wp2_with fail
  go_ret
  exact ⟨rfl, HF17.out.trans' HG24.out⟩
end Go.Proofs.Ytebanmigaikhhaa
