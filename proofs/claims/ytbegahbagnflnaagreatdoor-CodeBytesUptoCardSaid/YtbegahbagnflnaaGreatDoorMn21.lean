import Derived.Test.YtbegahbagnflnaaGreatDoorMn20
import Derived.Test.YtbegahbagnflnaaGreatDoorMn04
import Derived.Test.YtbegahbagnflnaaGreatDoorMn11
import Derived.Test.YtbegahbagnflnaaGreatDoorMn12
import Derived.Test.YtbegahbagnflnaaGreatDoorMn19
import Derived.Lib.AppendStr
set_option linter.unusedSimpArgs false
set_option linter.unusedVariables false
set_option linter.unnecessarySimpa false
namespace Go.Proofs.YtbegahbagnflnaaGreatDoor
section
open Go.RowKit
theorem VOwn.fr {e base : Nat} {S : Nat → Prop} {w w' : World} {l : List V} {v : Value} (h : VOwn e base w l v) (hf : Fr S w w') (hS : ∀ k, base ≤ k → ¬ S k) : VOwn e base w' l v := by
 obtain ⟨xs, ho, hx⟩ := h
 refine ⟨xs, hf.own ho (fun k hk => hS k (ho.lt k hk).1), fun i x hi => ?_⟩
 obtain ⟨u, hv, r⟩ := hx i x hi
 exact ⟨u, (hv.frame hf fun k hk => hS k hk.1).mono fun k _ hk => ⟨hk.1, Nat.lt_of_lt_of_le hk.2.1 hf.size, hk.2.2.1, hf.soft hk.2.1 (hS k hk.1) hk.2.2.2⟩, r⟩
theorem RdAt.lt {w : World} {R : Nat} {B : List UInt8} {s : RS} (h : RdAt w R B s) : R < w.heap.size := by
 obtain ⟨-, bv, ev, h1, -⟩ := h
 exact heap_lt h1
theorem set4v {w : World} {B : Nat} {t : TypeId} {fz : Nat × Nat} {a0 a1 a2 a3 u0 u1 u2 u3 : Value} (h : w.heap[B]? = some (.cells #[a0, a1, a2, a3] t fz)) :
  ((((w.setCell ⟨B, 0, none⟩ u0).setCell ⟨B, 1, none⟩ u1).setCell ⟨B, 2, none⟩ u2).setCell ⟨B, 3, none⟩ u3).heap[B]? = some (.cells #[u0, u1, u2, u3] t fz) ∧
  Fr (fun q => q = B) w ((((w.setCell ⟨B, 0, none⟩ u0).setCell ⟨B, 1, none⟩ u1).setCell ⟨B, 2, none⟩ u2).setCell ⟨B, 3, none⟩ u3) := by
 have hr := Fr.refl (fun q => q = B) w
 refine ⟨?_, (((hr.setCell (.inl rfl) _).setCell (.inl rfl) _).setCell (.inl rfl) _).setCell (.inl rfl) _⟩
 have h0 := setCell_row 3 u3 (setCell_row 2 u2 (setCell_row 1 u1 (setCell_row 0 u0 h)))
 simpa only [List.setIfInBounds_toArray, List.set_cons_zero, List.set_cons_succ] using h0
def ValTo (d : Nat) : Prop := ∀ (B : List UInt8) (s : RS) (R : Nat) (pa : Nat → Addr) (w : World), RdAt w R B s → Sents w pa →
 Calls Tryz.prog 89 #[.pointer (some ⟨R, 0, none⟩), .int .i64 (41 - d)] w fun e w' => ∃ u, e = .returned (.agg u) ∧ VIn (fun b => w.heap.size ≤ b ∧ Soft w' b) w' (rVal B d s).1 u ∧ RdAt w' R B (rVal B d s).2 ∧ Fr (fun k => k = R) w w'
set_option maxRecDepth 100000 in
theorem val_zero : ValTo 0 := by
 intro B s R pa w h hE
 have hf0 := (Fr.refl (fun _ => False) w).alloc (.cells #[.int .i64 0, .int .i64 0, .string ⟨#[]⟩, .slice none 0 0] 44)
 have HFL := hid (rdfail_any _ (h.frame hf0) 200 (.pointer (some (pa 11))))
 have HB := hid (heap_alloc_new w (.cells #[.int .i64 0, .int .i64 0, .string ⟨#[]⟩, .slice none 0 0] 44))
 have HF0 := hid hf0
 have HRL := hid h.lt
 have e11 : (w.alloc (.cells #[.int .i64 0, .int .i64 0, .string ⟨#[]⟩, .slice none 0 0] 44)).cell? ⟨3, 0, none⟩ = some (.iface 200 (.pointer (some (pa 11)))) := hf0.cell (hE 11 (by decide)) not_false
 clear h hE hf0
 go_enter Tryz.func89, Tryz.ntmps89
 go_wp2_with fail
 refine HFL.out.mono ?_
 rintro e w2 ⟨rfl, hr, hf⟩
 have HB2 := hid (hf.heap HB.out (by have := HRL.out; omega))
 have HR := hid hr
 have HF := hid (HF0.out.trans hf (U := fun k => k = R) (fun _ _ h => h.elim) (fun _ _ h => h))
 have t0 : w2.cell? ⟨w.heap.size, 0, none⟩ = some (.int .i64 0) := by rw [cell_of_row _ _ _ _ _ _ HB2.out]; rfl
 have t1 : w2.cell? ⟨w.heap.size, 1, none⟩ = some (.int .i64 0) := by rw [cell_of_row _ _ _ _ _ _ HB2.out]; rfl
 have t2 : w2.cell? ⟨w.heap.size, 2, none⟩ = some (.string ⟨#[]⟩) := by rw [cell_of_row _ _ _ _ _ _ HB2.out]; rfl
 have t3 : w2.cell? ⟨w.heap.size, 3, none⟩ = some (.slice none 0 0) := by rw [cell_of_row _ _ _ _ _ _ HB2.out]; rfl
 have F1 : ∀ i, w2.frozen? ⟨w.heap.size, i, none⟩ = false := fun i => frozen_of_row w2 _ i _ _ HB2.out
 have HST := hid (set4v (u0 := .int .i64 0) (u1 := .int .i64 0) (u2 := .string ⟨#[]⟩) (u3 := .slice none 0 0) HB2.out)
 clear hr hf HFL e11
 go_wp2_with fail
 refine bodyPost_ret (results_cell_row rfl _ _ w.heap.size _ _ _ _ rfl HST.out.1 Tryz.underlying44 rfl (by kernel_rfl)) rfl ?_
 exact ⟨_, rfl, (VL.nil _ _).close 0 0 ⟨#[]⟩, HR.out.other HST.out.2 (fun q hq e => by have := HRL.out; omega), HF.out.trans HST.out.2 (fun _ _ h => h) (fun q hq e => by omega)⟩
set_option maxRecDepth 100000 in
set_option maxHeartbeats 6400000 in
theorem val_succ (d : Nat) (hd : d + 1 ≤ 40) (ih : ValTo d) : ValTo (d + 1) := by
 intro B s R pa w h hE
 obtain ⟨⟨x0, s0⟩, hq0⟩ : ∃ q, rVal B (d + 1) s = q := ⟨_, rfl⟩
 rw [hq0]
 obtain ⟨⟨k, s1⟩, hq1⟩ : ∃ q, rNum B 1 s = q := ⟨_, rfl⟩
 have HV := hid (show (x0, s0) = if k = 0 ∨ k = 1 ∨ k = 3 then (.mk k (sI (rNum B 8 s1).1) ⟨#[]⟩ [], (rNum B 8 s1).2)
   else if k = 2 then (.mk 2 0 (rText B 4096 s1).1 [], (rText B 4096 s1).2)
   else if k = 4 then (.mk 4 0 ⟨#[]⟩ (rLoop RS.ok (rVal B d) (rMany B 4096 s1).1 (rMany B 4096 s1).2).1, (rLoop RS.ok (rVal B d) (rMany B 4096 s1).1 (rMany B 4096 s1).2).2)
   else (.mk k 0 ⟨#[]⟩ [], s1.fail) by rw [← hq0, rVal, hq1])
 have hk := (rNum_go (B := B) 1 h.1.2.1).2.2
 have hf0 := (Fr.refl (fun _ => False) w).alloc (.cells #[.int .i64 0, .int .i64 0, .string ⟨#[]⟩, .slice none 0 0] 44)
 have HNU := hid (rdnum_any 1 (by decide) pa _ (h.frame hf0) (hE.frame hf0))
 rw [hq1] at HNU hk
 replace hk : k < 256 := by simpa using hk
 have HBT0 := hid (heap_alloc_new w (.cells #[.int .i64 0, .int .i64 0, .string ⟨#[]⟩, .slice none 0 0] 44))
 have HF0 := hid hf0
 have HRL := hid h.lt
 have HE := hid (fun (w2 : World) (hf : Fr (fun k => k = R) w w2) => hE.at_ hf h.1.1)
 have HIH := hid (fun (w2 : World) (t : RS) (hr : RdAt w2 R B t) (he : Sents w2 pa) => ih B t R pa w2 hr he)
 have hdI : (41 : Int) - ((d + 1 : Nat) : Int) = 40 - d := by omega
 have hdR : (d : Int) ≤ 39 := by omega
 have hdd : (40 : Int) - d + 1 = 41 - d := by omega
 rw [hdI]
 clear h hE hf0 hq0 hq1 hdI hd ih
 go_enter Tryz.func89, Tryz.ntmps89
 go_wp2_with fail
 refine HNU.out.mono ?_
 rintro e w2 ⟨rfl, hr, hf⟩
 have hkI : (k : Int) < 256 := by omega
 have HBT2 := hid (hf.heap HBT0.out (by have := HRL.out; omega))
 have HF2 := hid (HF0.out.trans hf (U := fun k => k = R) (fun _ _ h => h.elim) (fun _ _ h => h))
 have HR2 := hid hr
 clear hr hf HNU
 go_upto_region 5 with fail
 have hfa := (Fr.refl (fun _ => False) w2).alloc (.cells #[.int .i64 k, .int .i64 0, .string ⟨#[]⟩, .slice none 0 0] 44)
 have HBV := hid (heap_alloc_new w2 (.cells #[.int .i64 k, .int .i64 0, .string ⟨#[]⟩, .slice none 0 0] 44))
 have HBT := hid (hfa.heap HBT2.out not_false)
 have HR3 := hid (HR2.out.frame hfa)
 have HF3 := hid (HF2.out.alloc (.cells #[.int .i64 k, .int .i64 0, .string ⟨#[]⟩, .slice none 0 0] 44))
 have HTV := hid (show w.heap.size ≤ w.heap.size ∧ w.heap.size < w2.heap.size from ⟨Nat.le_refl _, heap_lt HBT2.out⟩)
 have HRT := hid HRL.out
 have HWV := hid (show w2.heap.size < (w2.alloc (.cells #[.int .i64 k, .int .i64 0, .string ⟨#[]⟩, .slice none 0 0] 44)).heap.size by simp)
 generalize hVV : w2.heap.size = V at *
 obtain ⟨T, hT⟩ : ∃ T, w.heap.size = T := ⟨_, rfl⟩
 have HTT := hid hT
 rw [hT] at HTV HRT HBT
 rw [hT]
 clear hfa hT hVV HBT2 HBT0 HF0 HF2 HR2
 generalize w2.alloc (.cells #[.int .i64 k, .int .i64 0, .string ⟨#[]⟩, .slice none 0 0] 44) = w3 at *
 by_cases kc0 : k = 0
 ·subst kc0
  have HX0 := hid (show x0 = .mk 0 (sI (rNum B 8 s1).1) ⟨#[]⟩ [] by have := HV.out; rw [if_pos (by omega)] at this; exact (congrArg Prod.fst this))
  have HS0 := hid (show s0 = (rNum B 8 s1).2 by have := HV.out; rw [if_pos (by omega)] at this; exact (congrArg Prod.snd this))
  have HIN := hid (rdint_any pa w3 HR3.out (HE.out w3 HF3.out))
  have F3 : ∀ i, w3.frozen? ⟨V, i, none⟩ = false := fun i => frozen_of_row w3 _ i _ _ HBV.out
  have v0 : w3.cell? ⟨V, 0, none⟩ = some (.int .i64 0) := by rw [cell_of_row _ _ _ _ _ _ HBV.out]; rfl
  go_wp2_with fail
  refine HIN.out.mono ?_
  rintro e w4 ⟨rfl, hr4, hf4⟩
  have hb4 := hf4.heap HBV.out (by have := HTV.out; have := HRT.out; omega)
  have HBT4 := hid (hf4.heap HBT.out (by have := HTV.out; have := HRT.out; omega))
  have HR4 := hid hr4
  have HF4 := hid (HF3.out.trans' hf4)
  have w1c : w4.cell? ⟨V, 1, none⟩ = some (.int .i64 0) := by rw [cell_of_row _ _ _ _ _ _ hb4]; rfl
  have f4 : w4.frozen? ⟨V, 1, none⟩ = false := frozen_of_row w4 _ 1 _ _ hb4
  have hb5 := setCell_row 1 (.int .i64 (sI (rNum B 8 s1).1)) hb4
  simp only [List.setIfInBounds_toArray, List.set_cons_zero, List.set_cons_succ] at hb5
  have hs5 : Fr (fun q => q = V) w4 (w4.setCell ⟨V, 1, none⟩ (.int .i64 (sI (rNum B 8 s1).1))) := Fr.setCell (S := fun k => k = V) (Fr.refl _ _) (p := ⟨V, 1, none⟩) (.inl rfl) _
  have HB5 := hid hb5
  have HBT5 := hid (hs5.heap HBT4.out (by have := HTV.out; omega))
  have HR5 := hid (HR4.out.other hs5 (fun q hq e => by have := HTV.out; have := HRT.out; omega))
  have HF5 := hid (HF4.out.trans hs5 (fun _ _ h => h) (fun q hq e => by have := HTV.out; have := HTT.out; omega))
  clear hr4 hf4 hb4 hb5 hs5 HIN v0 F3
  go_upto_region 18 with fail
  generalize w4.setCell ⟨V, 1, none⟩ (.int .i64 (sI (rNum B 8 s1).1)) = w5 at *
  have HVL := hid (VL.nil (fun b => V < b ∧ Soft w5 b) w5)
  have v0 : w5.cell? ⟨V, 0, none⟩ = some (.int .i64 (0)) := by rw [cell_of_row _ _ _ _ _ _ HB5.out]; rfl
  have v1 : w5.cell? ⟨V, 1, none⟩ = some (.int .i64 (sI (rNum B 8 s1).1)) := by rw [cell_of_row _ _ _ _ _ _ HB5.out]; rfl
  have v2 : w5.cell? ⟨V, 2, none⟩ = some (.string (⟨#[]⟩)) := by rw [cell_of_row _ _ _ _ _ _ HB5.out]; rfl
  have v3 : w5.cell? ⟨V, 3, none⟩ = some (.slice none 0 0) := by rw [cell_of_row _ _ _ _ _ _ HB5.out]; rfl
  have t0 : w5.cell? ⟨T, 0, none⟩ = some (.int .i64 0) := by rw [cell_of_row _ _ _ _ _ _ HBT5.out]; rfl
  have t1 : w5.cell? ⟨T, 1, none⟩ = some (.int .i64 0) := by rw [cell_of_row _ _ _ _ _ _ HBT5.out]; rfl
  have t2 : w5.cell? ⟨T, 2, none⟩ = some (.string ⟨#[]⟩) := by rw [cell_of_row _ _ _ _ _ _ HBT5.out]; rfl
  have t3 : w5.cell? ⟨T, 3, none⟩ = some (.slice none 0 0) := by rw [cell_of_row _ _ _ _ _ _ HBT5.out]; rfl
  have F1 : ∀ i, w5.frozen? ⟨T, i, none⟩ = false := fun i => frozen_of_row w5 _ i _ _ HBT5.out
  have HST := hid (set4v (u0 := .int .i64 (0)) (u1 := .int .i64 (sI (rNum B 8 s1).1)) (u2 := .string (⟨#[]⟩)) (u3 := .slice none 0 0) HBT5.out)
  go_wp2_with fail
  refine bodyPost_ret (results_cell_row rfl _ _ T _ _ _ _ rfl HST.out.1 Tryz.underlying44 rfl (by kernel_rfl)) rfl ?_
  refine ⟨_, rfl, ?_, ?_, HF5.out.trans HST.out.2 (fun _ _ h => h) (fun q hq e => by have := HTT.out; omega)⟩
  ·rw [HX0.out]
   exact ((HVL.out.close (0) (sI (rNum B 8 s1).1) (⟨#[]⟩)).soft HST.out.2 (fun q hq e => by have := HTV.out.2; omega)).mono fun q _ hq => ⟨by have := HTV.out; have := HTT.out; omega, hq.2⟩
  ·rw [HS0.out]
   exact HR5.out.other HST.out.2 (fun q hq e => by have := HTV.out; have := HRT.out; omega)
 by_cases kc1 : k = 1
 ·subst kc1
  have HX0 := hid (show x0 = .mk 1 (sI (rNum B 8 s1).1) ⟨#[]⟩ [] by have := HV.out; rw [if_pos (by omega)] at this; exact (congrArg Prod.fst this))
  have HS0 := hid (show s0 = (rNum B 8 s1).2 by have := HV.out; rw [if_pos (by omega)] at this; exact (congrArg Prod.snd this))
  have HIN := hid (rdint_any pa w3 HR3.out (HE.out w3 HF3.out))
  have F3 : ∀ i, w3.frozen? ⟨V, i, none⟩ = false := fun i => frozen_of_row w3 _ i _ _ HBV.out
  have v0 : w3.cell? ⟨V, 0, none⟩ = some (.int .i64 1) := by rw [cell_of_row _ _ _ _ _ _ HBV.out]; rfl
  go_wp2_with fail
  refine HIN.out.mono ?_
  rintro e w4 ⟨rfl, hr4, hf4⟩
  have hb4 := hf4.heap HBV.out (by have := HTV.out; have := HRT.out; omega)
  have HBT4 := hid (hf4.heap HBT.out (by have := HTV.out; have := HRT.out; omega))
  have HR4 := hid hr4
  have HF4 := hid (HF3.out.trans' hf4)
  have w1c : w4.cell? ⟨V, 1, none⟩ = some (.int .i64 0) := by rw [cell_of_row _ _ _ _ _ _ hb4]; rfl
  have f4 : w4.frozen? ⟨V, 1, none⟩ = false := frozen_of_row w4 _ 1 _ _ hb4
  have hb5 := setCell_row 1 (.int .i64 (sI (rNum B 8 s1).1)) hb4
  simp only [List.setIfInBounds_toArray, List.set_cons_zero, List.set_cons_succ] at hb5
  have hs5 : Fr (fun q => q = V) w4 (w4.setCell ⟨V, 1, none⟩ (.int .i64 (sI (rNum B 8 s1).1))) := Fr.setCell (S := fun k => k = V) (Fr.refl _ _) (p := ⟨V, 1, none⟩) (.inl rfl) _
  have HB5 := hid hb5
  have HBT5 := hid (hs5.heap HBT4.out (by have := HTV.out; omega))
  have HR5 := hid (HR4.out.other hs5 (fun q hq e => by have := HTV.out; have := HRT.out; omega))
  have HF5 := hid (HF4.out.trans hs5 (fun _ _ h => h) (fun q hq e => by have := HTV.out; have := HTT.out; omega))
  clear hr4 hf4 hb4 hb5 hs5 HIN v0 F3
  go_upto_region 18 with fail
  generalize w4.setCell ⟨V, 1, none⟩ (.int .i64 (sI (rNum B 8 s1).1)) = w5 at *
  have HVL := hid (VL.nil (fun b => V < b ∧ Soft w5 b) w5)
  have v0 : w5.cell? ⟨V, 0, none⟩ = some (.int .i64 (1)) := by rw [cell_of_row _ _ _ _ _ _ HB5.out]; rfl
  have v1 : w5.cell? ⟨V, 1, none⟩ = some (.int .i64 (sI (rNum B 8 s1).1)) := by rw [cell_of_row _ _ _ _ _ _ HB5.out]; rfl
  have v2 : w5.cell? ⟨V, 2, none⟩ = some (.string (⟨#[]⟩)) := by rw [cell_of_row _ _ _ _ _ _ HB5.out]; rfl
  have v3 : w5.cell? ⟨V, 3, none⟩ = some (.slice none 0 0) := by rw [cell_of_row _ _ _ _ _ _ HB5.out]; rfl
  have t0 : w5.cell? ⟨T, 0, none⟩ = some (.int .i64 0) := by rw [cell_of_row _ _ _ _ _ _ HBT5.out]; rfl
  have t1 : w5.cell? ⟨T, 1, none⟩ = some (.int .i64 0) := by rw [cell_of_row _ _ _ _ _ _ HBT5.out]; rfl
  have t2 : w5.cell? ⟨T, 2, none⟩ = some (.string ⟨#[]⟩) := by rw [cell_of_row _ _ _ _ _ _ HBT5.out]; rfl
  have t3 : w5.cell? ⟨T, 3, none⟩ = some (.slice none 0 0) := by rw [cell_of_row _ _ _ _ _ _ HBT5.out]; rfl
  have F1 : ∀ i, w5.frozen? ⟨T, i, none⟩ = false := fun i => frozen_of_row w5 _ i _ _ HBT5.out
  have HST := hid (set4v (u0 := .int .i64 (1)) (u1 := .int .i64 (sI (rNum B 8 s1).1)) (u2 := .string (⟨#[]⟩)) (u3 := .slice none 0 0) HBT5.out)
  go_wp2_with fail
  refine bodyPost_ret (results_cell_row rfl _ _ T _ _ _ _ rfl HST.out.1 Tryz.underlying44 rfl (by kernel_rfl)) rfl ?_
  refine ⟨_, rfl, ?_, ?_, HF5.out.trans HST.out.2 (fun _ _ h => h) (fun q hq e => by have := HTT.out; omega)⟩
  ·rw [HX0.out]
   exact ((HVL.out.close (1) (sI (rNum B 8 s1).1) (⟨#[]⟩)).soft HST.out.2 (fun q hq e => by have := HTV.out.2; omega)).mono fun q _ hq => ⟨by have := HTV.out; have := HTT.out; omega, hq.2⟩
  ·rw [HS0.out]
   exact HR5.out.other HST.out.2 (fun q hq e => by have := HTV.out; have := HRT.out; omega)
 by_cases kc3 : k = 3
 ·subst kc3
  have HX0 := hid (show x0 = .mk 3 (sI (rNum B 8 s1).1) ⟨#[]⟩ [] by have := HV.out; rw [if_pos (by omega)] at this; exact (congrArg Prod.fst this))
  have HS0 := hid (show s0 = (rNum B 8 s1).2 by have := HV.out; rw [if_pos (by omega)] at this; exact (congrArg Prod.snd this))
  have HIN := hid (rdint_any pa w3 HR3.out (HE.out w3 HF3.out))
  have F3 : ∀ i, w3.frozen? ⟨V, i, none⟩ = false := fun i => frozen_of_row w3 _ i _ _ HBV.out
  have v0 : w3.cell? ⟨V, 0, none⟩ = some (.int .i64 3) := by rw [cell_of_row _ _ _ _ _ _ HBV.out]; rfl
  go_wp2_with fail
  refine HIN.out.mono ?_
  rintro e w4 ⟨rfl, hr4, hf4⟩
  have hb4 := hf4.heap HBV.out (by have := HTV.out; have := HRT.out; omega)
  have HBT4 := hid (hf4.heap HBT.out (by have := HTV.out; have := HRT.out; omega))
  have HR4 := hid hr4
  have HF4 := hid (HF3.out.trans' hf4)
  have w1c : w4.cell? ⟨V, 1, none⟩ = some (.int .i64 0) := by rw [cell_of_row _ _ _ _ _ _ hb4]; rfl
  have f4 : w4.frozen? ⟨V, 1, none⟩ = false := frozen_of_row w4 _ 1 _ _ hb4
  have hb5 := setCell_row 1 (.int .i64 (sI (rNum B 8 s1).1)) hb4
  simp only [List.setIfInBounds_toArray, List.set_cons_zero, List.set_cons_succ] at hb5
  have hs5 : Fr (fun q => q = V) w4 (w4.setCell ⟨V, 1, none⟩ (.int .i64 (sI (rNum B 8 s1).1))) := Fr.setCell (S := fun k => k = V) (Fr.refl _ _) (p := ⟨V, 1, none⟩) (.inl rfl) _
  have HB5 := hid hb5
  have HBT5 := hid (hs5.heap HBT4.out (by have := HTV.out; omega))
  have HR5 := hid (HR4.out.other hs5 (fun q hq e => by have := HTV.out; have := HRT.out; omega))
  have HF5 := hid (HF4.out.trans hs5 (fun _ _ h => h) (fun q hq e => by have := HTV.out; have := HTT.out; omega))
  clear hr4 hf4 hb4 hb5 hs5 HIN v0 F3
  go_upto_region 18 with fail
  generalize w4.setCell ⟨V, 1, none⟩ (.int .i64 (sI (rNum B 8 s1).1)) = w5 at *
  have HVL := hid (VL.nil (fun b => V < b ∧ Soft w5 b) w5)
  have v0 : w5.cell? ⟨V, 0, none⟩ = some (.int .i64 (3)) := by rw [cell_of_row _ _ _ _ _ _ HB5.out]; rfl
  have v1 : w5.cell? ⟨V, 1, none⟩ = some (.int .i64 (sI (rNum B 8 s1).1)) := by rw [cell_of_row _ _ _ _ _ _ HB5.out]; rfl
  have v2 : w5.cell? ⟨V, 2, none⟩ = some (.string (⟨#[]⟩)) := by rw [cell_of_row _ _ _ _ _ _ HB5.out]; rfl
  have v3 : w5.cell? ⟨V, 3, none⟩ = some (.slice none 0 0) := by rw [cell_of_row _ _ _ _ _ _ HB5.out]; rfl
  have t0 : w5.cell? ⟨T, 0, none⟩ = some (.int .i64 0) := by rw [cell_of_row _ _ _ _ _ _ HBT5.out]; rfl
  have t1 : w5.cell? ⟨T, 1, none⟩ = some (.int .i64 0) := by rw [cell_of_row _ _ _ _ _ _ HBT5.out]; rfl
  have t2 : w5.cell? ⟨T, 2, none⟩ = some (.string ⟨#[]⟩) := by rw [cell_of_row _ _ _ _ _ _ HBT5.out]; rfl
  have t3 : w5.cell? ⟨T, 3, none⟩ = some (.slice none 0 0) := by rw [cell_of_row _ _ _ _ _ _ HBT5.out]; rfl
  have F1 : ∀ i, w5.frozen? ⟨T, i, none⟩ = false := fun i => frozen_of_row w5 _ i _ _ HBT5.out
  have HST := hid (set4v (u0 := .int .i64 (3)) (u1 := .int .i64 (sI (rNum B 8 s1).1)) (u2 := .string (⟨#[]⟩)) (u3 := .slice none 0 0) HBT5.out)
  go_wp2_with fail
  refine bodyPost_ret (results_cell_row rfl _ _ T _ _ _ _ rfl HST.out.1 Tryz.underlying44 rfl (by kernel_rfl)) rfl ?_
  refine ⟨_, rfl, ?_, ?_, HF5.out.trans HST.out.2 (fun _ _ h => h) (fun q hq e => by have := HTT.out; omega)⟩
  ·rw [HX0.out]
   exact ((HVL.out.close (3) (sI (rNum B 8 s1).1) (⟨#[]⟩)).soft HST.out.2 (fun q hq e => by have := HTV.out.2; omega)).mono fun q _ hq => ⟨by have := HTV.out; have := HTT.out; omega, hq.2⟩
  ·rw [HS0.out]
   exact HR5.out.other HST.out.2 (fun q hq e => by have := HTV.out; have := HRT.out; omega)
 by_cases kc2 : k = 2
 ·subst kc2
  have HX0 := hid (show x0 = .mk 2 0 (rText B 4096 s1).1 [] by have := HV.out; rw [if_neg (by omega), if_pos rfl] at this; exact (congrArg Prod.fst this))
  have HS0 := hid (show s0 = (rText B 4096 s1).2 by have := HV.out; rw [if_neg (by omega), if_pos rfl] at this; exact (congrArg Prod.snd this))
  have HIN := hid (rdtext_any 4096 (by decide) pa w3 HR3.out (HE.out w3 HF3.out))
  have v0 : w3.cell? ⟨V, 0, none⟩ = some (.int .i64 2) := by rw [cell_of_row _ _ _ _ _ _ HBV.out]; rfl
  go_wp2_with fail
  refine HIN.out.mono ?_
  rintro e w4 ⟨rfl, hr4, hf4⟩
  have hb4 := hf4.heap HBV.out (by have := HTV.out; have := HRT.out; omega)
  have HBT4 := hid (hf4.heap HBT.out (by have := HTV.out; have := HRT.out; omega))
  have HR4 := hid hr4
  have HF4 := hid (HF3.out.trans' hf4)
  have w1c : w4.cell? ⟨V, 2, none⟩ = some (.string ⟨#[]⟩) := by rw [cell_of_row _ _ _ _ _ _ hb4]; rfl
  have f4 : w4.frozen? ⟨V, 2, none⟩ = false := frozen_of_row w4 _ 2 _ _ hb4
  have hb5 := setCell_row 2 (.string (rText B 4096 s1).1) hb4
  simp only [List.setIfInBounds_toArray, List.set_cons_zero, List.set_cons_succ] at hb5
  have hs5 : Fr (fun q => q = V) w4 (w4.setCell ⟨V, 2, none⟩ (.string (rText B 4096 s1).1)) := Fr.setCell (S := fun k => k = V) (Fr.refl _ _) (p := ⟨V, 2, none⟩) (.inl rfl) _
  have HB5 := hid hb5
  have HBT5 := hid (hs5.heap HBT4.out (by have := HTV.out; omega))
  have HR5 := hid (HR4.out.other hs5 (fun q hq e => by have := HTV.out; have := HRT.out; omega))
  have HF5 := hid (HF4.out.trans hs5 (fun _ _ h => h) (fun q hq e => by have := HTV.out; have := HTT.out; omega))
  clear hr4 hf4 hb4 hb5 hs5 HIN v0
  go_upto_region 18 with fail
  generalize w4.setCell ⟨V, 2, none⟩ (.string (rText B 4096 s1).1) = w5 at *
  have HVL := hid (VL.nil (fun b => V < b ∧ Soft w5 b) w5)
  have v0 : w5.cell? ⟨V, 0, none⟩ = some (.int .i64 (2)) := by rw [cell_of_row _ _ _ _ _ _ HB5.out]; rfl
  have v1 : w5.cell? ⟨V, 1, none⟩ = some (.int .i64 (0)) := by rw [cell_of_row _ _ _ _ _ _ HB5.out]; rfl
  have v2 : w5.cell? ⟨V, 2, none⟩ = some (.string ((rText B 4096 s1).1)) := by rw [cell_of_row _ _ _ _ _ _ HB5.out]; rfl
  have v3 : w5.cell? ⟨V, 3, none⟩ = some (.slice none 0 0) := by rw [cell_of_row _ _ _ _ _ _ HB5.out]; rfl
  have t0 : w5.cell? ⟨T, 0, none⟩ = some (.int .i64 0) := by rw [cell_of_row _ _ _ _ _ _ HBT5.out]; rfl
  have t1 : w5.cell? ⟨T, 1, none⟩ = some (.int .i64 0) := by rw [cell_of_row _ _ _ _ _ _ HBT5.out]; rfl
  have t2 : w5.cell? ⟨T, 2, none⟩ = some (.string ⟨#[]⟩) := by rw [cell_of_row _ _ _ _ _ _ HBT5.out]; rfl
  have t3 : w5.cell? ⟨T, 3, none⟩ = some (.slice none 0 0) := by rw [cell_of_row _ _ _ _ _ _ HBT5.out]; rfl
  have F1 : ∀ i, w5.frozen? ⟨T, i, none⟩ = false := fun i => frozen_of_row w5 _ i _ _ HBT5.out
  have HST := hid (set4v (u0 := .int .i64 (2)) (u1 := .int .i64 (0)) (u2 := .string ((rText B 4096 s1).1)) (u3 := .slice none 0 0) HBT5.out)
  go_wp2_with fail
  refine bodyPost_ret (results_cell_row rfl _ _ T _ _ _ _ rfl HST.out.1 Tryz.underlying44 rfl (by kernel_rfl)) rfl ?_
  refine ⟨_, rfl, ?_, ?_, HF5.out.trans HST.out.2 (fun _ _ h => h) (fun q hq e => by have := HTT.out; omega)⟩
  ·rw [HX0.out]
   exact ((HVL.out.close (2) (0) ((rText B 4096 s1).1)).soft HST.out.2 (fun q hq e => by have := HTV.out.2; omega)).mono fun q _ hq => ⟨by have := HTV.out; have := HTT.out; omega, hq.2⟩
  ·rw [HS0.out]
   exact HR5.out.other HST.out.2 (fun q hq e => by have := HTV.out; have := HRT.out; omega)
 by_cases kc4 : k = 4
 ·subst kc4
  obtain ⟨⟨n, t⟩, hqm⟩ : ∃ q, rMany B 4096 s1 = q := ⟨_, rfl⟩
  have hgm := rMany_go (B := B) 4096 HR3.out.1.2.1
  have HIN := hid (rdmany_any 4096 (by decide) pa w3 HR3.out (HE.out w3 HF3.out))
  rw [hqm] at HV HIN hgm
  have hn : n ≤ 4096 := by have := hgm.2.2.2.1 (by decide); dsimp only at this; omega
  have HX0 := hid (show x0 = .mk 4 0 ⟨#[]⟩ (rLoop RS.ok (rVal B d) n t).1 by have := HV.out; rw [if_neg (by omega), if_neg (by omega), if_pos rfl] at this; exact (congrArg Prod.fst this))
  have HS0 := hid (show s0 = (rLoop RS.ok (rVal B d) n t).2 by have := HV.out; rw [if_neg (by omega), if_neg (by omega), if_pos rfl] at this; exact (congrArg Prod.snd this))
  have v0 : w3.cell? ⟨V, 0, none⟩ = some (.int .i64 4) := by rw [cell_of_row _ _ _ _ _ _ HBV.out]; rfl
  clear hgm hqm
  go_wp2_with fail
  refine HIN.out.mono ?_
  rintro e w4 ⟨rfl, hr4, hf4⟩
  have HB4 := hid (hf4.heap HBV.out (by have := HTV.out; have := HRT.out; omega))
  have HBT4 := hid (hf4.heap HBT.out (by have := HTV.out; have := HRT.out; omega))
  have HR4 := hid hr4
  have HF4 := hid (HF3.out.trans' hf4)
  clear hr4 hf4 HIN v0 HBV HBT HR3 HF3 HWV kc0 kc1 kc3 kc2
  go_wp2_with fail
  go_loopw [6] (fun i wr => ∃ (j : Nat) (t' : RS) (L : List _) (lv : Value), j + L.length ≤ 4096 ∧ i = .int .i64 j ∧ Hid (L ++ (rLoop RS.ok (rVal B d) j t').1 = (rLoop RS.ok (rVal B d) n t).1 ∧ (rLoop RS.ok (rVal B d) j t').2 = (rLoop RS.ok (rVal B d) n t).2) ∧ Hid (RdAt wr R B t') ∧ Hid (wr.heap[V]? = some (.cells #[.int .i64 4, .int .i64 0, .string ⟨#[]⟩, lv] 44 (0, 0))) ∧ Hid (wr.heap[T]? = some (.cells #[.int .i64 0, .int .i64 0, .string ⟨#[]⟩, .slice none 0 0] 44)) ∧ Hid (VOwn 44 (V + 1) wr L lv) ∧ Hid (Fr (fun k => k = R) w wr)) (fun i _ => (intOf i).toNat)
  case atStart => exact ⟨n, t, [], .slice none 0 0, by simpa using hn, rfl, hid ⟨rfl, rfl⟩, HR4, HB4, HBT4, hid (VOwn.nil _ _ _), HF4⟩
  case round =>
   clear HR4 HB4 HBT4 HF4
   obtain ⟨j, t', L, lv, hjl, rfl, HQ, HR5, HB5, HBT5, HO, HF5⟩ := hrel
   obtain ⟨xs, ho, hxs⟩ := HO.out
   have HOW := hid ho
   have HXS := hid hxs
   obtain ⟨al, cl, rfl, -⟩ := own_len ho
   have HVL := hid (show VL (fun b => V < b ∧ Soft wr b) wr L (.slice al L.length cl) from HO.out.close)
   clear ho hxs
   by_cases hj : j = 0
   ·subst hj
    have h1 := HQ.out
    rw [rLoop, List.append_nil] at h1
    rw [← h1.1] at HX0
    rw [← h1.2] at HS0
    clear h1
    have v0 : wr.cell? ⟨V, 0, none⟩ = some (.int .i64 (4)) := by rw [cell_of_row _ _ _ _ _ _ HB5.out]; rfl
    have v1 : wr.cell? ⟨V, 1, none⟩ = some (.int .i64 (0)) := by rw [cell_of_row _ _ _ _ _ _ HB5.out]; rfl
    have v2 : wr.cell? ⟨V, 2, none⟩ = some (.string (⟨#[]⟩)) := by rw [cell_of_row _ _ _ _ _ _ HB5.out]; rfl
    have v3 : wr.cell? ⟨V, 3, none⟩ = some (.slice al L.length cl) := by rw [cell_of_row _ _ _ _ _ _ HB5.out]; rfl
    have t0 : wr.cell? ⟨T, 0, none⟩ = some (.int .i64 0) := by rw [cell_of_row _ _ _ _ _ _ HBT5.out]; rfl
    have t1 : wr.cell? ⟨T, 1, none⟩ = some (.int .i64 0) := by rw [cell_of_row _ _ _ _ _ _ HBT5.out]; rfl
    have t2 : wr.cell? ⟨T, 2, none⟩ = some (.string ⟨#[]⟩) := by rw [cell_of_row _ _ _ _ _ _ HBT5.out]; rfl
    have t3 : wr.cell? ⟨T, 3, none⟩ = some (.slice none 0 0) := by rw [cell_of_row _ _ _ _ _ _ HBT5.out]; rfl
    have F1 : ∀ i, wr.frozen? ⟨T, i, none⟩ = false := fun i => frozen_of_row wr _ i _ _ HBT5.out
    have HST := hid (set4v (u0 := .int .i64 (4)) (u1 := .int .i64 (0)) (u2 := .string (⟨#[]⟩)) (u3 := .slice al L.length cl) HBT5.out)
    go_wp2_with fail
    refine bodyPost_ret (results_cell_row rfl _ _ T _ _ _ _ rfl HST.out.1 Tryz.underlying44 rfl (by kernel_rfl)) rfl ?_
    refine ⟨_, rfl, ?_, ?_, HF5.out.trans HST.out.2 (fun _ _ h => h) (fun q hq e => by have := HTT.out; omega)⟩
    ·rw [HX0.out]
     exact ((HVL.out.close (4) (0) (⟨#[]⟩)).soft HST.out.2 (fun q hq e => by have := HTV.out.2; omega)).mono fun q _ hq => ⟨by have := HTV.out; have := HTT.out; omega, hq.2⟩
    ·rw [HS0.out]
     exact HR5.out.other HST.out.2 (fun q hq e => by have := HTV.out; have := HRT.out; omega)
   by_cases hok : t'.ok = false
   ·have h1 := HQ.out
    obtain ⟨j', rfl⟩ : ∃ j', j = j' + 1 := ⟨j - 1, by omega⟩
    rw [rLoop, if_pos hok, List.append_nil] at h1
    rw [← h1.1] at HX0
    rw [← h1.2] at HS0
    obtain ⟨tt, xx, r2⟩ := HR5.out.ok_iface hok
    have hjp : (0 : Int) < (j' : Int) + 1 := by omega
    clear h1
    have v0 : wr.cell? ⟨V, 0, none⟩ = some (.int .i64 (4)) := by rw [cell_of_row _ _ _ _ _ _ HB5.out]; rfl
    have v1 : wr.cell? ⟨V, 1, none⟩ = some (.int .i64 (0)) := by rw [cell_of_row _ _ _ _ _ _ HB5.out]; rfl
    have v2 : wr.cell? ⟨V, 2, none⟩ = some (.string (⟨#[]⟩)) := by rw [cell_of_row _ _ _ _ _ _ HB5.out]; rfl
    have v3 : wr.cell? ⟨V, 3, none⟩ = some (.slice al L.length cl) := by rw [cell_of_row _ _ _ _ _ _ HB5.out]; rfl
    have t0 : wr.cell? ⟨T, 0, none⟩ = some (.int .i64 0) := by rw [cell_of_row _ _ _ _ _ _ HBT5.out]; rfl
    have t1 : wr.cell? ⟨T, 1, none⟩ = some (.int .i64 0) := by rw [cell_of_row _ _ _ _ _ _ HBT5.out]; rfl
    have t2 : wr.cell? ⟨T, 2, none⟩ = some (.string ⟨#[]⟩) := by rw [cell_of_row _ _ _ _ _ _ HBT5.out]; rfl
    have t3 : wr.cell? ⟨T, 3, none⟩ = some (.slice none 0 0) := by rw [cell_of_row _ _ _ _ _ _ HBT5.out]; rfl
    have F1 : ∀ i, wr.frozen? ⟨T, i, none⟩ = false := fun i => frozen_of_row wr _ i _ _ HBT5.out
    have HST := hid (set4v (u0 := .int .i64 (4)) (u1 := .int .i64 (0)) (u2 := .string (⟨#[]⟩)) (u3 := .slice al L.length cl) HBT5.out)
    go_wp2_with fail
    refine bodyPost_ret (results_cell_row rfl _ _ T _ _ _ _ rfl HST.out.1 Tryz.underlying44 rfl (by kernel_rfl)) rfl ?_
    refine ⟨_, rfl, ?_, ?_, HF5.out.trans HST.out.2 (fun _ _ h => h) (fun q hq e => by have := HTT.out; omega)⟩
    ·rw [HX0.out]
     exact ((HVL.out.close (4) (0) (⟨#[]⟩)).soft HST.out.2 (fun q hq e => by have := HTV.out.2; omega)).mono fun q _ hq => ⟨by have := HTV.out; have := HTT.out; omega, hq.2⟩
    ·rw [HS0.out]
     exact HR5.out.other HST.out.2 (fun q hq e => by have := HTV.out; have := HRT.out; omega)
   ·obtain ⟨j', rfl⟩ : ∃ j', j = j' + 1 := ⟨j - 1, by omega⟩
    have r2 := HR5.out.ok_nil (by simpa using hok)
    have HQ2 := hid (show (L ++ [(rVal B d t').1]) ++ (rLoop RS.ok (rVal B d) j' (rVal B d t').2).1 = (rLoop RS.ok (rVal B d) n t).1 ∧ (rLoop RS.ok (rVal B d) j' (rVal B d t').2).2 = (rLoop RS.ok (rVal B d) n t).2 by
     have h1 := HQ.out
     rw [rLoop, if_neg hok] at h1
     rw [List.append_assoc]
     exact h1)
    have hjp : (0 : Int) < (j' : Int) + 1 := by omega
    have hjI : (j' : Int) ≤ 4096 := by omega
    have HLL := hid (show L.length + 1 ≤ 1099511627776 by omega)
    have hlt := heap_lt HB5.out
    have HVW := hid hlt
    clear hok hlt HVL
    go_upto_region 17 with fail
    refine wp_region_ord [(0, 0), (1, 0), (2, 0), (3, 0), (4, 0), (5, 1), (6, 1), (7, 1), (8, 0), (9, 1)] (fun w' => w'.heap[V]? = some (.cells #[.int .i64 4, .int .i64 0, .string ⟨#[]⟩, .slice al L.length cl] 44 (0, 0))) (by kernel_rfl) (by kernel_rfl) (by kernel_rfl) rfl (fun _ _ d _ _ h => by cases d <;> exact h) HB5.out ?_
    (refine wpO_take ?_ rfl (by kernel_rfl) ?_ ?_; rotate_left; (· intro w' hS; go_simp; try with_reducible rfl); try simp only [Act.put, List.setIfInBounds_toArray, List.set_cons_zero, List.set_cons_succ])
    (refine wpO_take ?_ rfl (by kernel_rfl) ?_ ?_; rotate_left; (· intro w' hS; have q3 : w'.cell? ⟨V, 3, none⟩ = some (.slice al L.length cl) := (by rw [cell_of_row _ _ _ _ _ _ hS]; rfl); go_simp; try with_reducible rfl); try simp only [Act.put, List.setIfInBounds_toArray, List.set_cons_zero, List.set_cons_succ])
    iterate 3 (refine wpO_take ?_ rfl (by kernel_rfl) ?_ ?_; rotate_left; (· intro w' hS; go_simp; try with_reducible rfl); try simp only [Act.put, List.setIfInBounds_toArray, List.set_cons_zero, List.set_cons_succ])
    have hfd : Fr (fun _ => False) wr wr.drew := (Fr.refl _ _).drew
    have hdw : IntKind.i64.wrap ((41 : Int) - d) = 41 - d := IntWalk.i64_in _ (by omega)
    refine wpO_run rfl (by kernel_rfl) (fun K hK => ?_); go_simp
    refine (HIH.out wr.drew t' (HR5.out.frame hfd) (HE.out _ (HF5.out.drew))).mono ?_
    rintro e w6 ⟨u, rfl, hv, hr, hf⟩
    obtain ⟨v', rfl, a2, c2, us2, rfl, _⟩ := hv.open
    have hb6 := hf.heap (hfd.heap HB5.out not_false) (by have := HTV.out; have := HRT.out; omega)
    refine hK _ _ (fun _ => hb6) ?_
    clear hK K
    try simp only [Act.put, List.setIfInBounds_toArray, List.set_cons_zero, List.set_cons_succ]
    have hvl : ∀ b, V + 1 ≤ b → ¬ b = R := fun b h e => by have := HTV.out; have := HRT.out; omega
    have hF6 := hfd.trans hf (U := fun k => k = R) (fun _ _ h => h.elim) (fun _ _ h => h)
    have hfa := (Fr.refl (fun _ => False) w6).alloc (.cells #[.int .i64 (rVal B d t').1.k, .int .i64 (rVal B d t').1.n, .string (rVal B d t').1.s, .slice a2 (rVal B d t').1.l.length c2] 44)
    have hO7 := (hF6.trans hfa (U := fun k => k = R) (fun _ _ h => h) (fun _ _ h => h.elim)).own HOW.out (fun k hk => hvl k (HOW.out.lt k hk).1)
    refine wpO_run rfl (by kernel_rfl) (fun K hK => ?_); go_simp
    refine hK _ _ (fun _ => hfa.heap hb6 not_false) ?_
    clear hK K
    try simp only [Act.put, List.setIfInBounds_toArray, List.set_cons_zero, List.set_cons_succ]
    have hbs : V + 1 ≤ (w6.alloc (.cells #[.int .i64 (rVal B d t').1.k, .int .i64 (rVal B d t').1.n, .string (rVal B d t').1.s, .slice a2 (rVal B d t').1.l.length c2] 44)).heap.size := by have := hF6.size; have := hfa.size; have := HVW.out; omega
    refine wpO_run rfl (by kernel_rfl) (fun K hK => ?_)
    refine wp_appendR (.tmp 50) (.tmp 55) 42 rfl 44 (.agg #[.int .i64 0, .int .i64 0, .string ⟨#[]⟩, .slice none 0 0]) 4 56 Tryz.underlying42 Tryz.info_val rfl (by decide) _ rfl (V + 1) L.length xs hO7 w6.heap.size 1 [.int .i64 (rVal B d t').1.k, .int .i64 (rVal B d t').1.n, .string (rVal B d t').1.s, .slice a2 (rVal B d t').1.l.length c2] rfl rfl (cells_new4 w6 #[.int .i64 (rVal B d t').1.k, .int .i64 (rVal B d t').1.n, .string (rVal B d t').1.s, .slice a2 (rVal B d t').1.l.length c2] _ _) (by intro q hq; simp at hq; rcases hq with rfl | rfl | rfl | rfl <;> rfl) HLL.out (by decide) hbs ?_
    intro g cap w8 ho8 hf8 hn8
    have hVn : ¬ some V = (Value.slice al L.length cl).ownBlock := fun e => by have := (HOW.out.lt V e.symm).1; omega
    have hb8 := hf8.heap (hfa.heap hb6 not_false) hVn
    refine hK _ _ (fun _ => hb8) ?_
    clear hK K
    try simp only [Act.put, List.setIfInBounds_toArray, List.set_cons_zero, List.set_cons_succ]
    (refine wpO_take ?_ rfl (by kernel_rfl) ?_ ?_; rotate_left; (· intro w' hS; go_simp; try with_reducible rfl); try simp only [Act.put, List.setIfInBounds_toArray, List.set_cons_zero, List.set_cons_succ])
    have hO8 : VOwn 44 (V + 1) w8 (L ++ [(rVal B d t').1]) (.slice (some ⟨g, 0, none⟩) (L.length + 1) cap) := by
     refine VOwn.snoc (u := #[.int .i64 (rVal B d t').1.k, .int .i64 (rVal B d t').1.n, .string (rVal B d t').1.s, .slice a2 (rVal B d t').1.l.length c2]) hO7 (fun i x hi => ?_) ho8 hf8 (fun q hq => ?_) ?_ rfl
     ·obtain ⟨u, hu, r⟩ := HXS.out i x hi
      have hF7 := hF6.trans hfa (U := fun k => k = R) (fun _ _ h => h) (fun _ _ h => h.elim)
      exact ⟨u, (hu.frame hF7 fun k hk => hvl k hk.1).mono fun q _ hq => ⟨hq.1, Nat.lt_of_lt_of_le hq.2.1 hF7.size, hq.2.2.1, hF7.soft hq.2.1 (hvl q hq.1) hq.2.2.2⟩, r⟩
     ·simp only [Value.ownBlock, Option.some.injEq] at hq
      subst hq
      exact hn8
     ·refine (hv.soft hfa fun _ _ => id).mono fun q hq hq2 => ⟨?_, hq, fun e => ?_, hq2.2⟩
      ·have := HVW.out; have hq3 := hq2.1; have := hfd.size; omega
      ·have := (HOW.out.lt q e).2; have hq3 := hq2.1; have := hfd.size; omega
    have f3 : w8.frozen? ⟨V, 3, none⟩ = false := frozen_of_row w8 _ 3 _ _ hb8
    have c3 : w8.cell? ⟨V, 3, none⟩ = some (.slice al L.length cl) := by rw [cell_of_row _ _ _ _ _ _ hb8]; rfl
    have hb9 := setCell_row 3 (.slice (some ⟨g, 0, none⟩) (L.length + 1) cap) hb8
    simp only [List.setIfInBounds_toArray, List.set_cons_zero, List.set_cons_succ] at hb9
    have hs9 : Fr (fun q => q = V) w8 (w8.setCell ⟨V, 3, none⟩ (.slice (some ⟨g, 0, none⟩) (L.length + 1) cap)) := Fr.setCell (S := fun k => k = V) (Fr.refl _ _) (p := ⟨V, 3, none⟩) (.inl rfl) _
    have hown : ∀ k, k < V + 1 → ¬ some k = (Value.slice al L.length cl).ownBlock := fun k hk e => by have := (HOW.out.lt k e.symm).1; omega
    have HO9 := hid (show VOwn 44 (V + 1) (w8.setCell ⟨V, 3, none⟩ (.slice (some ⟨g, 0, none⟩) (L.length + 1) cap)) (L ++ [(rVal B d t').1]) (.slice (some ⟨g, 0, none⟩) (L.length + 1) cap) from hO8.fr hs9 fun k hk e => by omega)
    have HB9 := hid hb9
    have HT9 := hid (hs9.heap (hf8.heap (hfa.heap (hF6.heap HBT5.out (by have := HTV.out; have := HRT.out; omega)) not_false) (hown T (by have := HTV.out; omega))) (by have := HTV.out; omega))
    have HR9 := hid (((hr.frame hfa).other hf8 (fun k hk e => hown k (by have := HTV.out; have := HRT.out; omega) e)).other hs9 (fun k hk e => by have := HTV.out; have := HRT.out; omega))
    have HF9 := hid ((((HF5.out.trans' hF6).trans hfa (U := fun k => k = R) (fun _ _ h => h) (fun _ _ h => h.elim)).trans hf8 (U := fun k => k = R) (fun _ _ h => h) (fun k hk e => absurd e (hown k (by have := HTV.out; have := HTT.out; omega)))).trans hs9 (U := fun k => k = R) (fun _ _ h => h) (fun k hk e => by have := HTV.out; have := HTT.out; omega))
    refine wpO_run rfl (by kernel_rfl) (fun K hK => ?_)
    go_simp
    refine hK _ _ (last_skip (by kernel_rfl)) ?_
    clear hK K
    try simp only [Act.put, List.setIfInBounds_toArray, List.set_cons_zero, List.set_cons_succ]
    refine wpO_end ?_
    clear hO8 hb9 hs9 hb8 ho8 hf8 hn8 hO7 hF6 hfa hfd hv hr hf hb6 f3 c3 hown hVn hvl hbs r2
    generalize w8.setCell ⟨V, 3, none⟩ (.slice (some ⟨g, 0, none⟩) (L.length + 1) cap) = w9 at *
    go_wp2_with fail
    go_roundw
    case rel => exact ⟨j', _, L ++ [(rVal B d t').1], _, by rw [List.length_append]; simp; omega, by go_num, HQ2, HR9, HB9, HT9, by simpa using HO9, HF9⟩
    case measure => simp [intOf]
 have HKN := hid (show ¬ (k = 0 ∨ k = 1 ∨ k = 3) ∧ k ≠ 2 ∧ k ≠ 4 from ⟨by omega, kc2, kc4⟩)
 have HX0 := hid (show x0 = .mk k 0 ⟨#[]⟩ [] by have := HV.out; rw [if_neg HKN.out.1, if_neg HKN.out.2.1, if_neg HKN.out.2.2] at this; exact (congrArg Prod.fst this))
 have HS0 := hid (show s0 = s1.fail by have := HV.out; rw [if_neg HKN.out.1, if_neg HKN.out.2.1, if_neg HKN.out.2.2] at this; exact (congrArg Prod.snd this))
 have v0 : w3.cell? ⟨V, 0, none⟩ = some (.int .i64 k) := by rw [cell_of_row _ _ _ _ _ _ HBV.out]; rfl
 have e0 : w3.cell? ⟨0, 0, none⟩ = some (.iface 200 (.pointer (some (pa 2)))) := (HE.out w3 HF3.out) 2 (by decide)
 have b0 : ((k : Int) == 0) = false := by rw [beq_eq_false_iff_ne]; omega
 have b1 : ((k : Int) == 1) = false := by rw [beq_eq_false_iff_ne]; omega
 have b2 : ((k : Int) == 2) = false := by rw [beq_eq_false_iff_ne]; omega
 have b3 : ((k : Int) == 3) = false := by rw [beq_eq_false_iff_ne]; omega
 have b4 : ((k : Int) == 4) = false := by rw [beq_eq_false_iff_ne]; omega
 have HIN := hid (rdfail_any w3 HR3.out 200 (.pointer (some (pa 2))))
 clear kc0 kc1 kc3 kc2 kc4
 go_wp2_with fail
 refine HIN.out.mono ?_
 rintro e w5 ⟨rfl, hr5, hf5⟩
 have HB5 := hid (hf5.heap HBV.out (by have := HTV.out; have := HRT.out; omega))
 have HBT5 := hid (hf5.heap HBT.out (by have := HTV.out; have := HRT.out; omega))
 have HR5 := hid hr5
 have HF5 := hid (HF3.out.trans' hf5)
 have HVL := hid (VL.nil (fun b => V < b ∧ Soft w5 b) w5)
 clear hr5 hf5 HIN v0 e0
 go_upto_region 18 with fail
 have v0 : w5.cell? ⟨V, 0, none⟩ = some (.int .i64 (k)) := by rw [cell_of_row _ _ _ _ _ _ HB5.out]; rfl
 have v1 : w5.cell? ⟨V, 1, none⟩ = some (.int .i64 (0)) := by rw [cell_of_row _ _ _ _ _ _ HB5.out]; rfl
 have v2 : w5.cell? ⟨V, 2, none⟩ = some (.string (⟨#[]⟩)) := by rw [cell_of_row _ _ _ _ _ _ HB5.out]; rfl
 have v3 : w5.cell? ⟨V, 3, none⟩ = some (.slice none 0 0) := by rw [cell_of_row _ _ _ _ _ _ HB5.out]; rfl
 have t0 : w5.cell? ⟨T, 0, none⟩ = some (.int .i64 0) := by rw [cell_of_row _ _ _ _ _ _ HBT5.out]; rfl
 have t1 : w5.cell? ⟨T, 1, none⟩ = some (.int .i64 0) := by rw [cell_of_row _ _ _ _ _ _ HBT5.out]; rfl
 have t2 : w5.cell? ⟨T, 2, none⟩ = some (.string ⟨#[]⟩) := by rw [cell_of_row _ _ _ _ _ _ HBT5.out]; rfl
 have t3 : w5.cell? ⟨T, 3, none⟩ = some (.slice none 0 0) := by rw [cell_of_row _ _ _ _ _ _ HBT5.out]; rfl
 have F1 : ∀ i, w5.frozen? ⟨T, i, none⟩ = false := fun i => frozen_of_row w5 _ i _ _ HBT5.out
 have HST := hid (set4v (u0 := .int .i64 (k)) (u1 := .int .i64 (0)) (u2 := .string (⟨#[]⟩)) (u3 := .slice none 0 0) HBT5.out)
 go_wp2_with fail
 refine bodyPost_ret (results_cell_row rfl _ _ T _ _ _ _ rfl HST.out.1 Tryz.underlying44 rfl (by kernel_rfl)) rfl ?_
 refine ⟨_, rfl, ?_, ?_, HF5.out.trans HST.out.2 (fun _ _ h => h) (fun q hq e => by have := HTT.out; omega)⟩
 ·rw [HX0.out]
  exact ((HVL.out.close (k) (0) (⟨#[]⟩)).soft HST.out.2 (fun q hq e => by have := HTV.out.2; omega)).mono fun q _ hq => ⟨by have := HTV.out; have := HTT.out; omega, hq.2⟩
 ·rw [HS0.out]
  exact HR5.out.other HST.out.2 (fun q hq e => by have := HTV.out; have := HRT.out; omega)
theorem val_to : ∀ d, d ≤ 40 → ValTo d
 | 0, _ => val_zero
 | d + 1, h => val_succ d h (val_to d (by omega))
end
section
open Go.RowKit
def LfOk (t : NS) : Prop := t.lf ≤ 4096 ∧ 0 ≤ t.lf + t.s.at_ + (if t.s.ok = true then 0 else 1)
theorem LfOk.on {t t' : NS} (h : LfOk t) (hf : LfOn t t') (hg : t'.s.ok = true → t.s.ok = true) : LfOk t' := by
 obtain ⟨h1, h2⟩ := h
 obtain ⟨k1, k2⟩ := hf
 refine ⟨by omega, ?_⟩
 revert h2 k2 hg
 cases t.s.ok <;> cases t'.s.ok <;> simp <;> omega
def NdsTo (d : Nat) : Prop := ∀ (B : List UInt8) (t : NS) (R Lf : Nat) (pa : Nat → Addr) (w : World), RdAt w R B t.s → Sents w pa → R < Lf → w.heap[Lf]? = some (.cells #[.int .i64 t.lf] 3 (0, 0)) → LfOk t →
 Calls Tryz.prog 61 #[.pointer (some ⟨R, 0, none⟩), .int .i64 (42 - d), .pointer (some ⟨Lf, 0, none⟩)] w fun e w' => ∃ v, e = .returned v ∧ NL (fun b => w.heap.size ≤ b ∧ Soft w' b) w' (rNds B d t).1 v ∧ RdAt w' R B (rNds B d t).2.s ∧
  w'.heap[Lf]? = some (.cells #[.int .i64 (rNds B d t).2.lf] 3 (0, 0)) ∧ Fr (fun k => k = R ∨ k = Lf) w w'
set_option maxRecDepth 100000 in
theorem nds_zero : NdsTo 0 := by
 intro B t R Lf pa w h hE hRL hL _
 have e11 : w.cell? ⟨3, 0, none⟩ = some (.iface 200 (.pointer (some (pa 11)))) := hE 11 (by decide)
 have HFL := hid (rdfail_any _ h 200 (.pointer (some (pa 11))))
 have HL := hid hL; have HRL := hid hRL
 clear h hE hL hRL
 go_enter Tryz.func61, Tryz.ntmps61
 go_wp2_with fail
 refine HFL.out.mono ?_
 rintro e w2 ⟨rfl, hr, hf⟩
 have HR := hid hr; have HF := hid hf
 clear hr hf HFL e11
 go_wp2_with fail
 go_ret
 exact ⟨_, rfl, NL.nil _ _, HR.out, HF.out.heap HL.out (by have := HRL.out; omega), HF.out.mono fun _ _ h => .inl h⟩
theorem set3456 {w : World} {B : Nat} {t : TypeId} {fz : Nat × Nat} {a0 a1 a2 a3 a4 a5 a6 a7 u3 u4 u5 u6 : Value} (h : w.heap[B]? = some (.cells #[a0, a1, a2, a3, a4, a5, a6, a7] t fz)) :
  ((((w.setCell ⟨B, 3, none⟩ u3).setCell ⟨B, 4, none⟩ u4).setCell ⟨B, 5, none⟩ u5).setCell ⟨B, 6, none⟩ u6).heap[B]? = some (.cells #[a0, a1, a2, u3, u4, u5, u6, a7] t fz) ∧
  Fr (fun q => q = B) w ((((w.setCell ⟨B, 3, none⟩ u3).setCell ⟨B, 4, none⟩ u4).setCell ⟨B, 5, none⟩ u5).setCell ⟨B, 6, none⟩ u6) := by
 have hr := Fr.refl (fun q => q = B) w
 refine ⟨?_, (((hr.setCell (.inl rfl) _).setCell (.inl rfl) _).setCell (.inl rfl) _).setCell (.inl rfl) _⟩
 have h3 := setCell_row 3 u3 h
 simp only [List.setIfInBounds_toArray, List.set_cons_zero, List.set_cons_succ] at h3
 have h4 := setCell_row 4 u4 h3
 simp only [List.setIfInBounds_toArray, List.set_cons_zero, List.set_cons_succ] at h4
 have h5 := setCell_row 5 u5 h4
 simp only [List.setIfInBounds_toArray, List.set_cons_zero, List.set_cons_succ] at h5
 have h6 := setCell_row 6 u6 h5
 simpa only [List.setIfInBounds_toArray, List.set_cons_zero, List.set_cons_succ] using h6
theorem NL.soft {B : Nat → Prop} {S : Nat → Prop} {w w' : World} {l : List Nd} {v : Value} (h : NL (fun b => B b ∧ Soft w b) w l v) (hf : Fr S w w') (hS : ∀ k, B k → ¬ S k) : NL (fun b => B b ∧ Soft w' b) w' l v := by
 have := (h.close 0 0 ⟨#[]⟩ (.mk 0 0 ⟨#[]⟩ []) (VL.nil _ w)).soft hf hS
 obtain ⟨va, v', e, -, h'⟩ := this.open
 obtain rfl : v' = v := by simpa using (congrArg (fun q => q.getD 7 undef) e).symm
 exact h'
theorem VL.soft {B : Nat → Prop} {S : Nat → Prop} {w w' : World} {l : List V} {v : Value} (h : VL (fun b => B b ∧ Soft w b) w l v) (hf : Fr S w w') (hS : ∀ k, B k → ¬ S k) : VL (fun b => B b ∧ Soft w' b) w' l v := by
 have := ((h.close 0 0 ⟨#[]⟩).soft hf hS).open
 obtain ⟨v', e, h'⟩ := this
 obtain rfl : v' = v := by simpa using (congrArg (fun q => q.getD 3 undef) e).symm
 exact h'
set_option maxRecDepth 100000 in
set_option maxHeartbeats 6400000 in
theorem nds_succ (d : Nat) (hd : d + 1 ≤ 41) (ih : NdsTo d) : NdsTo (d + 1) := by
 intro B t R Lf pa w h hE hRL hL hK
 obtain ⟨⟨x0, t0⟩, hq0⟩ : ∃ q, rNds B (d + 1) t = q := ⟨_, rfl⟩
 rw [hq0]
 obtain ⟨⟨n, s1⟩, hq1⟩ : ∃ q, rMany B t.lf t.s = q := ⟨_, rfl⟩
 have hg1 := rMany_go (B := B) t.lf h.1.2.1
 have HMA := hid (rdmany_any t.lf (by have := hK; have := h.1.2; unfold LfOk at *; omega) pa w h hE)
 rw [hq1] at hg1 HMA
 have HQ0 := hid (show (x0, t0) = rLoop NS.ok (rNode B (rNds B d)) n ⟨t.lf, s1⟩ by rw [← hq0, rNds, hq1])
 have hn : n < 4294967296 := hg1.2.2.1
 have HK1 := hid (show LfOk ⟨t.lf, s1⟩ from hK.on (t' := ⟨t.lf, s1⟩) ⟨Int.le_refl _, by have := hg1.1.1; dsimp only at this ⊢; split <;> omega⟩ hg1.1.2.2)
 have HE := hid (fun (w2 : World) (hf : Fr (fun k => k = R ∨ k = Lf) w w2) => show Sents w2 pa from fun i hi => hf.cell (hE i hi) (by
  have h1 := sent_lt i hi
  have h2 := h.1.1
  show ¬ (sentG.getD i 0 = R ∨ sentG.getD i 0 = Lf)
  omega))
 have c0 : w.cell? ⟨Lf, 0, none⟩ = some (.int .i64 t.lf) := by rw [cell_of_row _ _ _ _ _ _ hL]; rfl
 have HL := hid hL; have HRL := hid hRL; have HBL := hid h.1.2.2
 have HLW := hid (heap_lt hL)
 have hdI : (42 : Int) - ((d + 1 : Nat) : Int) = 41 - d := by omega
 have hdR : (d : Int) ≤ 40 := by omega
 have hdd : (41 : Int) - d + 1 = 42 - d := by omega
 have hdw : IntKind.i64.wrap ((42 : Int) - d) = 42 - d := IntWalk.i64_in _ (by omega)
 have HIH := hid (fun (w2 : World) (t' : NS) (hr : RdAt w2 R B t'.s) (he : Sents w2 pa) (hl : w2.heap[Lf]? = some (.cells #[.int .i64 t'.lf] 3 (0, 0))) (hk : LfOk t') => ih B t' R Lf pa w2 hr he hRL hl hk)
 rw [hdI]
 clear h hE hL hRL hK hq0 hq1 hg1 hdI ih hd
 go_enter Tryz.func61, Tryz.ntmps61
 go_wp2_with fail
 refine HMA.out.mono ?_
 rintro e w1 ⟨rfl, hr, hf⟩
 have HR1 := hid hr
 have HL1 := hid (hf.heap HL.out (by have := HRL.out; omega))
 have HF1 := hid (hf.mono (T := fun k => k = R ∨ k = Lf) fun _ _ h => .inl h)
 clear hr hf HMA c0 HL
 have hnI : (n : Int) < 4294967296 := by omega
 go_wp2_with fail
 go_loopw [7, 8] (fun u i wr => ∃ (j : Nat) (t' : NS) (L : List Nd), (j : Int) < 4294967296 ∧ i = .int .i64 j ∧ Hid (L ++ (rLoop NS.ok (rNode B (rNds B d)) j t').1 = x0 ∧ (rLoop NS.ok (rNode B (rNds B d)) j t').2 = t0) ∧ Hid (RdAt wr R B t'.s) ∧ Hid (wr.heap[Lf]? = some (.cells #[.int .i64 t'.lf] 3 (0, 0))) ∧ Hid (NOwn 75 w.heap.size wr L u) ∧ Hid (LfOk t' ∧ L.length ≤ t'.s.at_ + (if t'.s.ok = true then 0 else 1)) ∧ Hid (Fr (fun k => k = R ∨ k = Lf) w wr)) (fun _ i _ => (intOf i).toNat)
 case atStart => exact ⟨n, ⟨t.lf, s1⟩, [], hnI, rfl, hid (by have := HQ0.out; exact ⟨(congrArg Prod.fst this).symm, (congrArg Prod.snd this).symm⟩), HR1, HL1, hid (NOwn.nil _ _ _), hid ⟨HK1.out, Nat.zero_le _⟩, HF1⟩
 case round =>
  clear HR1 HL1 HF1 HQ0 HK1 hnI hn
  obtain ⟨j, t', L, hjn, rfl, HQ, HR2, HL2, HO, HK, HF2⟩ := hrel
  obtain ⟨xs, ho, hxs⟩ := HO.out
  have HOW := hid ho
  have HXS := hid hxs
  obtain ⟨al, cl, rfl, -⟩ := own_len ho
  clear ho hxs
  by_cases hj : j = 0
  ·subst hj
   have h1 := HQ.out
   rw [rLoop, List.append_nil] at h1
   have HX0 := hid h1
   clear h1
   go_wp2_with fail
   go_ret
   refine ⟨_, rfl, ?_, by rw [← HX0.out.2]; exact HR2.out, by rw [← HX0.out.2]; exact HL2.out, HF2.out⟩
   rw [← HX0.out.1]
   exact HO.out.close
  by_cases hok : t'.s.ok = false
  ·have h1 := HQ.out
   obtain ⟨j', rfl⟩ : ∃ j', j = j' + 1 := ⟨j - 1, by omega⟩
   rw [rLoop, if_pos (show NS.ok t' = false from hok), List.append_nil] at h1
   have HX0 := hid h1
   obtain ⟨tt, xx, r2⟩ := HR2.out.ok_iface hok
   have hjp : (0 : Int) < (j' : Int) + 1 := by omega
   clear h1
   go_wp2_with fail
   go_ret
   refine ⟨_, rfl, ?_, by rw [← HX0.out.2]; exact HR2.out, by rw [← HX0.out.2]; exact HL2.out, HF2.out⟩
   rw [← HX0.out.1]
   exact HO.out.close
  ·obtain ⟨j', rfl⟩ : ∃ j', j = j' + 1 := ⟨j - 1, by omega⟩
   have r2 := HR2.out.ok_nil (by simpa using hok)
   have hok' : t'.s.ok = true := by simpa using hok
   obtain ⟨⟨ka, s1⟩, e1⟩ : ∃ q, rNum B 1 t'.s = q := ⟨_, rfl⟩
   obtain ⟨⟨kb, s2⟩, e2⟩ : ∃ q, rNum B 8 s1 = q := ⟨_, rfl⟩
   obtain ⟨⟨kc, s3⟩, e3⟩ : ∃ q, rText B 32 s2 = q := ⟨_, rfl⟩
   obtain ⟨⟨kd, s4⟩, e4⟩ : ∃ q, rVal B 40 s3 = q := ⟨_, rfl⟩
   obtain ⟨⟨ke, t5⟩, e5⟩ : ∃ q, rNds B d ⟨t'.lf - 1, s4⟩ = q := ⟨_, rfl⟩
   have hnode : rNode B (rNds B d) t' = (.mk ka (sI kb) kc kd ke, t5) := by
    unfold rNode
    simp only [e1, e2, e3, e4, e5]
   have HQ2 := hid (show (L ++ [.mk ka (sI kb) kc kd ke]) ++ (rLoop NS.ok (rNode B (rNds B d)) j' t5).1 = x0 ∧ (rLoop NS.ok (rNode B (rNds B d)) j' t5).2 = t0 by
    have h1 := HQ.out
    rw [rLoop, if_neg (show ¬ NS.ok t' = false from hok), hnode] at h1
    rw [List.append_assoc]
    exact h1)
   obtain ⟨g1, g2, -⟩ := rNode_go (rNds_go (B := B) d) t' HR2.out.1.2.1 hok'
   obtain ⟨-, -, g3⟩ := rNode_go (rNds_go (B := B) d) t' HR2.out.1.2.1 hok'
   rw [hnode] at g1 g2 g3
   have HK5 := hid (show LfOk t5 ∧ L.length + 1 ≤ t5.s.at_ + (if t5.s.ok = true then 0 else 1) by
    refine ⟨HK.out.1.on g2 g1.2.2, ?_⟩
    have h2 := HK.out.2
    rw [if_pos hok'] at h2
    have h3 := g1.1
    by_cases h5 : t5.s.ok = true
    ·rw [if_pos h5]
     have := (g3 h5).2
     dsimp only at this
     omega
    ·rw [if_neg h5]
     dsimp only at h3
     omega)
   have n1 := rNum_go (B := B) 1 HR2.out.1.2.1
   rw [e1] at n1
   have n2 := rNum_go (B := B) 8 n1.1.2.1
   rw [e2] at n2
   have n3 := rText_go (B := B) 32 n2.1.2.1
   rw [e3] at n3
   have n4 := rVal_go (B := B) 40 _ n3.1.2.1
   rw [e4] at n4
   have HK4 := hid (show LfOk ⟨t'.lf - 1, s4⟩ by
    have h1 := HK.out.1.1
    have h2 := HK.out.1.2
    rw [if_pos hok'] at h2
    have h3 := ((n1.1.trans n2.1).trans n3.1).trans n4.1
    have h4 := h3.1
    dsimp only at h4
    refine ⟨by dsimp only; omega, ?_⟩
    dsimp only
    by_cases h5 : s4.ok = true
    ·rw [if_pos h5]
     have h6 := n1.2.1 (n2.1.2.2 (n3.1.2.2 (n4.1.2.2 h5)))
     have h7 := ((n2.1.trans n3.1).trans n4.1).1
     dsimp only at h6 h7
     omega
    ·rw [if_neg h5]
     omega)
   have hka : ka < 256 := by have := n1.2.2; simpa using this
   have hlf : t'.lf ≤ 4096 ∧ -1073741825 ≤ t'.lf - 1 := by
    have h1 := HK.out.1
    obtain ⟨h2, h3⟩ := h1
    rw [if_pos hok'] at h3
    have := HR2.out.1
    omega
   have hjp : (0 : Int) < (j' : Int) + 1 := by omega
   have HLL := hid (show L.length + 1 ≤ 1099511627776 by
    have h2 := HK.out.2
    rw [if_pos hok'] at h2
    have := HR2.out.1
    omega)
   have hkaI : (ka : Int) < 256 := by omega
   have l0 : wr.cell? ⟨Lf, 0, none⟩ = some (.int .i64 t'.lf) := by rw [cell_of_row _ _ _ _ _ _ HL2.out]; rfl
   have lz : wr.frozen? ⟨Lf, 0, none⟩ = false := frozen_of_row wr _ 0 _ _ HL2.out
   have hl3 := setCell_row 0 (.int .i64 (t'.lf - 1)) HL2.out
   simp only [List.setIfInBounds_toArray, List.set_cons_zero, List.set_cons_succ] at hl3
   have hs3 : Fr (fun q => q = Lf) wr (wr.setCell ⟨Lf, 0, none⟩ (.int .i64 (t'.lf - 1))) := Fr.setCell (S := fun k => k = Lf) (Fr.refl _ _) (p := ⟨Lf, 0, none⟩) (.inl rfl) _
   have HL3 := hid hl3
   have HR3 := hid (HR2.out.other hs3 (fun k hk e => by have := HRL.out; omega))
   have HG3 := hid (hs3.mono (T := fun k => k = R ∨ k = Lf) fun _ _ h => .inr h)
   clear hok g1 g2 g3 n1 n2 n3 n4 hnode HQ HK hl3 hs3 hj hok'
   go_upto_region 9 with fail
   generalize wr.setCell ⟨Lf, 0, none⟩ (.int .i64 (t'.lf - 1)) = w3 at *
   clear l0 lz r2
   have HN3 := hid (rdnum_any 1 (by decide) pa w3 HR3.out (HE.out w3 (HF2.out.trans' HG3.out)))
   rw [e1] at HN3
   go_wp2_with fail
   refine HN3.out.mono ?_
   rintro e w4 ⟨rfl, hr4, hf4⟩
   have HR4 := hid hr4
   have HG4 := hid (HG3.out.trans' (hf4.mono (T := fun k => k = R ∨ k = Lf) fun _ _ h => .inl h))
   have HL4 := hid (hf4.heap HL3.out (by have := HRL.out; omega))
   clear hr4 hf4 HN3
   go_upto_region 10 with fail
   have hfa := (Fr.refl (fun _ => False) w4).alloc (.cells #[.int .i64 ka, .int .i64 0, .string ⟨#[]⟩, .int .i64 0, .int .i64 0, .string ⟨#[]⟩, .slice none 0 0, .slice none 0 0] 75)
   have HX5 := hid (heap_alloc_new w4 (.cells #[.int .i64 ka, .int .i64 0, .string ⟨#[]⟩, .int .i64 0, .int .i64 0, .string ⟨#[]⟩, .slice none 0 0, .slice none 0 0] 75))
   have HR5 := hid (HR4.out.frame hfa)
   have HL5 := hid (hfa.heap HL4.out not_false)
   have HG5 := hid (HG4.out.trans hfa (U := fun k => k = R ∨ k = Lf) (fun _ _ h => h) (fun _ _ h => h.elim))
   have HXW := hid (show wr.heap.size ≤ w4.heap.size from HG4.out.size)
   have HXR := hid (show R < Lf ∧ Lf < w4.heap.size from ⟨HRL.out, heap_lt HL4.out⟩)
   clear hfa HR4 HL4 HG4 HR3 HL3 HG3
   generalize hXX : w4.heap.size = X at *
   generalize w4.alloc (.cells #[.int .i64 ka, .int .i64 0, .string ⟨#[]⟩, .int .i64 0, .int .i64 0, .string ⟨#[]⟩, .slice none 0 0, .slice none 0 0] 75) = w5 at *
   clear hXX
   have HN5 := hid (rdint_any pa w5 HR5.out (HE.out w5 (HF2.out.trans' HG5.out)))
   rw [e2] at HN5
   go_wp2_with fail
   refine HN5.out.mono ?_
   rintro e w6 ⟨rfl, hr, hf⟩
   have HR6 := hid hr
   have HX6 := hid (hf.heap HX5.out (by have := HXR.out; omega))
   have HL6 := hid (hf.heap HL5.out (by have := HXR.out; omega))
   have HG6 := hid (HG5.out.trans' (hf.mono (T := fun k => k = R ∨ k = Lf) fun _ _ h => .inl h))
   clear hr hf HN5 HR5 HX5 HL5 HG5
   have q6 : w6.cell? ⟨X, 1, none⟩ = some (.int .i64 0) := by rw [cell_of_row _ _ _ _ _ _ HX6.out]; rfl
   have z6 : w6.frozen? ⟨X, 1, none⟩ = false := frozen_of_row w6 _ 1 _ _ HX6.out
   have hx7 := setCell_row 1 (.int .i64 (sI kb)) HX6.out
   simp only [List.setIfInBounds_toArray, List.set_cons_zero, List.set_cons_succ] at hx7
   have hs7 : Fr (fun q => q = X) w6 (w6.setCell ⟨X, 1, none⟩ (.int .i64 (sI kb))) := Fr.setCell (S := fun k => k = X) (Fr.refl _ _) (p := ⟨X, 1, none⟩) (.inl rfl) _
   have HX7 := hid hx7
   have HR7 := hid (HR6.out.other hs7 (fun k hk e => by have := HXR.out; omega))
   have HL7 := hid (hs7.heap HL6.out (by have := HXR.out; omega))
   have HG7 := hid (HG6.out.trans hs7 (U := fun k => k = R ∨ k = Lf) (fun _ _ h => h) (fun k hk e => by have := HXW.out; omega))
   clear HR6 HX6 HL6 HG6 hx7 hs7
   go_upto_region 11 with fail
   generalize w6.setCell ⟨X, 1, none⟩ (.int .i64 (sI kb)) = w7 at *
   clear q6 z6
   have HN7 := hid (rdtext_any 32 (by decide) pa w7 HR7.out (HE.out w7 (HF2.out.trans' HG7.out)))
   rw [e3] at HN7
   go_wp2_with fail
   refine HN7.out.mono ?_
   rintro e w8 ⟨rfl, hr, hf⟩
   have HR8 := hid hr
   have HX8 := hid (hf.heap HX7.out (by have := HXR.out; omega))
   have HL8 := hid (hf.heap HL7.out (by have := HXR.out; omega))
   have HG8 := hid (HG7.out.trans' (hf.mono (T := fun k => k = R ∨ k = Lf) fun _ _ h => .inl h))
   clear hr hf HN7 HR7 HX7 HL7 HG7
   have q8 : w8.cell? ⟨X, 2, none⟩ = some (.string ⟨#[]⟩) := by rw [cell_of_row _ _ _ _ _ _ HX8.out]; rfl
   have z8 : w8.frozen? ⟨X, 2, none⟩ = false := frozen_of_row w8 _ 2 _ _ HX8.out
   have hx9 := setCell_row 2 (.string kc) HX8.out
   simp only [List.setIfInBounds_toArray, List.set_cons_zero, List.set_cons_succ] at hx9
   have hs9 : Fr (fun q => q = X) w8 (w8.setCell ⟨X, 2, none⟩ (.string kc)) := Fr.setCell (S := fun k => k = X) (Fr.refl _ _) (p := ⟨X, 2, none⟩) (.inl rfl) _
   have HX9 := hid hx9
   have HR9 := hid (HR8.out.other hs9 (fun k hk e => by have := HXR.out; omega))
   have HL9 := hid (hs9.heap HL8.out (by have := HXR.out; omega))
   have HG9 := hid (HG8.out.trans hs9 (U := fun k => k = R ∨ k = Lf) (fun _ _ h => h) (fun k hk e => by have := HXW.out; omega))
   clear HR8 HX8 HL8 HG8 hx9 hs9
   go_upto_region 12 with fail
   generalize w8.setCell ⟨X, 2, none⟩ (.string kc) = w9 at *
   clear q8 z8
   have HN9 := hid (val_to 40 (by decide) B s3 R pa w9 HR9.out (HE.out w9 (HF2.out.trans' HG9.out)))
   rw [show (41 : Int) - ((40 : Nat) : Int) = 1 from rfl] at HN9
   rw [e4] at HN9
   go_wp2_with fail
   refine HN9.out.mono ?_
   rintro e w10 ⟨u, rfl, hv, hr, hf⟩
   obtain ⟨v', rfl, hvl⟩ := hv.open
   obtain ⟨va, vc, vus, rfl, -⟩ := id hvl
   have HR10 := hid hr
   have HX10 := hid (hf.heap HX9.out (by have := HXR.out; omega))
   have HL10 := hid (hf.heap HL9.out (by have := HXR.out; omega))
   have HG10 := hid (HG9.out.trans' (hf.mono (T := fun k => k = R ∨ k = Lf) fun _ _ h => .inl h))
   have HV10 := hid (hvl.mono (E := fun b => X < b ∧ Soft w10 b) fun b _ hb => ⟨Nat.lt_of_lt_of_le (heap_lt HX9.out) hb.1, hb.2⟩)
   clear hr hf hv hvl HN9 HR9 HX9 HL9 HG9
   have q3 : w10.cell? ⟨X, 3, none⟩ = some (.int .i64 0) := by rw [cell_of_row _ _ _ _ _ _ HX10.out]; rfl
   have q4 : w10.cell? ⟨X, 4, none⟩ = some (.int .i64 0) := by rw [cell_of_row _ _ _ _ _ _ HX10.out]; rfl
   have q5 : w10.cell? ⟨X, 5, none⟩ = some (.string ⟨#[]⟩) := by rw [cell_of_row _ _ _ _ _ _ HX10.out]; rfl
   have q6 : w10.cell? ⟨X, 6, none⟩ = some (.slice none 0 0) := by rw [cell_of_row _ _ _ _ _ _ HX10.out]; rfl
   have zz : ∀ i, w10.frozen? ⟨X, i, none⟩ = false := fun i => frozen_of_row w10 _ i _ _ HX10.out
   obtain ⟨hx11, hs11⟩ := set3456 (u3 := .int .i64 kd.k) (u4 := .int .i64 kd.n) (u5 := .string kd.s) (u6 := .slice va kd.l.length vc) HX10.out
   have HX11 := hid hx11
   have HR11 := hid (HR10.out.other hs11 (fun k hk e => by have := HXR.out; omega))
   have HL11 := hid (hs11.heap HL10.out (by have := HXR.out; omega))
   have HG11 := hid (HG10.out.trans hs11 (U := fun k => k = R ∨ k = Lf) (fun _ _ h => h) (fun k hk e => by have := HXW.out; omega))
   have HV11 := hid (HV10.out.soft hs11 fun k hk e => by omega)
   clear HR10 HX10 HL10 HG10 HV10 hx11 hs11
   go_upto_region 13 with fail
   generalize (((w10.setCell ⟨X, 3, none⟩ (.int .i64 kd.k)).setCell ⟨X, 4, none⟩ (.int .i64 kd.n)).setCell ⟨X, 5, none⟩ (.string kd.s)).setCell ⟨X, 6, none⟩ (.slice va kd.l.length vc) = w11 at *
   clear q3 q4 q5 q6 zz
   have HN11 := hid (HIH.out w11 ⟨t'.lf - 1, s4⟩ HR11.out (HE.out w11 (HF2.out.trans' HG11.out)) HL11.out HK4.out)
   rw [e5] at HN11
   go_wp2_with fail
   refine HN11.out.mono ?_
   rintro e w12 ⟨vl, rfl, hnl, hr, hlw, hf⟩
   obtain ⟨la, lc, lus, rfl, -⟩ := id hnl
   have HR12 := hid hr
   have HX12 := hid (hf.heap HX11.out (by have := HXR.out; omega))
   have HL12 := hid hlw
   have HG12 := hid (HG11.out.trans' hf)
   have HV12 := hid (HV11.out.soft hf fun k hk e => by have := HXR.out; omega)
   have HN12 := hid (hnl.mono (E := fun b => X < b ∧ Soft w12 b) fun b _ hb => ⟨Nat.lt_of_lt_of_le (heap_lt HX11.out) hb.1, hb.2⟩)
   clear hr hf hlw hnl HN11 HR11 HX11 HL11 HG11 HV11
   have q12 : w12.cell? ⟨X, 7, none⟩ = some (.slice none 0 0) := by rw [cell_of_row _ _ _ _ _ _ HX12.out]; rfl
   have z12 : w12.frozen? ⟨X, 7, none⟩ = false := frozen_of_row w12 _ 7 _ _ HX12.out
   have hx13 := setCell_row 7 (.slice la ke.length lc) HX12.out
   simp only [List.setIfInBounds_toArray, List.set_cons_zero, List.set_cons_succ] at hx13
   have hs13 : Fr (fun q => q = X) w12 (w12.setCell ⟨X, 7, none⟩ (.slice la ke.length lc)) := Fr.setCell (S := fun k => k = X) (Fr.refl _ _) (p := ⟨X, 7, none⟩) (.inl rfl) _
   have HX13 := hid hx13
   have HR13 := hid (HR12.out.other hs13 (fun k hk e => by have := HXR.out; omega))
   have HL13 := hid (hs13.heap HL12.out (by have := HXR.out; omega))
   have HG13 := hid (HG12.out.trans hs13 (U := fun k => k = R ∨ k = Lf) (fun _ _ h => h) (fun k hk e => by have := HXW.out; omega))
   have HV13 := hid (HV12.out.soft hs13 fun k hk e => by omega)
   have HN13 := hid (HN12.out.soft hs13 fun k hk e => by omega)
   clear HR12 HX12 HL12 HG12 HV12 HN12 hx13 hs13
   go_upto_region 14 with fail
   generalize w12.setCell ⟨X, 7, none⟩ (.slice la ke.length lc) = w13 at *
   clear q12 z12
   have q0 : w13.cell? ⟨X, 0, none⟩ = some (.int .i64 ka) := by rw [cell_of_row _ _ _ _ _ _ HX13.out]; rfl
   have q1 : w13.cell? ⟨X, 1, none⟩ = some (.int .i64 (sI kb)) := by rw [cell_of_row _ _ _ _ _ _ HX13.out]; rfl
   have q2 : w13.cell? ⟨X, 2, none⟩ = some (.string kc) := by rw [cell_of_row _ _ _ _ _ _ HX13.out]; rfl
   have q3 : w13.cell? ⟨X, 3, none⟩ = some (.int .i64 kd.k) := by rw [cell_of_row _ _ _ _ _ _ HX13.out]; rfl
   have q4 : w13.cell? ⟨X, 4, none⟩ = some (.int .i64 kd.n) := by rw [cell_of_row _ _ _ _ _ _ HX13.out]; rfl
   have q5 : w13.cell? ⟨X, 5, none⟩ = some (.string kd.s) := by rw [cell_of_row _ _ _ _ _ _ HX13.out]; rfl
   have q6 : w13.cell? ⟨X, 6, none⟩ = some (.slice va kd.l.length vc) := by rw [cell_of_row _ _ _ _ _ _ HX13.out]; rfl
   have q7 : w13.cell? ⟨X, 7, none⟩ = some (.slice la ke.length lc) := by rw [cell_of_row _ _ _ _ _ _ HX13.out]; rfl
   have hRl : ∀ k, w.heap.size ≤ k → ¬ (k = R ∨ k = Lf) := fun k hk e => by have := HRL.out; have := HLW.out; omega
   have hO13 := HG13.out.own HOW.out (fun k hk => hRl k (HOW.out.lt k hk).1)
   have hfa := (Fr.refl (fun _ => False) w13).alloc (.cells #[.int .i64 ka, .int .i64 (sI kb), .string kc, .int .i64 kd.k, .int .i64 kd.n, .string kd.s, (.slice va kd.l.length vc), (.slice la ke.length lc)] 75)
   have hO14 := hfa.own hO13 fun _ _ => not_false
   have HOA := hid hO14
   have HFA := hid hfa
   have HCE := hid (cells_new4 w13 #[.int .i64 ka, .int .i64 (sI kb), .string kc, .int .i64 kd.k, .int .i64 kd.n, .string kd.s, (.slice va kd.l.length vc), (.slice la ke.length lc)] 75 (0, 0))
   have HRl := hid hRl
   have HBS := hid (show w.heap.size ≤ (w13.alloc (.cells #[.int .i64 ka, .int .i64 (sI kb), .string kc, .int .i64 kd.k, .int .i64 kd.n, .string kd.s, (.slice va kd.l.length vc), (.slice la ke.length lc)] 75)).heap.size from Nat.le_trans (Nat.le_trans HF2.out.size HG13.out.size) hfa.size)
   clear hO13 hfa hO14 hRl
   go_wp2_with (at_builtin; go_must (refine wpList_appendR8 rfl (.tmp 55) (.tmp 57) 22 rfl 75 (.agg #[.int .i64 0, .int .i64 0, .string ⟨#[]⟩, .int .i64 0, .int .i64 0, .string ⟨#[]⟩, .slice none 0 0, .slice none 0 0]) 8 112 Tryz.underlying22 Tryz.info_nd8 rfl (by decide) _ rfl w.heap.size L.length xs HOA.out w13.heap.size 1 [.int .i64 ka, .int .i64 (sI kb), .string kc, .int .i64 kd.k, .int .i64 kd.n, .string kd.s, (.slice va kd.l.length vc), (.slice la ke.length lc)] rfl rfl HCE.out (by simp [Value.oneCell']) HLL.out (by decide) HBS.out ?_))
   intro g cap w15 ho15 hf15 hn15
   have hown : ∀ k, k < w.heap.size → ¬ some k = (Value.slice al L.length cl).ownBlock := fun k hk e => by have := (HOW.out.lt k e.symm).1; omega
   have HO15 := hid (show NOwn 75 w.heap.size w15 (L ++ [.mk ka (sI kb) kc kd ke]) (.slice (some ⟨g, 0, none⟩) (L.length + 1) cap) by
    have hF14 := HG13.out.trans HFA.out (U := fun k => k = R ∨ k = Lf) (fun _ _ h => h) (fun _ _ h => h.elim)
    refine NOwn.snoc (u := #[.int .i64 ka, .int .i64 (sI kb), .string kc, .int .i64 kd.k, .int .i64 kd.n, .string kd.s, (.slice va kd.l.length vc), (.slice la ke.length lc)]) HOA.out (fun i x hi => ?_) ho15 hf15 (fun q hq => ?_) ?_ rfl
    ·obtain ⟨u, hu, r⟩ := HXS.out i x hi
     exact ⟨u, (hu.frame hF14 fun k hk => HRl.out k hk.1).mono fun q _ hq => ⟨hq.1, Nat.lt_of_lt_of_le hq.2.1 hF14.size, hq.2.2.1, hF14.soft hq.2.1 (HRl.out q hq.1) hq.2.2.2⟩, r⟩
    ·simp only [Value.ownBlock, Option.some.injEq] at hq
     subst hq
     simpa using hn15
    ·have h1 := HN13.out.soft HFA.out fun _ _ => id
     have h2 := HV13.out.soft HFA.out fun _ _ => id
     refine (h1.close ka (sI kb) kc kd h2).mono fun q hq hq2 => ⟨?_, hq, fun e => ?_, hq2.2⟩
     ·have := HXW.out; have := HF2.out.size; have hq3 := hq2.1; omega
     ·have := (HOW.out.lt q e).2; have := HXW.out; have hq3 := hq2.1; omega)
   have HR15 := hid ((HR13.out.frame HFA.out).other hf15 (fun k hk e => hown k (by have := HRL.out; have := HLW.out; omega) e))
   have HL15 := hid (hf15.heap (HFA.out.heap HL13.out not_false) (hown Lf HLW.out))
   have HF15 := hid (((HF2.out.trans' HG13.out).trans HFA.out (U := fun k => k = R ∨ k = Lf) (fun _ _ h => h) (fun _ _ h => h.elim)).trans hf15 (U := fun k => k = R ∨ k = Lf) (fun _ _ h => h) (fun k hk e => absurd e (hown k hk)))
   clear ho15 hf15 hn15 hown q0 q1 q2 q3 q4 q5 q6 q7
   go_wp2_with fail
   go_roundw
   case rel => exact ⟨j', t5, L ++ [.mk ka (sI kb) kc kd ke], by omega, by go_num, HQ2, HR15, HL15, by simpa using HO15, hid ⟨HK5.out.1, by rw [List.length_append]; exact HK5.out.2⟩, HF15⟩
   case measure => simp [intOf]
theorem nds_to : ∀ d, d ≤ 41 → NdsTo d
 | 0, _ => nds_zero
 | d + 1, h => nds_succ d h (nds_to d (by omega))
end
section
open Go.RowKit
theorem wp_appendS {P : Program} {o : Oper} {a : Act} {w : World} {K : Act → World → Prop} {Q : Exit → Act → World → Prop} (s x : Operand) (t u : TypeId)
  (ho : o.op = .call { callee := .builtin .append, args := #[s, x], argTypes := #[t, u] })
  (e : TypeId) (ht : P.underlying t = some (.slice e)) (hu : P.underlying u = some .string) (hrow : (P.info? e).map (fun i => (i.zero, i.size, i.bytes)) = some (some (.int .u8 0), 1, 1))
  (v : Value) (hs : a.eval s = v) (base n : Nat) (xs : List Value) (hown : w.ownsRow base e 1 v n xs)
  (sx : ByteArray) (hx : a.eval x = .string sx) (h63 : n + sx.size ≤ 1099511627776) (hbase : base ≤ w.heap.size)
  (h : ∀ v' w', w'.ownsRow base e 1 v' (n + sx.size) (xs ++ Lib.strCells sx) → Fr (fun k => some k = v.ownBlock) w w' → (∀ k, v'.ownBlock = some k → v.ownBlock = some k ∨ w.heap.size ≤ k) → K (a.put o.dst v') w') : o.wp P a w K Q := by
 obtain ⟨i, hi, hz, hsz, hbt⟩ := info_parts hrow
 have hmx : n + sx.size ≤ maxLen := by unfold maxLen; omega
 obtain ⟨v', w', hr, ho', hg, hnil⟩ := Lib.run_append_own_string (P := P) w base t u o.type e i ht hu hi hz hsz hbt v n xs hown sx hmx (by omega) hbase
 have hw : ∀ k, v'.ownBlock = some k → v.ownBlock = some k ∨ w.heap.size ≤ k := by
  intro k hk
  rcases hown.2 with ⟨rfl, rfl⟩ | ⟨g1, cap1, cur1, rfl, hb1, hg1, hnc, hcm, hcs, htk⟩
  ·by_cases hm0 : sx.size = 0
   ·rw [hnil.2 ⟨rfl, hm0⟩] at hk
    exact .inl hk
   ·have e1 := run_append_nil_string (P := P) w t u o.type e i (.int .u8 0) ht hu hi hz sx (by omega) (by omega) (by rw [hbt]; omega)
    rw [hr] at e1
    simp only [Result.ok.injEq] at e1
    rw [e1.1] at hk
    simp only [Value.ownBlock, Option.some.injEq] at hk
    exact .inr (by omega)
  ·by_cases hroom : n + sx.size ≤ cap1
   ·have e1 := Lib.run_append_room_string (P := P) w t u o.type e i ht hu hi hsz g1 n cap1 cur1 hg1 sx hroom (by omega)
    rw [hr] at e1
    simp only [Result.ok.injEq] at e1
    rw [e1.1] at hk
    exact .inl hk
   ·have holds : ∀ j u, xs[j]? = some u → w.cell? ((⟨g1, 0, none⟩ : Addr).add j) = some u := hown.cells (g := g1) rfl
    have e1 := Lib.run_append_grow_string (P := P) w t u o.type e i (.int .u8 0) ht hu hi hz ⟨g1, 0, none⟩ n cap1 xs (by rw [hsz]; exact hown.1) holds sx (by omega) (by omega) (by rw [hbt]; exact growslice_fits (by omega) (by omega))
    rw [hr] at e1
    simp only [Result.ok.injEq] at e1
    rw [e1.1] at hk
    simp only [Value.ownBlock, Option.some.injEq] at hk
    exact .inr (by omega)
 unfold Oper.wp execOp
 simp only [ho, resolve, invoke, builtin, Sem.run_bind, Sem.run_pure, Result.andThen_ok, List.map_toArray, List.map_cons, List.map_nil, hs, hx, hr]
 exact h v' w' ho' (Fr.of_grownBy hg) hw
theorem wpList_appendS {P : Program} {ops : Array Oper} {rest : List Oper} {o : Oper} {a : Act} {w : World} {Q : Exit → Act → World → Prop} (hgd : o.guard = none) (s x : Operand) (t u : TypeId)
  (ho : o.op = .call { callee := .builtin .append, args := #[s, x], argTypes := #[t, u] })
  (e : TypeId) (ht : P.underlying t = some (.slice e)) (hu : P.underlying u = some .string) (hrow : (P.info? e).map (fun i => (i.zero, i.size, i.bytes)) = some (some (.int .u8 0), 1, 1))
  (v : Value) (hs : a.eval s = v) (base n : Nat) (xs : List Value) (hown : w.ownsRow base e 1 v n xs)
  (sx : ByteArray) (hx : a.eval x = .string sx) (h63 : n + sx.size ≤ 1099511627776) (hbase : base ≤ w.heap.size)
  (h : ∀ v' w', w'.ownsRow base e 1 v' (n + sx.size) (xs ++ Lib.strCells sx) → Fr (fun k => some k = v.ownBlock) w w' → (∀ k, v'.ownBlock = some k → v.ownBlock = some k ∨ w.heap.size ≤ k) → wpList P ops Q rest (a.put o.dst v') w') : wpList P ops Q (o :: rest) a w :=
 wpList_plain hgd fun _ hK => wp_appendS s x t u ho e ht hu hrow v hs base n xs hown sx hx h63 hbase fun v' w' h1 h2 h3 => hK _ _ (h v' w' h1 h2 h3)
def OBx (base : Nat) (w0 : World) (v0 : Value) (w : World) (v : Value) (l : List UInt8) : Prop :=
 OB base w v l ∧ Fr (fun k => some k = v0.ownBlock) w0 w ∧ ∀ k, v.ownBlock = some k → v0.ownBlock = some k ∨ w0.heap.size ≤ k
theorem OBx.trans {base : Nat} {w0 w1 w2 : World} {v0 v1 v2 : Value} {l m : List UInt8} (h : OBx base w0 v0 w1 v1 l) (k : OBx base w1 v1 w2 v2 m) : OBx base w0 v0 w2 v2 m :=
 ⟨k.1, h.2.1.trans k.2.1 (fun _ _ h => h) (fun r hr e => (h.2.2 r e.symm).elim (fun e => e.symm) fun h => absurd hr (by omega)),
  fun r hr => (k.2.2 r hr).elim (h.2.2 r) fun hk => .inr (Nat.le_trans h.2.1.size hk)⟩
theorem OBx.refl {base : Nat} {w : World} {v : Value} {l : List UInt8} (h : OB base w v l) : OBx base w v w v l := ⟨h, Fr.refl _ _, fun k hk => .inl hk⟩
theorem OBx.of {base n : Nat} {w0 w : World} {v0 v : Value} {l m : List UInt8} (h : w.ownsRow base 5 1 v n (bV l ++ bV m)) (hn : n = l.length + m.length) (hf : Fr (fun k => some k = v0.ownBlock) w0 w) (hk : ∀ k, v.ownBlock = some k → v0.ownBlock = some k ∨ w0.heap.size ≤ k) : OBx base w0 v0 w v (l ++ m) :=
 ⟨OB.snoc (by rw [← hn]; exact h), hf, hk⟩
theorem shr_byte (n j : Nat) : bV [UInt8.ofNat (n / 2 ^ (8 * j))] = [.int .u8 ((n : Int) / 2 ^ (8 * j) % 256)] := by simp [bV]
set_option maxRecDepth 100000 in
theorem mnum_any (base : Nat) (v : Value) (l : List UInt8) (n k : Nat) (w : World) (h : OB base w v l) (hn : n < 18446744073709551616) (hk : k ≤ 8) (hl : l.length ≤ 1073741824) (hb : base ≤ w.heap.size) :
  Calls Tryz.prog 56 #[v, .int .u64 n, .int .i64 k] w fun e w' => ∃ v', e = .returned v' ∧ OBx base w v w' v' (l ++ leN n k) := by
 have HO0 := hid h
 have HB := hid hb; have HL := hid hl
 have hkI : (k : Int) ≤ 8 := by omega
 have HN := hid hn
 clear h hb hl hn
 go_enter Tryz.func56, Tryz.ntmps56
 go_wp2_with fail
 go_loopw [0, 9] (fun u i wr => ∃ j : Nat, j ≤ k ∧ i = .int .i64 j ∧ Hid (OBx base w v wr u (l ++ leN n j))) (fun _ i _ => k - (intOf i).toNat)
 case atStart => exact ⟨0, Nat.zero_le _, rfl, hid (by rw [show leN n 0 = [] from rfl, List.append_nil]; exact OBx.refl HO0.out)⟩
 case round =>
  obtain ⟨j, hj, rfl, HX⟩ := hrel
  have hlen : (l ++ leN n j).length = l.length + j := by rw [List.length_append, leN_len]
  have HO1 := hid (show wr.ownsRow base 5 1 u0 (l.length + j) (bV (l ++ leN n j)) by have := HX.out.1; unfold OB at this; rwa [hlen] at this)
  have HF1 := hid HX.out.2
  clear HX hlen
  obtain ⟨ao, oc, rfl, -⟩ := own_len HO1.out
  by_cases hlt : j < k
  ·have hjI : (j : Int) < k := by omega
   have HC1 := hid (cell_new1 wr (.int .u8 ((n : Int) / 2 ^ (8 * j) % 256)) 5 (0, 0))
   have HFA := hid (HF1.out.1.alloc (.cells #[.int .u8 ((n : Int) / 2 ^ (8 * j) % 256)] 5))
   have HOW := hid (World.ownsRow.alloc HO1.out (.cells #[.int .u8 ((n : Int) / 2 ^ (8 * j) % 256)] 5))
   have HK := hid (show l.length + j + 1 ≤ 1099511627776 by have := HL.out; omega)
   have HBS := hid (show base ≤ (wr.alloc (.cells #[.int .u8 ((n : Int) / 2 ^ (8 * j) % 256)] 5)).heap.size from Nat.le_trans HB.out HFA.out.size)
   go_wp2_with (at_builtin; go_must (refine wpList_append1 rfl (.tmp 12) (.tmp 18) 30 rfl 5 (.int .u8 0) 1 Tryz.underlying30 Tryz.info_byte rfl _ rfl base (l.length + j) (bV (l ++ leN n j)) HOW.out wr.heap.size 1 (.int .u8 ((n : Int) / 2 ^ (8 * j) % 256)) rfl HC1.out rfl HK.out (by decide) HBS.out ?_))
   intro g cap w1 ho hf1 hn1
   have HX1 := hid (show OBx base w v w1 (.slice (some ⟨g, 0, none⟩) (l.length + j + 1) cap) (l ++ leN n (j + 1)) by
    refine ⟨?_, HFA.out.trans hf1 (fun _ _ h => h) (fun r hr e => (HF1.out.2 r e.symm).elim (fun e => e.symm) fun h => absurd hr (by omega)), fun r hr => ?_⟩
    ·unfold OB
     rw [leN_snoc, ← List.append_assoc, show ((l ++ leN n j) ++ [UInt8.ofNat (n / 2 ^ (8 * j))]).length = l.length + j + 1 by rw [List.length_append, List.length_append, leN_len]; rfl, show bV ((l ++ leN n j) ++ [UInt8.ofNat (n / 2 ^ (8 * j))]) = bV (l ++ leN n j) ++ [.int .u8 ((n : Int) / 2 ^ (8 * j) % 256)] by rw [← shr_byte]; simp [bV]]
     exact ho
    ·simp only [Value.ownBlock, Option.some.injEq] at hr
     subst hr
     rcases hn1 with h | h
     ·exact HF1.out.2 _ h
     ·exact .inr (by have := HFA.out.size; simp at this; omega))
   clear ho hf1 hn1
   go_wp2_with fail
   go_roundw
   case rel => exact ⟨j + 1, by omega, by go_num, HX1⟩
   case measure => simp [intOf]; omega
  ·obtain rfl : j = k := by omega
   have HX1 := hid (show OBx base w v wr (.slice ao (l.length + j) oc) (l ++ leN n j) from ⟨by unfold OB; rw [show (l ++ leN n j).length = l.length + j by rw [List.length_append, leN_len]]; exact HO1.out, HF1.out.1, HF1.out.2⟩)
   go_wp2_with fail
   go_ret
   exact ⟨_, rfl, HX1.out⟩
theorem u64_word (n : Int) : IntKind.u64.wrap n = (uI n : Int) := by
 unfold uI
 rw [IntKind.wrap_u64]
 omega
theorem mint_any (base : Nat) (v : Value) (l : List UInt8) (n : Int) (w : World) (h : OB base w v l) (hl : l.length ≤ 1073741824) (hb : base ≤ w.heap.size) :
  Calls Tryz.prog 57 #[v, .int .i64 n] w fun e w' => ∃ v', e = .returned v' ∧ OBx base w v w' v' (l ++ encI n) := by
 have HN := hid (mnum_any base v l (uI n) 8 w h (uI_lt n) (by decide) hl hb)
 obtain ⟨a, c, rfl, -⟩ := own_len h
 have hu := u64_word n
 clear h hl hb
 go_enter Tryz.func57, Tryz.ntmps57
 go_wp2_with fail
 refine HN.out.mono ?_
 rintro e w2 ⟨v', rfl, hx⟩
 have HX := hid hx
 clear hx HN
 go_wp2_with fail
 go_ret
 exact ⟨_, rfl, HX.out⟩
theorem mtext_any (base : Nat) (v : Value) (l : List UInt8) (s : ByteArray) (w : World) (h : OB base w v l) (hs : s.size ≤ 1073741824) (hl : l.length ≤ 1073741800) (hb : base ≤ w.heap.size) :
  Calls Tryz.prog 59 #[v, .string s] w fun e w' => ∃ v', e = .returned v' ∧ OBx base w v w' v' (l ++ encS s) := by
 have HN := hid (mnum_any base v l s.size 4 w h (by omega) (by decide) (by omega) hb)
 obtain ⟨a, c, rfl, -⟩ := own_len h
 have hu : IntKind.u64.wrap (s.size : Int) = (s.size : Int) := IntWalk.u64_in _ (by omega)
 have HS := hid hs; have HL := hid hl; have HB := hid hb
 clear h hl hb hs
 go_enter Tryz.func59, Tryz.ntmps59
 go_wp2_with (at_builtin; fail)
 refine HN.out.mono ?_
 rintro e w2 ⟨v', rfl, hx⟩
 have HX := hid hx
 have HO := hid (show w2.ownsRow base 5 1 v' (l.length + 4) (bV (l ++ leN s.size 4)) by have := hx.1; unfold OB at this; rwa [show (l ++ leN s.size 4).length = l.length + 4 by rw [List.length_append, leN_len]] at this)
 obtain ⟨a2, c2, rfl, -⟩ := own_len HO.out
 clear hx HN
 go_wp2_with (at_builtin; go_must (refine wpList_appendS rfl (.tmp 9) (.tmp 10) 30 9 rfl 5 Tryz.underlying30 Tryz.underlying9 Tryz.info_byte _ rfl base (l.length + 4) (bV (l ++ leN s.size 4)) HO.out s rfl (by have := HS.out; have := HL.out; omega) (Nat.le_trans HB.out HX.out.2.1.size) ?_))
 intro v3 w3 ho3 hf3 hk3
 have HX3 := hid (show OBx base w2 (.slice a2 (l.length + 4) c2) w3 v3 ((l ++ leN s.size 4) ++ s.data.toList) from OBx.of ho3 (by rw [Array.length_toList, List.length_append, leN_len]; rfl) hf3 hk3)
 obtain ⟨a3, c3, rfl, -⟩ := own_len ho3
 clear ho3 hf3 hk3
 go_wp2_with fail
 go_ret
 refine ⟨_, rfl, ?_⟩
 have h1 := HX.out.trans HX3.out
 rw [List.append_assoc] at h1
 exact h1
theorem byte_word (k : Int) : bV (leN (uI k) 1) = [.int .u8 (k % 256)] := by
 have h1 : leN (uI k) 1 = [UInt8.ofNat (uI k)] := by simp [leN]
 rw [h1]
 simp [bV]
 unfold uI
 omega
set_option maxRecDepth 100000 in
theorem mvalue_any (base : Nat) (v : Value) (l : List UInt8) (x : V) (D : Nat → Prop) (w : World) (u : Array Value) (hx : VIn D w x u) (hk : x.k ≠ 4) (hs : x.s.size ≤ 1073741824) (h : OB base w v l) (hl : l.length ≤ 1073741700) (hb : base ≤ w.heap.size) :
  Calls Tryz.prog 58 #[v, .agg u] w fun e w' => ∃ v', e = .returned v' ∧ OBx base w v w' v' (l ++ encV x) := by
 obtain ⟨va, rfl, a, cap, us, rfl, -⟩ := hx.open
 clear hx
 have HEQ := hid (show encV x = leN (uI x.k) 1 ++ if x.k = 2 then encS x.s else encI x.n from rfl)
 rw [HEQ.out]
 clear HEQ
 generalize x.k = kk at *
 generalize x.n = nn at *
 generalize x.s = ss at *
 have HNI := hid (fun (w2 : World) (v2 : Value) (h2 : OB base w2 v2 (l ++ leN (uI kk) 1)) (hb2 : base ≤ w2.heap.size) => mint_any base v2 _ nn w2 h2 (by rw [List.length_append, leN_len]; omega) hb2)
 have HTX := hid (fun (w2 : World) (v2 : Value) (h2 : OB base w2 v2 (l ++ leN (uI kk) 1)) (hb2 : base ≤ w2.heap.size) => mtext_any base v2 _ ss w2 h2 hs (by rw [List.length_append, leN_len]; omega) hb2)
 obtain ⟨ao, oc, rfl, -⟩ := own_len h
 have hn1 : l.length + 1 ≤ 1099511627776 := by omega
 let c8 : Array Value := #[.int .i64 kk, .int .i64 nn, .string ss, .slice a x.l.length cap]
 have hF0 := (Fr.refl (fun k => some k = (Value.slice ao l.length oc).ownBlock) w).alloc (.cells c8 44)
 have HR := hid (heap_alloc_new w (.cells c8 44))
 have HF1 := hid (hF0.alloc (.cells #[.int .u8 (kk % 256)] 5))
 have HOW := hid (World.ownsRow.alloc (World.ownsRow.alloc h (.cells c8 44)) (.cells #[.int .u8 (kk % 256)] 5))
 have HC1 := hid (cell_new1 (w.alloc (.cells c8 44)) (.int .u8 (kk % 256)) 5 (0, 0))
 have HN1 := hid hn1; have HB := hid hb
 have HBW := hid (byte_word kk)
 have HO0 := hid h
 clear hF0 hn1 hb h hl hs
 go_enter Tryz.func58, Tryz.ntmps58
 go_wp2_with (at_builtin; go_must (refine wpList_append1 rfl (.tmp 7) (.tmp 11) 30 rfl 5 (.int .u8 0) 1 Tryz.underlying30 Tryz.info_byte rfl _ rfl base l.length (bV l) HOW.out (w.heap.size + 1) 1 (.int .u8 (kk % 256)) rfl (by simp) rfl HN1.out (by decide) (by have := HB.out; simp; omega) ?_))
 intro g cp w1 ho hf1 hn1
 have HX1 := hid (show OBx base w (.slice ao l.length oc) w1 (.slice (some ⟨g, 0, none⟩) (l.length + 1) cp) (l ++ leN (uI kk) 1) from OBx.of (by rw [HBW.out]; exact ho) (by rw [leN_len]) (HF1.out.trans' hf1) (fun r hr => by
  simp only [Value.ownBlock, Option.some.injEq] at hr
  subst hr
  refine hn1.imp id fun h => ?_
  (try simp at h); omega))
 have hr1 : w1.heap[w.heap.size]? = some (.cells c8 44 (0, 0)) := hf1.heap (((Fr.refl (fun _ => False) _).alloc _).heap HR.out not_false) (fun e => by
  have := (HO0.out.lt _ e.symm).2
  omega)
 have hb1 : base ≤ w1.heap.size := Nat.le_trans HB.out HX1.out.2.1.size
 have d0 : w1.cell? ⟨w.heap.size, 0, none⟩ = some (.int .i64 kk) := by rw [cell_of_row _ _ _ _ _ _ hr1]; rfl
 have d1 : w1.cell? ⟨w.heap.size, 1, none⟩ = some (.int .i64 nn) := by rw [cell_of_row _ _ _ _ _ _ hr1]; rfl
 have d2 : w1.cell? ⟨w.heap.size, 2, none⟩ = some (.string ss) := by rw [cell_of_row _ _ _ _ _ _ hr1]; rfl
 have HB1 := hid hb1
 clear ho hf1 hn1 hr1 hb1
 have hb4 : (kk == 4) = false := by rw [beq_eq_false_iff_ne]; exact hk
 have hle : (l ++ leN (uI kk) 1).length = l.length + 1 := by rw [List.length_append, leN_len]
 by_cases k2 : kk = 2
 ·subst k2
  have HT := hid (HTX.out w1 _ HX1.out.1 HB1.out)
  clear HTX HNI hle
  go_wp2_with fail
  refine HT.out.mono ?_
  rintro e w2 ⟨v', rfl, hx⟩
  have HX := hid (HX1.out.trans hx)
  clear hx
  go_wp2_with fail
  go_ret
  exact ⟨_, rfl, by have := HX.out; rw [List.append_assoc] at this; exact this⟩
 ·have hb2 : (kk == 2) = false := by rw [beq_eq_false_iff_ne]; exact k2
  have HT := hid (HNI.out w1 _ HX1.out.1 HB1.out)
  have K2 := hid k2
  clear HTX HNI hle k2
  go_wp2_with fail
  refine HT.out.mono ?_
  rintro e w2 ⟨v', rfl, hx⟩
  have HX := hid (HX1.out.trans hx)
  clear hx
  go_wp2_with fail
  go_ret
  exact ⟨_, rfl, by have := HX.out; rw [List.append_assoc] at this; exact this⟩
end
end Go.Proofs.YtbegahbagnflnaaGreatDoor
