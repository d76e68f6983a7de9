/- RdC, NodOwn, RefValue, NodRef: several texts in one: a claim has at most 60 files -/
import Derived.Test.YtbegahbagnflnaaDoorMa06
import Derived.Test.YtbegahbagnflnaaDoorMa04
import Derived.Test.YtbegahbagnflnaaDoorMa01
import Derived.Test.YtbegahbagnflnaaDoorRegion
set_option linter.unusedSimpArgs false
set_option linter.unusedVariables false
set_option linter.unnecessarySimpa false
namespace Go.Proofs.YtbegahbagnflnaaDoor
section
open Go.RowKit

theorem VOwn.fr {e base : Nat} {S : Nat → Prop} {w w' : World} {l : List V} {v : Value} (h : VOwn e base w l v) (hf : Fr S w w') (hS : ∀ k, base ≤ k → ¬ S k) : VOwn e base w' l v := by
  obtain ⟨xs, ho, hx⟩ := h
  refine ⟨xs, hf.own ho (fun k hk => hS k (ho.lt k hk).1), fun i x hi => ?_⟩
  obtain ⟨u, hv, r⟩ := hx i x hi
  exact ⟨u, (hv.frame hf fun k hk => hS k hk.1).mono fun k _ hk => ⟨hk.1, Nat.lt_of_lt_of_le hk.2.1 hf.size, hk.2.2.1, hf.soft hk.2.1 (hS k hk.1) hk.2.2.2⟩, r⟩
theorem RdAt.lt {w : World} {R : Nat} {B : List UInt8} {s : RS} (h : RdAt w R B s) : R < w.heap.size := by
  obtain ⟨-, bv, ev, h1, -⟩ := h
  exact heap_lt h1
theorem set4v {w : World} {B : Nat} {t : TypeId} {fz : Nat × Nat} {a0 a1 a2 a3 u0 u1 u2 u3 : Value} (h : w.heap[B]? = some (.cells #[a0, a1, a2, a3] t fz)) :
    ((((w.setCell ⟨B, 0, none⟩ u0).setCell ⟨B, 1, none⟩ u1).setCell ⟨B, 2, none⟩ u2).setCell ⟨B, 3, none⟩ u3).heap[B]? = some (.cells #[u0, u1, u2, u3] t fz) ∧
    Fr (fun q => q = B) w ((((w.setCell ⟨B, 0, none⟩ u0).setCell ⟨B, 1, none⟩ u1).setCell ⟨B, 2, none⟩ u2).setCell ⟨B, 3, none⟩ u3) := by
  have hr := Fr.refl (fun q => q = B) w
  refine ⟨?_, (((hr.setCell (.inl rfl) _).setCell (.inl rfl) _).setCell (.inl rfl) _).setCell (.inl rfl) _⟩
  have h0 := setCell_row 3 u3 (setCell_row 2 u2 (setCell_row 1 u1 (setCell_row 0 u0 h)))
  simpa only [List.setIfInBounds_toArray, List.set_cons_zero, List.set_cons_succ] using h0
/-- The contract of Value, so many levels ahead of the end. -/
def ValTo (d : Nat) : Prop := ∀ (B : List UInt8) (s : RS) (R : Nat) (pa : Nat → Addr) (w : World), RdAt w R B s → Sents w pa →
  Calls Tryd.prog 74 #[.pointer (some ⟨R, 0, none⟩), .int .i64 (41 - d)] w fun e w' => ∃ u, e = .returned (.agg u) ∧ VIn (fun b => w.heap.size ≤ b ∧ Soft w' b) w' (rVal B d s).1 u ∧ RdAt w' R B (rVal B d s).2 ∧ Fr (fun k => k = R) w w'
set_option maxRecDepth 100000 in
theorem val_zero : ValTo 0 := by
  intro B s R pa w h hE
  have hf0 := (Fr.refl (fun _ => False) w).alloc (.cells #[.int .i64 0, .int .i64 0, .string ⟨#[]⟩, .slice none 0 0] 34)
  have HFL := hid (rdfail_any _ (h.frame hf0) 175 (.pointer (some (pa 11))))
  have HB := hid (heap_alloc_new w (.cells #[.int .i64 0, .int .i64 0, .string ⟨#[]⟩, .slice none 0 0] 34))
  have HF0 := hid hf0
  have HRL := hid h.lt
  have e11 : (w.alloc (.cells #[.int .i64 0, .int .i64 0, .string ⟨#[]⟩, .slice none 0 0] 34)).cell? ⟨3, 0, none⟩ = some (.iface 175 (.pointer (some (pa 11)))) := hf0.cell (hE 11 (by decide)) not_false
  clear h hE hf0
  go_enter Tryd.func74, Tryd.ntmps74
  go_wp2_with fail
  refine HFL.out.mono ?_
  rintro e w2 ⟨rfl, hr, hf⟩
  have HB2 := hid (hf.heap HB.out (by have := HRL.out; omega))
  have HR := hid hr
  have HF := hid (HF0.out.trans hf (U := fun k => k = R) (fun _ _ h => h.elim) (fun _ _ h => h))
  have t0 : w2.cell? ⟨w.heap.size, 0, none⟩ = some (.int .i64 0) := by rw [cell_of_row _ _ _ _ _ _ HB2.out]; rfl
  have t1 : w2.cell? ⟨w.heap.size, 1, none⟩ = some (.int .i64 0) := by rw [cell_of_row _ _ _ _ _ _ HB2.out]; rfl
  have t2 : w2.cell? ⟨w.heap.size, 2, none⟩ = some (.string ⟨#[]⟩) := by rw [cell_of_row _ _ _ _ _ _ HB2.out]; rfl
  have t3 : w2.cell? ⟨w.heap.size, 3, none⟩ = some (.slice none 0 0) := by rw [cell_of_row _ _ _ _ _ _ HB2.out]; rfl
  have F1 : ∀ i, w2.frozen? ⟨w.heap.size, i, none⟩ = false := fun i => frozen_of_row w2 _ i _ _ HB2.out
  have HST := hid (set4v (u0 := .int .i64 0) (u1 := .int .i64 0) (u2 := .string ⟨#[]⟩) (u3 := .slice none 0 0) HB2.out)
  clear hr hf HFL e11
  go_wp2_with fail
  refine bodyPost_ret (results_cell_row rfl _ _ w.heap.size _ _ _ _ rfl HST.out.1 Tryd.underlying34 rfl (by kernel_rfl)) rfl ?_
  exact ⟨_, rfl, (VL.nil _ _).close 0 0 ⟨#[]⟩, HR.out.other HST.out.2 (fun q hq e => by have := HRL.out; omega), HF.out.trans HST.out.2 (fun _ _ h => h) (fun q hq e => by omega)⟩
set_option maxRecDepth 100000 in
set_option maxHeartbeats 6400000 in
theorem val_succ (d : Nat) (hd : d + 1 ≤ 40) (ih : ValTo d) : ValTo (d + 1) := by
  intro B s R pa w h hE
  obtain ⟨⟨x0, s0⟩, hq0⟩ : ∃ q, rVal B (d + 1) s = q := ⟨_, rfl⟩
  rw [hq0]
  obtain ⟨⟨k, s1⟩, hq1⟩ : ∃ q, rNum B 1 s = q := ⟨_, rfl⟩
  have HV := hid (show (x0, s0) = if k = 0 ∨ k = 1 ∨ k = 3 then (.mk k (sI (rNum B 8 s1).1) ⟨#[]⟩ [], (rNum B 8 s1).2)
      else if k = 2 then (.mk 2 0 (rText B 4096 s1).1 [], (rText B 4096 s1).2)
      else if k = 4 then (.mk 4 0 ⟨#[]⟩ (rLoop RS.ok (rVal B d) (rMany B 4096 s1).1 (rMany B 4096 s1).2).1, (rLoop RS.ok (rVal B d) (rMany B 4096 s1).1 (rMany B 4096 s1).2).2)
      else (.mk k 0 ⟨#[]⟩ [], s1.fail) by rw [← hq0, rVal, hq1])
  have hk := (rNum_go (B := B) 1 h.1.2.1).2.2
  have hf0 := (Fr.refl (fun _ => False) w).alloc (.cells #[.int .i64 0, .int .i64 0, .string ⟨#[]⟩, .slice none 0 0] 34)
  have HNU := hid (rdnum_any 1 (by decide) pa _ (h.frame hf0) (hE.frame hf0))
  rw [hq1] at HNU hk
  replace hk : k < 256 := by simpa using hk
  have HBT0 := hid (heap_alloc_new w (.cells #[.int .i64 0, .int .i64 0, .string ⟨#[]⟩, .slice none 0 0] 34))
  have HF0 := hid hf0
  have HRL := hid h.lt
  have HE := hid (fun (w2 : World) (hf : Fr (fun k => k = R) w w2) => hE.at_ hf h.1.1)
  have HIH := hid (fun (w2 : World) (t : RS) (hr : RdAt w2 R B t) (he : Sents w2 pa) => ih B t R pa w2 hr he)
  have hdI : (41 : Int) - ((d + 1 : Nat) : Int) = 40 - d := by omega
  have hdR : (d : Int) ≤ 39 := by omega
  have hdd : (40 : Int) - d + 1 = 41 - d := by omega
  rw [hdI]
  clear h hE hf0 hq0 hq1 hdI hd ih
  go_enter Tryd.func74, Tryd.ntmps74
  go_wp2_with fail
  refine HNU.out.mono ?_
  rintro e w2 ⟨rfl, hr, hf⟩
  have hkI : (k : Int) < 256 := by omega
  have HBT2 := hid (hf.heap HBT0.out (by have := HRL.out; omega))
  have HF2 := hid (HF0.out.trans hf (U := fun k => k = R) (fun _ _ h => h.elim) (fun _ _ h => h))
  have HR2 := hid hr
  clear hr hf HNU
  go_upto_region 5 with fail
  have hfa := (Fr.refl (fun _ => False) w2).alloc (.cells #[.int .i64 k, .int .i64 0, .string ⟨#[]⟩, .slice none 0 0] 34)
  have HBV := hid (heap_alloc_new w2 (.cells #[.int .i64 k, .int .i64 0, .string ⟨#[]⟩, .slice none 0 0] 34))
  have HBT := hid (hfa.heap HBT2.out not_false)
  have HR3 := hid (HR2.out.frame hfa)
  have HF3 := hid (HF2.out.alloc (.cells #[.int .i64 k, .int .i64 0, .string ⟨#[]⟩, .slice none 0 0] 34))
  have HTV := hid (show w.heap.size ≤ w.heap.size ∧ w.heap.size < w2.heap.size from ⟨Nat.le_refl _, heap_lt HBT2.out⟩)
  have HRT := hid HRL.out
  have HWV := hid (show w2.heap.size < (w2.alloc (.cells #[.int .i64 k, .int .i64 0, .string ⟨#[]⟩, .slice none 0 0] 34)).heap.size by simp)
  generalize hVV : w2.heap.size = V at *
  obtain ⟨T, hT⟩ : ∃ T, w.heap.size = T := ⟨_, rfl⟩
  have HTT := hid hT
  rw [hT] at HTV HRT HBT
  rw [hT]
  clear hfa hT hVV HBT2 HBT0 HF0 HF2 HR2
  generalize w2.alloc (.cells #[.int .i64 k, .int .i64 0, .string ⟨#[]⟩, .slice none 0 0] 34) = w3 at *
  by_cases kc0 : k = 0
  · subst kc0
    have HX0 := hid (show x0 = .mk 0 (sI (rNum B 8 s1).1) ⟨#[]⟩ [] by have := HV.out; rw [if_pos (by omega)] at this; exact (congrArg Prod.fst this))
    have HS0 := hid (show s0 = (rNum B 8 s1).2 by have := HV.out; rw [if_pos (by omega)] at this; exact (congrArg Prod.snd this))
    have HIN := hid (rdint_any pa w3 HR3.out (HE.out w3 HF3.out))
    have F3 : ∀ i, w3.frozen? ⟨V, i, none⟩ = false := fun i => frozen_of_row w3 _ i _ _ HBV.out
    have v0 : w3.cell? ⟨V, 0, none⟩ = some (.int .i64 0) := by rw [cell_of_row _ _ _ _ _ _ HBV.out]; rfl
    go_wp2_with fail
    refine HIN.out.mono ?_
    rintro e w4 ⟨rfl, hr4, hf4⟩
    have hb4 := hf4.heap HBV.out (by have := HTV.out; have := HRT.out; omega)
    have HBT4 := hid (hf4.heap HBT.out (by have := HTV.out; have := HRT.out; omega))
    have HR4 := hid hr4
    have HF4 := hid (HF3.out.trans' hf4)
    have w1c : w4.cell? ⟨V, 1, none⟩ = some (.int .i64 0) := by rw [cell_of_row _ _ _ _ _ _ hb4]; rfl
    have f4 : w4.frozen? ⟨V, 1, none⟩ = false := frozen_of_row w4 _ 1 _ _ hb4
    have hb5 := setCell_row 1 (.int .i64 (sI (rNum B 8 s1).1)) hb4
    simp only [List.setIfInBounds_toArray, List.set_cons_zero, List.set_cons_succ] at hb5
    have hs5 : Fr (fun q => q = V) w4 (w4.setCell ⟨V, 1, none⟩ (.int .i64 (sI (rNum B 8 s1).1))) := Fr.setCell (S := fun k => k = V) (Fr.refl _ _) (p := ⟨V, 1, none⟩) (.inl rfl) _
    have HB5 := hid hb5
    have HBT5 := hid (hs5.heap HBT4.out (by have := HTV.out; omega))
    have HR5 := hid (HR4.out.other hs5 (fun q hq e => by have := HTV.out; have := HRT.out; omega))
    have HF5 := hid (HF4.out.trans hs5 (fun _ _ h => h) (fun q hq e => by have := HTV.out; have := HTT.out; omega))
    clear hr4 hf4 hb4 hb5 hs5 HIN v0 F3
    go_upto_region 18 with fail
    generalize w4.setCell ⟨V, 1, none⟩ (.int .i64 (sI (rNum B 8 s1).1)) = w5 at *
    have HVL := hid (VL.nil (fun b => V < b ∧ Soft w5 b) w5)
    have v0 : w5.cell? ⟨V, 0, none⟩ = some (.int .i64 (0)) := by rw [cell_of_row _ _ _ _ _ _ HB5.out]; rfl
    have v1 : w5.cell? ⟨V, 1, none⟩ = some (.int .i64 (sI (rNum B 8 s1).1)) := by rw [cell_of_row _ _ _ _ _ _ HB5.out]; rfl
    have v2 : w5.cell? ⟨V, 2, none⟩ = some (.string (⟨#[]⟩)) := by rw [cell_of_row _ _ _ _ _ _ HB5.out]; rfl
    have v3 : w5.cell? ⟨V, 3, none⟩ = some (.slice none 0 0) := by rw [cell_of_row _ _ _ _ _ _ HB5.out]; rfl
    have t0 : w5.cell? ⟨T, 0, none⟩ = some (.int .i64 0) := by rw [cell_of_row _ _ _ _ _ _ HBT5.out]; rfl
    have t1 : w5.cell? ⟨T, 1, none⟩ = some (.int .i64 0) := by rw [cell_of_row _ _ _ _ _ _ HBT5.out]; rfl
    have t2 : w5.cell? ⟨T, 2, none⟩ = some (.string ⟨#[]⟩) := by rw [cell_of_row _ _ _ _ _ _ HBT5.out]; rfl
    have t3 : w5.cell? ⟨T, 3, none⟩ = some (.slice none 0 0) := by rw [cell_of_row _ _ _ _ _ _ HBT5.out]; rfl
    have F1 : ∀ i, w5.frozen? ⟨T, i, none⟩ = false := fun i => frozen_of_row w5 _ i _ _ HBT5.out
    have HST := hid (set4v (u0 := .int .i64 (0)) (u1 := .int .i64 (sI (rNum B 8 s1).1)) (u2 := .string (⟨#[]⟩)) (u3 := .slice none 0 0) HBT5.out)
    go_wp2_with fail
    refine bodyPost_ret (results_cell_row rfl _ _ T _ _ _ _ rfl HST.out.1 Tryd.underlying34 rfl (by kernel_rfl)) rfl ?_
    refine ⟨_, rfl, ?_, ?_, HF5.out.trans HST.out.2 (fun _ _ h => h) (fun q hq e => by have := HTT.out; omega)⟩
    · rw [HX0.out]
      exact ((HVL.out.close (0) (sI (rNum B 8 s1).1) (⟨#[]⟩)).soft HST.out.2 (fun q hq e => by have := HTV.out.2; omega)).mono fun q _ hq => ⟨by have := HTV.out; have := HTT.out; omega, hq.2⟩
    · rw [HS0.out]
      exact HR5.out.other HST.out.2 (fun q hq e => by have := HTV.out; have := HRT.out; omega)
  by_cases kc1 : k = 1
  · subst kc1
    have HX0 := hid (show x0 = .mk 1 (sI (rNum B 8 s1).1) ⟨#[]⟩ [] by have := HV.out; rw [if_pos (by omega)] at this; exact (congrArg Prod.fst this))
    have HS0 := hid (show s0 = (rNum B 8 s1).2 by have := HV.out; rw [if_pos (by omega)] at this; exact (congrArg Prod.snd this))
    have HIN := hid (rdint_any pa w3 HR3.out (HE.out w3 HF3.out))
    have F3 : ∀ i, w3.frozen? ⟨V, i, none⟩ = false := fun i => frozen_of_row w3 _ i _ _ HBV.out
    have v0 : w3.cell? ⟨V, 0, none⟩ = some (.int .i64 1) := by rw [cell_of_row _ _ _ _ _ _ HBV.out]; rfl
    go_wp2_with fail
    refine HIN.out.mono ?_
    rintro e w4 ⟨rfl, hr4, hf4⟩
    have hb4 := hf4.heap HBV.out (by have := HTV.out; have := HRT.out; omega)
    have HBT4 := hid (hf4.heap HBT.out (by have := HTV.out; have := HRT.out; omega))
    have HR4 := hid hr4
    have HF4 := hid (HF3.out.trans' hf4)
    have w1c : w4.cell? ⟨V, 1, none⟩ = some (.int .i64 0) := by rw [cell_of_row _ _ _ _ _ _ hb4]; rfl
    have f4 : w4.frozen? ⟨V, 1, none⟩ = false := frozen_of_row w4 _ 1 _ _ hb4
    have hb5 := setCell_row 1 (.int .i64 (sI (rNum B 8 s1).1)) hb4
    simp only [List.setIfInBounds_toArray, List.set_cons_zero, List.set_cons_succ] at hb5
    have hs5 : Fr (fun q => q = V) w4 (w4.setCell ⟨V, 1, none⟩ (.int .i64 (sI (rNum B 8 s1).1))) := Fr.setCell (S := fun k => k = V) (Fr.refl _ _) (p := ⟨V, 1, none⟩) (.inl rfl) _
    have HB5 := hid hb5
    have HBT5 := hid (hs5.heap HBT4.out (by have := HTV.out; omega))
    have HR5 := hid (HR4.out.other hs5 (fun q hq e => by have := HTV.out; have := HRT.out; omega))
    have HF5 := hid (HF4.out.trans hs5 (fun _ _ h => h) (fun q hq e => by have := HTV.out; have := HTT.out; omega))
    clear hr4 hf4 hb4 hb5 hs5 HIN v0 F3
    go_upto_region 18 with fail
    generalize w4.setCell ⟨V, 1, none⟩ (.int .i64 (sI (rNum B 8 s1).1)) = w5 at *
    have HVL := hid (VL.nil (fun b => V < b ∧ Soft w5 b) w5)
    have v0 : w5.cell? ⟨V, 0, none⟩ = some (.int .i64 (1)) := by rw [cell_of_row _ _ _ _ _ _ HB5.out]; rfl
    have v1 : w5.cell? ⟨V, 1, none⟩ = some (.int .i64 (sI (rNum B 8 s1).1)) := by rw [cell_of_row _ _ _ _ _ _ HB5.out]; rfl
    have v2 : w5.cell? ⟨V, 2, none⟩ = some (.string (⟨#[]⟩)) := by rw [cell_of_row _ _ _ _ _ _ HB5.out]; rfl
    have v3 : w5.cell? ⟨V, 3, none⟩ = some (.slice none 0 0) := by rw [cell_of_row _ _ _ _ _ _ HB5.out]; rfl
    have t0 : w5.cell? ⟨T, 0, none⟩ = some (.int .i64 0) := by rw [cell_of_row _ _ _ _ _ _ HBT5.out]; rfl
    have t1 : w5.cell? ⟨T, 1, none⟩ = some (.int .i64 0) := by rw [cell_of_row _ _ _ _ _ _ HBT5.out]; rfl
    have t2 : w5.cell? ⟨T, 2, none⟩ = some (.string ⟨#[]⟩) := by rw [cell_of_row _ _ _ _ _ _ HBT5.out]; rfl
    have t3 : w5.cell? ⟨T, 3, none⟩ = some (.slice none 0 0) := by rw [cell_of_row _ _ _ _ _ _ HBT5.out]; rfl
    have F1 : ∀ i, w5.frozen? ⟨T, i, none⟩ = false := fun i => frozen_of_row w5 _ i _ _ HBT5.out
    have HST := hid (set4v (u0 := .int .i64 (1)) (u1 := .int .i64 (sI (rNum B 8 s1).1)) (u2 := .string (⟨#[]⟩)) (u3 := .slice none 0 0) HBT5.out)
    go_wp2_with fail
    refine bodyPost_ret (results_cell_row rfl _ _ T _ _ _ _ rfl HST.out.1 Tryd.underlying34 rfl (by kernel_rfl)) rfl ?_
    refine ⟨_, rfl, ?_, ?_, HF5.out.trans HST.out.2 (fun _ _ h => h) (fun q hq e => by have := HTT.out; omega)⟩
    · rw [HX0.out]
      exact ((HVL.out.close (1) (sI (rNum B 8 s1).1) (⟨#[]⟩)).soft HST.out.2 (fun q hq e => by have := HTV.out.2; omega)).mono fun q _ hq => ⟨by have := HTV.out; have := HTT.out; omega, hq.2⟩
    · rw [HS0.out]
      exact HR5.out.other HST.out.2 (fun q hq e => by have := HTV.out; have := HRT.out; omega)
  by_cases kc3 : k = 3
  · subst kc3
    have HX0 := hid (show x0 = .mk 3 (sI (rNum B 8 s1).1) ⟨#[]⟩ [] by have := HV.out; rw [if_pos (by omega)] at this; exact (congrArg Prod.fst this))
    have HS0 := hid (show s0 = (rNum B 8 s1).2 by have := HV.out; rw [if_pos (by omega)] at this; exact (congrArg Prod.snd this))
    have HIN := hid (rdint_any pa w3 HR3.out (HE.out w3 HF3.out))
    have F3 : ∀ i, w3.frozen? ⟨V, i, none⟩ = false := fun i => frozen_of_row w3 _ i _ _ HBV.out
    have v0 : w3.cell? ⟨V, 0, none⟩ = some (.int .i64 3) := by rw [cell_of_row _ _ _ _ _ _ HBV.out]; rfl
    go_wp2_with fail
    refine HIN.out.mono ?_
    rintro e w4 ⟨rfl, hr4, hf4⟩
    have hb4 := hf4.heap HBV.out (by have := HTV.out; have := HRT.out; omega)
    have HBT4 := hid (hf4.heap HBT.out (by have := HTV.out; have := HRT.out; omega))
    have HR4 := hid hr4
    have HF4 := hid (HF3.out.trans' hf4)
    have w1c : w4.cell? ⟨V, 1, none⟩ = some (.int .i64 0) := by rw [cell_of_row _ _ _ _ _ _ hb4]; rfl
    have f4 : w4.frozen? ⟨V, 1, none⟩ = false := frozen_of_row w4 _ 1 _ _ hb4
    have hb5 := setCell_row 1 (.int .i64 (sI (rNum B 8 s1).1)) hb4
    simp only [List.setIfInBounds_toArray, List.set_cons_zero, List.set_cons_succ] at hb5
    have hs5 : Fr (fun q => q = V) w4 (w4.setCell ⟨V, 1, none⟩ (.int .i64 (sI (rNum B 8 s1).1))) := Fr.setCell (S := fun k => k = V) (Fr.refl _ _) (p := ⟨V, 1, none⟩) (.inl rfl) _
    have HB5 := hid hb5
    have HBT5 := hid (hs5.heap HBT4.out (by have := HTV.out; omega))
    have HR5 := hid (HR4.out.other hs5 (fun q hq e => by have := HTV.out; have := HRT.out; omega))
    have HF5 := hid (HF4.out.trans hs5 (fun _ _ h => h) (fun q hq e => by have := HTV.out; have := HTT.out; omega))
    clear hr4 hf4 hb4 hb5 hs5 HIN v0 F3
    go_upto_region 18 with fail
    generalize w4.setCell ⟨V, 1, none⟩ (.int .i64 (sI (rNum B 8 s1).1)) = w5 at *
    have HVL := hid (VL.nil (fun b => V < b ∧ Soft w5 b) w5)
    have v0 : w5.cell? ⟨V, 0, none⟩ = some (.int .i64 (3)) := by rw [cell_of_row _ _ _ _ _ _ HB5.out]; rfl
    have v1 : w5.cell? ⟨V, 1, none⟩ = some (.int .i64 (sI (rNum B 8 s1).1)) := by rw [cell_of_row _ _ _ _ _ _ HB5.out]; rfl
    have v2 : w5.cell? ⟨V, 2, none⟩ = some (.string (⟨#[]⟩)) := by rw [cell_of_row _ _ _ _ _ _ HB5.out]; rfl
    have v3 : w5.cell? ⟨V, 3, none⟩ = some (.slice none 0 0) := by rw [cell_of_row _ _ _ _ _ _ HB5.out]; rfl
    have t0 : w5.cell? ⟨T, 0, none⟩ = some (.int .i64 0) := by rw [cell_of_row _ _ _ _ _ _ HBT5.out]; rfl
    have t1 : w5.cell? ⟨T, 1, none⟩ = some (.int .i64 0) := by rw [cell_of_row _ _ _ _ _ _ HBT5.out]; rfl
    have t2 : w5.cell? ⟨T, 2, none⟩ = some (.string ⟨#[]⟩) := by rw [cell_of_row _ _ _ _ _ _ HBT5.out]; rfl
    have t3 : w5.cell? ⟨T, 3, none⟩ = some (.slice none 0 0) := by rw [cell_of_row _ _ _ _ _ _ HBT5.out]; rfl
    have F1 : ∀ i, w5.frozen? ⟨T, i, none⟩ = false := fun i => frozen_of_row w5 _ i _ _ HBT5.out
    have HST := hid (set4v (u0 := .int .i64 (3)) (u1 := .int .i64 (sI (rNum B 8 s1).1)) (u2 := .string (⟨#[]⟩)) (u3 := .slice none 0 0) HBT5.out)
    go_wp2_with fail
    refine bodyPost_ret (results_cell_row rfl _ _ T _ _ _ _ rfl HST.out.1 Tryd.underlying34 rfl (by kernel_rfl)) rfl ?_
    refine ⟨_, rfl, ?_, ?_, HF5.out.trans HST.out.2 (fun _ _ h => h) (fun q hq e => by have := HTT.out; omega)⟩
    · rw [HX0.out]
      exact ((HVL.out.close (3) (sI (rNum B 8 s1).1) (⟨#[]⟩)).soft HST.out.2 (fun q hq e => by have := HTV.out.2; omega)).mono fun q _ hq => ⟨by have := HTV.out; have := HTT.out; omega, hq.2⟩
    · rw [HS0.out]
      exact HR5.out.other HST.out.2 (fun q hq e => by have := HTV.out; have := HRT.out; omega)
  by_cases kc2 : k = 2
  · subst kc2
    have HX0 := hid (show x0 = .mk 2 0 (rText B 4096 s1).1 [] by have := HV.out; rw [if_neg (by omega), if_pos rfl] at this; exact (congrArg Prod.fst this))
    have HS0 := hid (show s0 = (rText B 4096 s1).2 by have := HV.out; rw [if_neg (by omega), if_pos rfl] at this; exact (congrArg Prod.snd this))
    have HIN := hid (rdtext_any 4096 (by decide) pa w3 HR3.out (HE.out w3 HF3.out))
    have v0 : w3.cell? ⟨V, 0, none⟩ = some (.int .i64 2) := by rw [cell_of_row _ _ _ _ _ _ HBV.out]; rfl
    go_wp2_with fail
    refine HIN.out.mono ?_
    rintro e w4 ⟨rfl, hr4, hf4⟩
    have hb4 := hf4.heap HBV.out (by have := HTV.out; have := HRT.out; omega)
    have HBT4 := hid (hf4.heap HBT.out (by have := HTV.out; have := HRT.out; omega))
    have HR4 := hid hr4
    have HF4 := hid (HF3.out.trans' hf4)
    have w1c : w4.cell? ⟨V, 2, none⟩ = some (.string ⟨#[]⟩) := by rw [cell_of_row _ _ _ _ _ _ hb4]; rfl
    have f4 : w4.frozen? ⟨V, 2, none⟩ = false := frozen_of_row w4 _ 2 _ _ hb4
    have hb5 := setCell_row 2 (.string (rText B 4096 s1).1) hb4
    simp only [List.setIfInBounds_toArray, List.set_cons_zero, List.set_cons_succ] at hb5
    have hs5 : Fr (fun q => q = V) w4 (w4.setCell ⟨V, 2, none⟩ (.string (rText B 4096 s1).1)) := Fr.setCell (S := fun k => k = V) (Fr.refl _ _) (p := ⟨V, 2, none⟩) (.inl rfl) _
    have HB5 := hid hb5
    have HBT5 := hid (hs5.heap HBT4.out (by have := HTV.out; omega))
    have HR5 := hid (HR4.out.other hs5 (fun q hq e => by have := HTV.out; have := HRT.out; omega))
    have HF5 := hid (HF4.out.trans hs5 (fun _ _ h => h) (fun q hq e => by have := HTV.out; have := HTT.out; omega))
    clear hr4 hf4 hb4 hb5 hs5 HIN v0
    go_upto_region 18 with fail
    generalize w4.setCell ⟨V, 2, none⟩ (.string (rText B 4096 s1).1) = w5 at *
    have HVL := hid (VL.nil (fun b => V < b ∧ Soft w5 b) w5)
    have v0 : w5.cell? ⟨V, 0, none⟩ = some (.int .i64 (2)) := by rw [cell_of_row _ _ _ _ _ _ HB5.out]; rfl
    have v1 : w5.cell? ⟨V, 1, none⟩ = some (.int .i64 (0)) := by rw [cell_of_row _ _ _ _ _ _ HB5.out]; rfl
    have v2 : w5.cell? ⟨V, 2, none⟩ = some (.string ((rText B 4096 s1).1)) := by rw [cell_of_row _ _ _ _ _ _ HB5.out]; rfl
    have v3 : w5.cell? ⟨V, 3, none⟩ = some (.slice none 0 0) := by rw [cell_of_row _ _ _ _ _ _ HB5.out]; rfl
    have t0 : w5.cell? ⟨T, 0, none⟩ = some (.int .i64 0) := by rw [cell_of_row _ _ _ _ _ _ HBT5.out]; rfl
    have t1 : w5.cell? ⟨T, 1, none⟩ = some (.int .i64 0) := by rw [cell_of_row _ _ _ _ _ _ HBT5.out]; rfl
    have t2 : w5.cell? ⟨T, 2, none⟩ = some (.string ⟨#[]⟩) := by rw [cell_of_row _ _ _ _ _ _ HBT5.out]; rfl
    have t3 : w5.cell? ⟨T, 3, none⟩ = some (.slice none 0 0) := by rw [cell_of_row _ _ _ _ _ _ HBT5.out]; rfl
    have F1 : ∀ i, w5.frozen? ⟨T, i, none⟩ = false := fun i => frozen_of_row w5 _ i _ _ HBT5.out
    have HST := hid (set4v (u0 := .int .i64 (2)) (u1 := .int .i64 (0)) (u2 := .string ((rText B 4096 s1).1)) (u3 := .slice none 0 0) HBT5.out)
    go_wp2_with fail
    refine bodyPost_ret (results_cell_row rfl _ _ T _ _ _ _ rfl HST.out.1 Tryd.underlying34 rfl (by kernel_rfl)) rfl ?_
    refine ⟨_, rfl, ?_, ?_, HF5.out.trans HST.out.2 (fun _ _ h => h) (fun q hq e => by have := HTT.out; omega)⟩
    · rw [HX0.out]
      exact ((HVL.out.close (2) (0) ((rText B 4096 s1).1)).soft HST.out.2 (fun q hq e => by have := HTV.out.2; omega)).mono fun q _ hq => ⟨by have := HTV.out; have := HTT.out; omega, hq.2⟩
    · rw [HS0.out]
      exact HR5.out.other HST.out.2 (fun q hq e => by have := HTV.out; have := HRT.out; omega)
  by_cases kc4 : k = 4
  · subst kc4
    obtain ⟨⟨n, t⟩, hqm⟩ : ∃ q, rMany B 4096 s1 = q := ⟨_, rfl⟩
    have hgm := rMany_go (B := B) 4096 HR3.out.1.2.1
    have HIN := hid (rdmany_any 4096 (by decide) pa w3 HR3.out (HE.out w3 HF3.out))
    rw [hqm] at HV HIN hgm
    have hn : n ≤ 4096 := by have := hgm.2.2.2.1 (by decide); dsimp only at this; omega
    have HX0 := hid (show x0 = .mk 4 0 ⟨#[]⟩ (rLoop RS.ok (rVal B d) n t).1 by have := HV.out; rw [if_neg (by omega), if_neg (by omega), if_pos rfl] at this; exact (congrArg Prod.fst this))
    have HS0 := hid (show s0 = (rLoop RS.ok (rVal B d) n t).2 by have := HV.out; rw [if_neg (by omega), if_neg (by omega), if_pos rfl] at this; exact (congrArg Prod.snd this))
    have v0 : w3.cell? ⟨V, 0, none⟩ = some (.int .i64 4) := by rw [cell_of_row _ _ _ _ _ _ HBV.out]; rfl
    clear hgm hqm
    go_wp2_with fail
    refine HIN.out.mono ?_
    rintro e w4 ⟨rfl, hr4, hf4⟩
    have HB4 := hid (hf4.heap HBV.out (by have := HTV.out; have := HRT.out; omega))
    have HBT4 := hid (hf4.heap HBT.out (by have := HTV.out; have := HRT.out; omega))
    have HR4 := hid hr4
    have HF4 := hid (HF3.out.trans' hf4)
    clear hr4 hf4 HIN v0 HBV HBT HR3 HF3 HWV kc0 kc1 kc3 kc2
    go_wp2_with fail
    go_loopw [6] (fun i wr => ∃ (j : Nat) (t' : RS) (L : List _) (lv : Value), j + L.length ≤ 4096 ∧ i = .int .i64 j ∧ Hid (L ++ (rLoop RS.ok (rVal B d) j t').1 = (rLoop RS.ok (rVal B d) n t).1 ∧ (rLoop RS.ok (rVal B d) j t').2 = (rLoop RS.ok (rVal B d) n t).2) ∧ Hid (RdAt wr R B t') ∧ Hid (wr.heap[V]? = some (.cells #[.int .i64 4, .int .i64 0, .string ⟨#[]⟩, lv] 34 (0, 0))) ∧ Hid (wr.heap[T]? = some (.cells #[.int .i64 0, .int .i64 0, .string ⟨#[]⟩, .slice none 0 0] 34)) ∧ Hid (VOwn 34 (V + 1) wr L lv) ∧ Hid (Fr (fun k => k = R) w wr)) (fun i _ => (intOf i).toNat)
    case atStart => exact ⟨n, t, [], .slice none 0 0, by simpa using hn, rfl, hid ⟨rfl, rfl⟩, HR4, HB4, HBT4, hid (VOwn.nil _ _ _), HF4⟩
    case round =>
      clear HR4 HB4 HBT4 HF4
      obtain ⟨j, t', L, lv, hjl, rfl, HQ, HR5, HB5, HBT5, HO, HF5⟩ := hrel
      obtain ⟨xs, ho, hxs⟩ := HO.out
      have HOW := hid ho
      have HXS := hid hxs
      obtain ⟨al, cl, rfl, -⟩ := own_len ho
      have HVL := hid (show VL (fun b => V < b ∧ Soft wr b) wr L (.slice al L.length cl) from HO.out.close)
      clear ho hxs
      by_cases hj : j = 0
      · subst hj
        have h1 := HQ.out
        rw [rLoop, List.append_nil] at h1
        rw [← h1.1] at HX0
        rw [← h1.2] at HS0
        clear h1
        have v0 : wr.cell? ⟨V, 0, none⟩ = some (.int .i64 (4)) := by rw [cell_of_row _ _ _ _ _ _ HB5.out]; rfl
        have v1 : wr.cell? ⟨V, 1, none⟩ = some (.int .i64 (0)) := by rw [cell_of_row _ _ _ _ _ _ HB5.out]; rfl
        have v2 : wr.cell? ⟨V, 2, none⟩ = some (.string (⟨#[]⟩)) := by rw [cell_of_row _ _ _ _ _ _ HB5.out]; rfl
        have v3 : wr.cell? ⟨V, 3, none⟩ = some (.slice al L.length cl) := by rw [cell_of_row _ _ _ _ _ _ HB5.out]; rfl
        have t0 : wr.cell? ⟨T, 0, none⟩ = some (.int .i64 0) := by rw [cell_of_row _ _ _ _ _ _ HBT5.out]; rfl
        have t1 : wr.cell? ⟨T, 1, none⟩ = some (.int .i64 0) := by rw [cell_of_row _ _ _ _ _ _ HBT5.out]; rfl
        have t2 : wr.cell? ⟨T, 2, none⟩ = some (.string ⟨#[]⟩) := by rw [cell_of_row _ _ _ _ _ _ HBT5.out]; rfl
        have t3 : wr.cell? ⟨T, 3, none⟩ = some (.slice none 0 0) := by rw [cell_of_row _ _ _ _ _ _ HBT5.out]; rfl
        have F1 : ∀ i, wr.frozen? ⟨T, i, none⟩ = false := fun i => frozen_of_row wr _ i _ _ HBT5.out
        have HST := hid (set4v (u0 := .int .i64 (4)) (u1 := .int .i64 (0)) (u2 := .string (⟨#[]⟩)) (u3 := .slice al L.length cl) HBT5.out)
        go_wp2_with fail
        refine bodyPost_ret (results_cell_row rfl _ _ T _ _ _ _ rfl HST.out.1 Tryd.underlying34 rfl (by kernel_rfl)) rfl ?_
        refine ⟨_, rfl, ?_, ?_, HF5.out.trans HST.out.2 (fun _ _ h => h) (fun q hq e => by have := HTT.out; omega)⟩
        · rw [HX0.out]
          exact ((HVL.out.close (4) (0) (⟨#[]⟩)).soft HST.out.2 (fun q hq e => by have := HTV.out.2; omega)).mono fun q _ hq => ⟨by have := HTV.out; have := HTT.out; omega, hq.2⟩
        · rw [HS0.out]
          exact HR5.out.other HST.out.2 (fun q hq e => by have := HTV.out; have := HRT.out; omega)
      by_cases hok : t'.ok = false
      · have h1 := HQ.out
        obtain ⟨j', rfl⟩ : ∃ j', j = j' + 1 := ⟨j - 1, by omega⟩
        rw [rLoop, if_pos hok, List.append_nil] at h1
        rw [← h1.1] at HX0
        rw [← h1.2] at HS0
        obtain ⟨tt, xx, r2⟩ := HR5.out.ok_iface hok
        have hjp : (0 : Int) < (j' : Int) + 1 := by omega
        clear h1
        have v0 : wr.cell? ⟨V, 0, none⟩ = some (.int .i64 (4)) := by rw [cell_of_row _ _ _ _ _ _ HB5.out]; rfl
        have v1 : wr.cell? ⟨V, 1, none⟩ = some (.int .i64 (0)) := by rw [cell_of_row _ _ _ _ _ _ HB5.out]; rfl
        have v2 : wr.cell? ⟨V, 2, none⟩ = some (.string (⟨#[]⟩)) := by rw [cell_of_row _ _ _ _ _ _ HB5.out]; rfl
        have v3 : wr.cell? ⟨V, 3, none⟩ = some (.slice al L.length cl) := by rw [cell_of_row _ _ _ _ _ _ HB5.out]; rfl
        have t0 : wr.cell? ⟨T, 0, none⟩ = some (.int .i64 0) := by rw [cell_of_row _ _ _ _ _ _ HBT5.out]; rfl
        have t1 : wr.cell? ⟨T, 1, none⟩ = some (.int .i64 0) := by rw [cell_of_row _ _ _ _ _ _ HBT5.out]; rfl
        have t2 : wr.cell? ⟨T, 2, none⟩ = some (.string ⟨#[]⟩) := by rw [cell_of_row _ _ _ _ _ _ HBT5.out]; rfl
        have t3 : wr.cell? ⟨T, 3, none⟩ = some (.slice none 0 0) := by rw [cell_of_row _ _ _ _ _ _ HBT5.out]; rfl
        have F1 : ∀ i, wr.frozen? ⟨T, i, none⟩ = false := fun i => frozen_of_row wr _ i _ _ HBT5.out
        have HST := hid (set4v (u0 := .int .i64 (4)) (u1 := .int .i64 (0)) (u2 := .string (⟨#[]⟩)) (u3 := .slice al L.length cl) HBT5.out)
        go_wp2_with fail
        refine bodyPost_ret (results_cell_row rfl _ _ T _ _ _ _ rfl HST.out.1 Tryd.underlying34 rfl (by kernel_rfl)) rfl ?_
        refine ⟨_, rfl, ?_, ?_, HF5.out.trans HST.out.2 (fun _ _ h => h) (fun q hq e => by have := HTT.out; omega)⟩
        · rw [HX0.out]
          exact ((HVL.out.close (4) (0) (⟨#[]⟩)).soft HST.out.2 (fun q hq e => by have := HTV.out.2; omega)).mono fun q _ hq => ⟨by have := HTV.out; have := HTT.out; omega, hq.2⟩
        · rw [HS0.out]
          exact HR5.out.other HST.out.2 (fun q hq e => by have := HTV.out; have := HRT.out; omega)
      · obtain ⟨j', rfl⟩ : ∃ j', j = j' + 1 := ⟨j - 1, by omega⟩
        have r2 := HR5.out.ok_nil (by simpa using hok)
        have HQ2 := hid (show (L ++ [(rVal B d t').1]) ++ (rLoop RS.ok (rVal B d) j' (rVal B d t').2).1 = (rLoop RS.ok (rVal B d) n t).1 ∧ (rLoop RS.ok (rVal B d) j' (rVal B d t').2).2 = (rLoop RS.ok (rVal B d) n t).2 by
          have h1 := HQ.out
          rw [rLoop, if_neg hok] at h1
          rw [List.append_assoc]
          exact h1)
        have hjp : (0 : Int) < (j' : Int) + 1 := by omega
        have hjI : (j' : Int) ≤ 4096 := by omega
        have HLL := hid (show L.length + 1 ≤ 1099511627776 by omega)
        have hlt := heap_lt HB5.out
        have HVW := hid hlt
        clear hok hlt HVL
        go_upto_region 17 with fail
        refine wp_region_ord [(0, 0), (1, 0), (2, 0), (3, 0), (4, 0), (5, 1), (6, 1), (7, 1), (8, 0), (9, 1)] (fun w' => w'.heap[V]? = some (.cells #[.int .i64 4, .int .i64 0, .string ⟨#[]⟩, .slice al L.length cl] 34 (0, 0))) (by kernel_rfl) (by kernel_rfl) (by kernel_rfl) rfl (fun _ _ d _ _ h => by cases d <;> exact h) HB5.out ?_
        (refine wpO_take ?_ rfl (by kernel_rfl) ?_ ?_; rotate_left; (· intro w' hS; go_simp; try with_reducible rfl); try simp only [Act.put, List.setIfInBounds_toArray, List.set_cons_zero, List.set_cons_succ])
        (refine wpO_take ?_ rfl (by kernel_rfl) ?_ ?_; rotate_left; (· intro w' hS; have q3 : w'.cell? ⟨V, 3, none⟩ = some (.slice al L.length cl) := (by rw [cell_of_row _ _ _ _ _ _ hS]; rfl); go_simp; try with_reducible rfl); try simp only [Act.put, List.setIfInBounds_toArray, List.set_cons_zero, List.set_cons_succ])
        iterate 3 (refine wpO_take ?_ rfl (by kernel_rfl) ?_ ?_; rotate_left; (· intro w' hS; go_simp; try with_reducible rfl); try simp only [Act.put, List.setIfInBounds_toArray, List.set_cons_zero, List.set_cons_succ])
        have hfd : Fr (fun _ => False) wr wr.drew := (Fr.refl _ _).drew
        have hdw : IntKind.i64.wrap ((41 : Int) - d) = 41 - d := IntWalk.i64_in _ (by omega)
        refine wpO_run rfl (by kernel_rfl) (fun K hK => ?_); go_simp
        refine (HIH.out wr.drew t' (HR5.out.frame hfd) (HE.out _ (HF5.out.drew))).mono ?_
        rintro e w6 ⟨u, rfl, hv, hr, hf⟩
        obtain ⟨v', rfl, a2, c2, us2, rfl, _⟩ := hv.open
        have hb6 := hf.heap (hfd.heap HB5.out not_false) (by have := HTV.out; have := HRT.out; omega)
        refine hK _ _ (fun _ => hb6) ?_
        clear hK K
        try simp only [Act.put, List.setIfInBounds_toArray, List.set_cons_zero, List.set_cons_succ]
        have hvl : ∀ b, V + 1 ≤ b → ¬ b = R := fun b h e => by have := HTV.out; have := HRT.out; omega
        have hF6 := hfd.trans hf (U := fun k => k = R) (fun _ _ h => h.elim) (fun _ _ h => h)
        have hfa := (Fr.refl (fun _ => False) w6).alloc (.cells #[.int .i64 (rVal B d t').1.k, .int .i64 (rVal B d t').1.n, .string (rVal B d t').1.s, .slice a2 (rVal B d t').1.l.length c2] 34)
        have hO7 := (hF6.trans hfa (U := fun k => k = R) (fun _ _ h => h) (fun _ _ h => h.elim)).own HOW.out (fun k hk => hvl k (HOW.out.lt k hk).1)
        refine wpO_run rfl (by kernel_rfl) (fun K hK => ?_); go_simp
        refine hK _ _ (fun _ => hfa.heap hb6 not_false) ?_
        clear hK K
        try simp only [Act.put, List.setIfInBounds_toArray, List.set_cons_zero, List.set_cons_succ]
        have hbs : V + 1 ≤ (w6.alloc (.cells #[.int .i64 (rVal B d t').1.k, .int .i64 (rVal B d t').1.n, .string (rVal B d t').1.s, .slice a2 (rVal B d t').1.l.length c2] 34)).heap.size := by have := hF6.size; have := hfa.size; have := HVW.out; omega
        refine wpO_run rfl (by kernel_rfl) (fun K hK => ?_)
        refine wp_appendR (.tmp 50) (.tmp 55) 32 rfl 34 (.agg #[.int .i64 0, .int .i64 0, .string ⟨#[]⟩, .slice none 0 0]) 4 56 Tryd.underlying32 Tryd.info_val rfl (by decide) _ rfl (V + 1) L.length xs hO7 w6.heap.size 1 [.int .i64 (rVal B d t').1.k, .int .i64 (rVal B d t').1.n, .string (rVal B d t').1.s, .slice a2 (rVal B d t').1.l.length c2] rfl rfl (cells_new4 w6 #[.int .i64 (rVal B d t').1.k, .int .i64 (rVal B d t').1.n, .string (rVal B d t').1.s, .slice a2 (rVal B d t').1.l.length c2] _ _) (by intro q hq; simp at hq; rcases hq with rfl | rfl | rfl | rfl <;> rfl) HLL.out (by decide) hbs ?_
        intro g cap w8 ho8 hf8 hn8
        have hVn : ¬ some V = (Value.slice al L.length cl).ownBlock := fun e => by have := (HOW.out.lt V e.symm).1; omega
        have hb8 := hf8.heap (hfa.heap hb6 not_false) hVn
        refine hK _ _ (fun _ => hb8) ?_
        clear hK K
        try simp only [Act.put, List.setIfInBounds_toArray, List.set_cons_zero, List.set_cons_succ]
        (refine wpO_take ?_ rfl (by kernel_rfl) ?_ ?_; rotate_left; (· intro w' hS; go_simp; try with_reducible rfl); try simp only [Act.put, List.setIfInBounds_toArray, List.set_cons_zero, List.set_cons_succ])
        have hO8 : VOwn 34 (V + 1) w8 (L ++ [(rVal B d t').1]) (.slice (some ⟨g, 0, none⟩) (L.length + 1) cap) := by
          refine VOwn.snoc (u := #[.int .i64 (rVal B d t').1.k, .int .i64 (rVal B d t').1.n, .string (rVal B d t').1.s, .slice a2 (rVal B d t').1.l.length c2]) hO7 (fun i x hi => ?_) ho8 hf8 (fun q hq => ?_) ?_ rfl
          · obtain ⟨u, hu, r⟩ := HXS.out i x hi
            have hF7 := hF6.trans hfa (U := fun k => k = R) (fun _ _ h => h) (fun _ _ h => h.elim)
            exact ⟨u, (hu.frame hF7 fun k hk => hvl k hk.1).mono fun q _ hq => ⟨hq.1, Nat.lt_of_lt_of_le hq.2.1 hF7.size, hq.2.2.1, hF7.soft hq.2.1 (hvl q hq.1) hq.2.2.2⟩, r⟩
          · simp only [Value.ownBlock, Option.some.injEq] at hq
            subst hq
            exact hn8
          · refine (hv.soft hfa fun _ _ => id).mono fun q hq hq2 => ⟨?_, hq, fun e => ?_, hq2.2⟩
            · have := HVW.out; have hq3 := hq2.1; have := hfd.size; omega
            · have := (HOW.out.lt q e).2; have hq3 := hq2.1; have := hfd.size; omega
        have f3 : w8.frozen? ⟨V, 3, none⟩ = false := frozen_of_row w8 _ 3 _ _ hb8
        have c3 : w8.cell? ⟨V, 3, none⟩ = some (.slice al L.length cl) := by rw [cell_of_row _ _ _ _ _ _ hb8]; rfl
        have hb9 := setCell_row 3 (.slice (some ⟨g, 0, none⟩) (L.length + 1) cap) hb8
        simp only [List.setIfInBounds_toArray, List.set_cons_zero, List.set_cons_succ] at hb9
        have hs9 : Fr (fun q => q = V) w8 (w8.setCell ⟨V, 3, none⟩ (.slice (some ⟨g, 0, none⟩) (L.length + 1) cap)) := Fr.setCell (S := fun k => k = V) (Fr.refl _ _) (p := ⟨V, 3, none⟩) (.inl rfl) _
        have hown : ∀ k, k < V + 1 → ¬ some k = (Value.slice al L.length cl).ownBlock := fun k hk e => by have := (HOW.out.lt k e.symm).1; omega
        have HO9 := hid (show VOwn 34 (V + 1) (w8.setCell ⟨V, 3, none⟩ (.slice (some ⟨g, 0, none⟩) (L.length + 1) cap)) (L ++ [(rVal B d t').1]) (.slice (some ⟨g, 0, none⟩) (L.length + 1) cap) from hO8.fr hs9 fun k hk e => by omega)
        have HB9 := hid hb9
        have HT9 := hid (hs9.heap (hf8.heap (hfa.heap (hF6.heap HBT5.out (by have := HTV.out; have := HRT.out; omega)) not_false) (hown T (by have := HTV.out; omega))) (by have := HTV.out; omega))
        have HR9 := hid (((hr.frame hfa).other hf8 (fun k hk e => hown k (by have := HTV.out; have := HRT.out; omega) e)).other hs9 (fun k hk e => by have := HTV.out; have := HRT.out; omega))
        have HF9 := hid ((((HF5.out.trans' hF6).trans hfa (U := fun k => k = R) (fun _ _ h => h) (fun _ _ h => h.elim)).trans hf8 (U := fun k => k = R) (fun _ _ h => h) (fun k hk e => absurd e (hown k (by have := HTV.out; have := HTT.out; omega)))).trans hs9 (U := fun k => k = R) (fun _ _ h => h) (fun k hk e => by have := HTV.out; have := HTT.out; omega))
        refine wpO_run rfl (by kernel_rfl) (fun K hK => ?_)
        go_simp
        refine hK _ _ (last_skip (by kernel_rfl)) ?_
        clear hK K
        try simp only [Act.put, List.setIfInBounds_toArray, List.set_cons_zero, List.set_cons_succ]
        refine wpO_end ?_
        clear hO8 hb9 hs9 hb8 ho8 hf8 hn8 hO7 hF6 hfa hfd hv hr hf hb6 f3 c3 hown hVn hvl hbs r2
        generalize w8.setCell ⟨V, 3, none⟩ (.slice (some ⟨g, 0, none⟩) (L.length + 1) cap) = w9 at *
        go_wp2_with fail
        go_roundw
        case rel => exact ⟨j', _, L ++ [(rVal B d t').1], _, by rw [List.length_append]; simp; omega, by go_num, HQ2, HR9, HB9, HT9, by simpa using HO9, HF9⟩
        case measure => simp [intOf]
  have HKN := hid (show ¬ (k = 0 ∨ k = 1 ∨ k = 3) ∧ k ≠ 2 ∧ k ≠ 4 from ⟨by omega, kc2, kc4⟩)
  have HX0 := hid (show x0 = .mk k 0 ⟨#[]⟩ [] by have := HV.out; rw [if_neg HKN.out.1, if_neg HKN.out.2.1, if_neg HKN.out.2.2] at this; exact (congrArg Prod.fst this))
  have HS0 := hid (show s0 = s1.fail by have := HV.out; rw [if_neg HKN.out.1, if_neg HKN.out.2.1, if_neg HKN.out.2.2] at this; exact (congrArg Prod.snd this))
  have v0 : w3.cell? ⟨V, 0, none⟩ = some (.int .i64 k) := by rw [cell_of_row _ _ _ _ _ _ HBV.out]; rfl
  have e0 : w3.cell? ⟨0, 0, none⟩ = some (.iface 175 (.pointer (some (pa 2)))) := (HE.out w3 HF3.out) 2 (by decide)
  have b0 : ((k : Int) == 0) = false := by rw [beq_eq_false_iff_ne]; omega
  have b1 : ((k : Int) == 1) = false := by rw [beq_eq_false_iff_ne]; omega
  have b2 : ((k : Int) == 2) = false := by rw [beq_eq_false_iff_ne]; omega
  have b3 : ((k : Int) == 3) = false := by rw [beq_eq_false_iff_ne]; omega
  have b4 : ((k : Int) == 4) = false := by rw [beq_eq_false_iff_ne]; omega
  have HIN := hid (rdfail_any w3 HR3.out 175 (.pointer (some (pa 2))))
  clear kc0 kc1 kc3 kc2 kc4
  go_wp2_with fail
  refine HIN.out.mono ?_
  rintro e w5 ⟨rfl, hr5, hf5⟩
  have HB5 := hid (hf5.heap HBV.out (by have := HTV.out; have := HRT.out; omega))
  have HBT5 := hid (hf5.heap HBT.out (by have := HTV.out; have := HRT.out; omega))
  have HR5 := hid hr5
  have HF5 := hid (HF3.out.trans' hf5)
  have HVL := hid (VL.nil (fun b => V < b ∧ Soft w5 b) w5)
  clear hr5 hf5 HIN v0 e0
  go_upto_region 18 with fail
  have v0 : w5.cell? ⟨V, 0, none⟩ = some (.int .i64 (k)) := by rw [cell_of_row _ _ _ _ _ _ HB5.out]; rfl
  have v1 : w5.cell? ⟨V, 1, none⟩ = some (.int .i64 (0)) := by rw [cell_of_row _ _ _ _ _ _ HB5.out]; rfl
  have v2 : w5.cell? ⟨V, 2, none⟩ = some (.string (⟨#[]⟩)) := by rw [cell_of_row _ _ _ _ _ _ HB5.out]; rfl
  have v3 : w5.cell? ⟨V, 3, none⟩ = some (.slice none 0 0) := by rw [cell_of_row _ _ _ _ _ _ HB5.out]; rfl
  have t0 : w5.cell? ⟨T, 0, none⟩ = some (.int .i64 0) := by rw [cell_of_row _ _ _ _ _ _ HBT5.out]; rfl
  have t1 : w5.cell? ⟨T, 1, none⟩ = some (.int .i64 0) := by rw [cell_of_row _ _ _ _ _ _ HBT5.out]; rfl
  have t2 : w5.cell? ⟨T, 2, none⟩ = some (.string ⟨#[]⟩) := by rw [cell_of_row _ _ _ _ _ _ HBT5.out]; rfl
  have t3 : w5.cell? ⟨T, 3, none⟩ = some (.slice none 0 0) := by rw [cell_of_row _ _ _ _ _ _ HBT5.out]; rfl
  have F1 : ∀ i, w5.frozen? ⟨T, i, none⟩ = false := fun i => frozen_of_row w5 _ i _ _ HBT5.out
  have HST := hid (set4v (u0 := .int .i64 (k)) (u1 := .int .i64 (0)) (u2 := .string (⟨#[]⟩)) (u3 := .slice none 0 0) HBT5.out)
  go_wp2_with fail
  refine bodyPost_ret (results_cell_row rfl _ _ T _ _ _ _ rfl HST.out.1 Tryd.underlying34 rfl (by kernel_rfl)) rfl ?_
  refine ⟨_, rfl, ?_, ?_, HF5.out.trans HST.out.2 (fun _ _ h => h) (fun q hq e => by have := HTT.out; omega)⟩
  · rw [HX0.out]
    exact ((HVL.out.close (k) (0) (⟨#[]⟩)).soft HST.out.2 (fun q hq e => by have := HTV.out.2; omega)).mono fun q _ hq => ⟨by have := HTV.out; have := HTT.out; omega, hq.2⟩
  · rw [HS0.out]
    exact HR5.out.other HST.out.2 (fun q hq e => by have := HTV.out; have := HRT.out; omega)
theorem val_to : ∀ d, d ≤ 40 → ValTo d
  | 0, _ => val_zero
  | d + 1, h => val_succ d h (val_to d (by omega))
end
section
open Go.RowKit

/-- One element of several cells appended: it lies at block g0. -/
theorem wp_appendR8 {P : Program} {o : Oper} {a : Act} {w : World} {K : Act → World → Prop} {Q : Exit → Act → World → Prop} (s x : Operand) (t : TypeId)
    (ho : o.op = .call { callee := .builtin .append, args := #[s, x], argTypes := #[t, t] })
    (e : TypeId) (z : Value) (sz bytes : Nat) (ht : P.underlying t = some (.slice e)) (hrow : (P.info? e).map (fun i => (i.zero, i.size, i.bytes)) = some (some z, sz, bytes)) (hzs : z.cells.size = sz) (hsz0 : 0 < sz)
    (v : Value) (hs : a.eval s = v) (base n : Nat) (xs : List Value) (hown : w.ownsRow base e sz v n xs)
    (g0 c : Nat) (us : List Value) (hus : us.length = sz) (hx : a.eval x = .slice (some ⟨g0, 0, none⟩) 1 c) (hu : ∀ j y, us[j]? = some y → w.cell? ⟨g0, j, none⟩ = some y) (h1 : ∀ y ∈ us, y.oneCell' = true)
    (h63 : n + 1 ≤ 1099511627776) (hby : bytes ≤ 128) (hbase : base ≤ w.heap.size)
    (h : ∀ g cap w', w'.ownsRow base e sz (.slice (some ⟨g, 0, none⟩) (n + 1) cap) (n + 1) (xs ++ us) → Fr (fun k => some k = v.ownBlock) w w' → (v.ownBlock = some g ∨ w.heap.size ≤ g) → K (a.put o.dst (.slice (some ⟨g, 0, none⟩) (n + 1) cap)) w') : o.wp P a w K Q := by
  obtain ⟨i, hi, hz, hsz, hbt⟩ := info_parts hrow
  have hb2 : (n + 1) * bytes ≤ 140737488355328 := by
    have := Nat.mul_le_mul h63 hby
    omega
  have key : ∃ g cap w', (Builtin.append_ #[t, t] o.type #[v, .slice (some ⟨g0, 0, none⟩) 1 c]).run P w = .ok (.slice (some ⟨g, 0, none⟩) (n + 1) cap) w' ∧ w'.ownsRow base e sz (.slice (some ⟨g, 0, none⟩) (n + 1) cap) (n + 1) (xs ++ us) ∧ w.grownBy w' v.ownBlock ∧ (v.ownBlock = some g ∨ w.heap.size ≤ g) := by
    have hcells : ∀ j y, us[j]? = some y → w.cell? ((⟨g0, 0, none⟩ : Addr).add j) = some y := by
      intro j y hy
      have : (⟨g0, 0, none⟩ : Addr).add j = ⟨g0, j, none⟩ := by unfold Addr.add; split <;> simp_all
      rw [this]
      exact hu j y hy
    have hmx : n + 1 ≤ maxLen := by unfold maxLen; omega
    obtain ⟨v', w', hr, ho', hg, hn⟩ := run_append_own (P := P) w base t o.type e i z sz bytes ht hi hz hsz hbt hzs hsz0 v n xs hown ⟨g0, 0, none⟩ 1 c us (by rw [hus, Nat.one_mul]) hcells h1 hmx hb2 hbase
    rcases ho'.2 with ⟨_, h0⟩ | ⟨g, cap, cur, rfl, hbg, hgg, _⟩
    · omega
    · refine ⟨g, cap, w', hr, ho', hg, ?_⟩
      rcases hown.2 with ⟨rfl, rfl⟩ | ⟨g1, cap1, cur1, rfl, hb1, hg1, hnc, hcm, hcs, htk⟩
      · refine .inr (Nat.le_of_not_lt fun hlt => ?_)
        have e1 := run_append_nil (P := P) w t o.type e i z ht hi hz ⟨g0, 0, none⟩ 1 c us (by rw [hus, hsz, Nat.one_mul]) hcells (by decide) (by decide) (by rw [hbt]; simp; omega)
        rw [hr] at e1
        simp only [Result.ok.injEq, Value.slice.injEq, Option.some.injEq, Addr.mk.injEq] at e1
        omega
      · by_cases hroom : n + 1 ≤ cap1
        · have e1 := run_append_room (P := P) w t o.type e i ht hi g1 n cap1 cur1 hg1 ⟨g0, 0, none⟩ 1 c us (by rw [hus, hsz, Nat.one_mul]) hcells h1 hroom (by rw [hcs, hus, hsz]; have := Nat.mul_le_mul_right sz hroom; rw [Nat.add_mul, Nat.one_mul] at this; exact this)
          rw [hr] at e1
          simp only [Result.ok.injEq, Value.slice.injEq, Option.some.injEq, Addr.mk.injEq] at e1
          left; simp [Value.ownBlock]; omega
        · have holds : ∀ j u, xs[j]? = some u → w.cell? ((⟨g1, 0, none⟩ : Addr).add j) = some u := hown.cells (g := g1) rfl
          have e1 := run_append_grow (P := P) w t o.type e i z ht hi hz ⟨g1, 0, none⟩ n cap1 xs (by rw [hsz]; exact hown.1) holds ⟨g0, 0, none⟩ 1 c us (by rw [hus, hsz, Nat.one_mul]) hcells (by unfold maxLen at hmx; omega) (by omega) (growslice_fits (by omega) (by rw [hbt]; exact hb2))
          rw [hr] at e1
          simp only [Result.ok.injEq, Value.slice.injEq, Option.some.injEq, Addr.mk.injEq] at e1
          right; simp at e1; omega
  obtain ⟨g, cap, w', hr, ho', hg, hw⟩ := key
  unfold Oper.wp execOp
  simp only [ho, resolve, invoke, builtin, Sem.run_bind, Sem.run_pure, Result.andThen_ok, List.map_toArray, List.map_cons, List.map_nil, hs, hx, hr]
  exact h g cap w' ho' (Fr.of_grownBy hg) hw

theorem wpList_appendR8 {P : Program} {ops : Array Oper} {rest : List Oper} {o : Oper} {a : Act} {w : World} {Q : Exit → Act → World → Prop} (hgd : o.guard = none) (s x : Operand) (t : TypeId)
    (ho : o.op = .call { callee := .builtin .append, args := #[s, x], argTypes := #[t, t] })
    (e : TypeId) (z : Value) (sz bytes : Nat) (ht : P.underlying t = some (.slice e)) (hrow : (P.info? e).map (fun i => (i.zero, i.size, i.bytes)) = some (some z, sz, bytes)) (hzs : z.cells.size = sz) (hsz0 : 0 < sz)
    (v : Value) (hs : a.eval s = v) (base n : Nat) (xs : List Value) (hown : w.ownsRow base e sz v n xs)
    (g0 c : Nat) (us : List Value) (hus : us.length = sz) (hx : a.eval x = .slice (some ⟨g0, 0, none⟩) 1 c) (hu : ∀ j y, us[j]? = some y → w.cell? ⟨g0, j, none⟩ = some y) (h1 : ∀ y ∈ us, y.oneCell' = true)
    (h63 : n + 1 ≤ 1099511627776) (hby : bytes ≤ 128) (hbase : base ≤ w.heap.size)
    (h : ∀ g cap w', w'.ownsRow base e sz (.slice (some ⟨g, 0, none⟩) (n + 1) cap) (n + 1) (xs ++ us) → Fr (fun k => some k = v.ownBlock) w w' → (v.ownBlock = some g ∨ w.heap.size ≤ g) → wpList P ops Q rest (a.put o.dst (.slice (some ⟨g, 0, none⟩) (n + 1) cap)) w') : wpList P ops Q (o :: rest) a w :=
  wpList_plain hgd fun _ hK => wp_appendR8 s x t ho e z sz bytes ht hrow hzs hsz0 v hs base n xs hown g0 c us hus hx hu h1 h63 hby hbase fun g cap w' h1 h2 h3 => hK _ _ (h g cap w' h1 h2 h3)
theorem NIn.soft {B : Nat → Prop} {S : Nat → Prop} {w w' : World} {x : Nd} {u : Array Value} (h : NIn (fun b => B b ∧ Soft w b) w x u) (hf : Fr S w w') (hS : ∀ k, B k → ¬ S k) : NIn (fun b => B b ∧ Soft w' b) w' x u :=
  ((h.mono (E := fun b => (B b ∧ b < w.heap.size) ∧ Soft w b) fun k hk hd => ⟨⟨hd.1, hk⟩, hd.2⟩).frame hf fun k hk => hS k hk.1.1).mono fun k _ hk => ⟨hk.1.1, hf.soft hk.1.2 (hS k hk.1.1) hk.2⟩
/-- A row of its own (element type e), with the items l. -/
def NOwn (e base : Nat) (w : World) (l : List Nd) (v : Value) : Prop :=
  ∃ xs : List Value, w.ownsRow base e 8 v l.length xs ∧ ∀ i x, l[i]? = some x → ∃ u, NIn (fun b => base ≤ b ∧ b < w.heap.size ∧ v.ownBlock ≠ some b ∧ Soft w b) w x u ∧ u.size = 8 ∧ ∀ j, j < 8 → xs[i * 8 + j]? = u[j]?
theorem NOwn.nil (e base : Nat) (w : World) : NOwn e base w [] (.slice none 0 0) := ⟨[], World.ownsRow_nil _ _ _ _, fun i x h => by simp at h⟩
theorem NOwn.frame {e base : Nat} {w w' : World} {l : List Nd} {v : Value} (h : NOwn e base w l v) (hf : Fr (fun _ => False) w w') : NOwn e base w' l v := by
  obtain ⟨xs, ho, hx⟩ := h
  refine ⟨xs, hf.own ho (fun _ _ => id), fun i x hi => ?_⟩
  obtain ⟨u, hv, r⟩ := hx i x hi
  exact ⟨u, (hv.frame hf fun _ _ => id).mono fun k _ hk => ⟨hk.1, Nat.lt_of_lt_of_le hk.2.1 hf.size, hk.2.2.1, hf.soft hk.2.1 id hk.2.2.2⟩, r⟩
theorem NOwn.snoc {e base : Nat} {w w' : World} {l : List Nd} {v v' : Value} {xs : List Value} {x : Nd} {u : Array Value}
    (ho : w.ownsRow base e 8 v l.length xs) (hx : ∀ i x, l[i]? = some x → ∃ u, NIn (fun b => base ≤ b ∧ b < w.heap.size ∧ v.ownBlock ≠ some b ∧ Soft w b) w x u ∧ u.size = 8 ∧ ∀ j, j < 8 → xs[i * 8 + j]? = u[j]?)
    (ho' : w'.ownsRow base e 8 v' (l.length + 1) (xs ++ u.toList)) (hf : Fr (fun k => some k = v.ownBlock) w w') (hn : ∀ k, v'.ownBlock = some k → v.ownBlock = some k ∨ w.heap.size ≤ k)
    (hv : NIn (fun b => base ≤ b ∧ b < w.heap.size ∧ v.ownBlock ≠ some b ∧ Soft w b) w x u) (h4 : u.size = 8) : NOwn e base w' (l ++ [x]) v' := by
  have hlen : xs.length = l.length * 8 := ho.1
  have key : ∀ {y : Nd} {c : Array Value}, NIn (fun b => base ≤ b ∧ b < w.heap.size ∧ v.ownBlock ≠ some b ∧ Soft w b) w y c → NIn (fun b => base ≤ b ∧ b < w'.heap.size ∧ v'.ownBlock ≠ some b ∧ Soft w' b) w' y c := fun h =>
    (h.frame hf fun k hk e => hk.2.2.1 e.symm).mono fun k _ hk => ⟨hk.1, Nat.lt_of_lt_of_le hk.2.1 hf.size, fun e => by
      rcases hn k e with h1 | h1
      · exact hk.2.2.1 h1
      · have := hk.2.1; omega, hf.soft hk.2.1 (fun e => hk.2.2.1 e.symm) hk.2.2.2⟩
  refine ⟨xs ++ u.toList, by simpa using ho', fun i y hi => ?_⟩
  by_cases hlt : i < l.length
  · rw [List.getElem?_append_left hlt] at hi
    obtain ⟨c, hc, h4c, hj⟩ := hx i y hi
    refine ⟨c, key hc, h4c, fun j hj4 => ?_⟩
    rw [List.getElem?_append_left (by omega)]
    exact hj j hj4
  · have hil := (List.getElem?_eq_some_iff.1 hi).1
    have : i = l.length := by simp at hil; omega
    subst this
    rw [List.getElem?_append_right (Nat.le_refl _)] at hi
    simp at hi
    subst hi
    refine ⟨u, key hv, h4, fun j hj4 => ?_⟩
    rw [List.getElem?_append_right (by omega)]
    simp [hlen]
theorem NOwn.close {e base : Nat} {w : World} {l : List Nd} {v : Value} (h : NOwn e base w l v) : NL (fun b => base ≤ b ∧ Soft w b) w l v := by
  obtain ⟨xs, ho, hx⟩ := h
  have hmono : ∀ {y : Nd} {c : Array Value}, NIn (fun b => base ≤ b ∧ b < w.heap.size ∧ v.ownBlock ≠ some b ∧ Soft w b) w y c → NIn (fun b => base ≤ b ∧ Soft w b) w y c := fun h => h.mono fun k _ hk => ⟨hk.1, hk.2.2.2⟩
  obtain ⟨us, hus⟩ : ∃ us : Nat → Array Value, ∀ i x, l[i]? = some x → NIn (fun b => base ≤ b ∧ Soft w b) w x (us i) ∧ (us i).size = 8 ∧ ∀ j, j < 8 → xs[i * 8 + j]? = (us i)[j]? := by
    classical
    refine ⟨fun i => if h : ∃ u, ∀ x, l[i]? = some x → NIn (fun b => base ≤ b ∧ Soft w b) w x u ∧ u.size = 8 ∧ ∀ j, j < 8 → xs[i * 8 + j]? = u[j]? then h.choose else #[], fun i x hi => ?_⟩
    have h : ∃ u, ∀ x, l[i]? = some x → NIn (fun b => base ≤ b ∧ Soft w b) w x u ∧ u.size = 8 ∧ ∀ j, j < 8 → xs[i * 8 + j]? = u[j]? := by
      obtain ⟨u, h1, h2⟩ := hx i x hi
      exact ⟨u, fun x' hx' => by rw [hi] at hx'; obtain rfl := Option.some.inj hx'; exact ⟨hmono h1, h2⟩⟩
    simp only [dif_pos h]
    exact h.choose_spec x hi
  rcases ho.2 with ⟨rfl, h0⟩ | ⟨g, cap, cur, rfl, hb, hg, h1, h2, h3, ht⟩
  · exact ⟨none, 0, us, by rw [h0], by omega, by simp, fun _ => rfl, fun i hi => by omega, fun i x hi => (hus i x hi).1⟩
  · refine ⟨some ⟨g, 0, none⟩, cap, us, rfl, h1, h2, (fun h => by cases h), fun i hi => ?_, fun i x hi => (hus i x hi).1⟩
    obtain ⟨_, h4, hj⟩ := hus i _ (List.getElem?_eq_getElem hi)
    refine ⟨g, 0, rfl, ⟨hb, fun i => frozen_of_row w g i _ _ hg⟩, h4, fun j hj4 => ?_⟩
    rw [← hj j hj4]
    have hc := ho.cells (g := g) rfl
    have hlen : xs.length = l.length * 8 := ho.1
    have hlt : i * 8 + j < xs.length := by omega
    have h5 := hc (i * 8 + j) _ (List.getElem?_eq_getElem hlt)
    have : (⟨g, 0, none⟩ : Addr).add (i * 8 + j) = ⟨g, 0 + i * 8 + j, none⟩ := by unfold Addr.add; split <;> simp_all [Nat.add_assoc]
    rw [← this, h5, List.getElem?_eq_getElem hlt]
end
section
open Go.RowKit

theorem VOwn.vc {e base : Nat} {w : World} {l : List V} {v : Value} (h : VOwn e base w l v) : ∃ us, w.ownsRow base e 4 v l.length us ∧ us.length = l.length * 4 ∧ ∀ i x, l[i]? = some x → ∃ u, VIn (fun b => base ≤ b ∧ b < w.heap.size ∧ v.ownBlock ≠ some b) w x u ∧ u.size = 4 ∧ ∀ j, j < 4 → us[i * 4 + j]? = u[j]? := by
  obtain ⟨us, ho, hx⟩ := h
  refine ⟨us, ho, ho.1, fun i x hi => ?_⟩
  obtain ⟨u, a, b, c⟩ := hx i x hi
  exact ⟨u, a.mono fun k _ hk => ⟨hk.1, hk.2.1, hk.2.2.1⟩, b, c⟩
end
section
open Go.RowKit

theorem VL.softL {B : Nat → Prop} {S : Nat → Prop} {w w' : World} {l : List V} {v : Value} (h : VL (fun b => B b ∧ Soft w b) w l v) (hf : Fr S w w') (hS : ∀ k, B k → ¬ S k) : VL (fun b => B b ∧ Soft w' b) w' l v := by
  have := ((h.close 0 0 ⟨#[]⟩).soft hf hS).open
  obtain ⟨v', e, h'⟩ := this
  simp at e
  obtain ⟨-, -, -, rfl⟩ := e
  exact h'
theorem Tryd.info_nd8 : (Tryd.prog.info? 36).map (fun i => (i.zero, i.size, i.bytes)) = some (some (.agg #[.int .i64 0, .int .i64 0, .string ⟨#[]⟩, .int .i64 0, .int .i64 0, .string ⟨#[]⟩, .slice none 0 0, .slice none 0 0]), 8, 112) := by kernel_rfl
end
end Go.Proofs.YtbegahbagnflnaaDoor
