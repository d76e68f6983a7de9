/- DocG, Few, WNodes, Wire, Crc, FrameA: several texts in one: a claim has at most 60 files -/
import Derived.Test.YtbegahbagnflnaaGreatDoorMm11
import Derived.Test.YtbegahbagnflnaaGreatDoorMm08
import Derived.Test.YtbegahbagnflnaaGreatDoorMm07
import Derived.Test.YtbegahbagnflnaaGreatDoorMm02
import Derived.Test.YtbegahbagnflnaaGreatDoorLib
import Derived.Laws.BitsAll
import Derived.Laws.Tables
set_option linter.unusedSimpArgs false
set_option linter.unusedVariables false
set_option linter.unnecessarySimpa false
namespace Go.Proofs.YtbegahbagnflnaaGreatDoor
section
open Go.RowKit

def faultF (f : Flt) : Value := faultV f.c f.p f.l
theorem faultQ_eq (q : Nat × Int) : faultQ q = faultF (fltAt q) := by
  unfold faultQ fltAt
  split <;> rfl
set_option maxRecDepth 100000 in
set_option maxHeartbeats 1000000 in
theorem dvalid_any (l : List Nd) (hz : szL l ≤ 1099511627776) (D : Nat → Prop) (w : World) (v : Value) (h : NL D w l v) :
    Calls Tryz.prog 19 #[v] w fun e w' => e = .returned (faultF (pValid l 7)) ∧ Fr (fun _ => False) w w' := by
  have hcs := cntL_szL l
  have hf0 := (Fr.refl (fun _ => False) w).alloc (.cells #[.int .i64 0, .bool false, .int .i64 0, .int .i64 0, .int .i64 0, .string ⟨#[]⟩, .slice none 0 0] 46)
  have hr0 := heap_alloc_new w (.cells #[.int .i64 0, .bool false, .int .i64 0, .int .i64 0, .int .i64 0, .string ⟨#[]⟩, .slice none 0 0] 46)
  have HTM := hid (dtoomany_any l (by omega) D _ v (h.frame hf0 fun _ _ => not_false))
  have HDP := hid (fun w2 (hf : Fr (fun _ => False) w w2) => ddeep_any (cntL l + 1) l (by omega) (by omega) D w2 v (h.frame hf fun _ _ => not_false))
  have hdc := depL_le' l
  obtain ⟨a, cap, us, rfl, hc, hm, hn, hb, hi⟩ := h
  have HPV := hid (show pValid l 7 = if 4096 < cntL l then ⟨104, false, 0⟩ else if 40 < depL l then ⟨112, false, 0⟩ else fltAt (pVals 7 l) from rfl)
  have hW : ¬ 4096 < cntL l → ∀ (k : Nat) (y : Nd), l[k]? = some y → ∀ (w2 : World) (u : Array Value), NIn D w2 y u → Calls Tryz.prog 42 #[.agg u, .int .i64 9, .bool false] w2 fun e w' => e = .returned (faultQ (pWalk y 7 false)) ∧ Fr (fun _ => False) w2 w' := fun hl k y hy w2 u hn => by
    have h1 := cntL_mem hy
    have h2 := szL_mem hy
    exact dodd_any (y.cnt + 1) y (by omega) (by omega) (by omega) 7 (by decide) (by decide) false D w2 u hn
  have hll : (l.length : Int) ≤ 1099511627776 := by have := len_le_cnt l; omega
  have hdI : (depL l : Int) ≤ 1099511627776 := by omega
  have HW := hid hW; have HB := hid hb; have HI := hid hi; have HF0 := hid hf0; have HR0 := hid hr0
  clear hW hb hi hz hcs hdc hc hm hn hf0 hr0
  generalize pValid l 7 = pv at *
  go_enter Tryz.func19, Tryz.ntmps19
  go_upto_region 1 with fail
  generalize hW0 : w.alloc (.cells #[.int .i64 0, .bool false, .int .i64 0, .int .i64 0, .int .i64 0, .string ⟨#[]⟩, .slice none 0 0] 46) = W0 at *
  clear hW0
  go_wp2_with fail
  refine HTM.out.mono ?_
  rintro e w1 ⟨rfl, hf1⟩
  have HF1 := hid (HF0.out.trans' hf1); have HR1 := hid (hf1.heap HR0.out not_false)
  clear hf1
  by_cases hbig : 4096 < cntL l
  · have HX := hid (show pv = ⟨104, false, 0⟩ by rw [HPV.out, if_pos hbig])
    rw [decide_eq_true hbig]
    clear hbig
    go_wp2_with fail
    refine (bare_any 104 w1).mono ?_
    rintro e w2 ⟨rfl, hf2⟩
    unfold bareV
    have hrow := hf2.heap HR1.out not_false
    have HF2 := hid (HF1.out.trans' hf2)
    clear hf2
    have z0 : w2.cell? ⟨w.heap.size, 0, none⟩ = some (.int .i64 0) := by rw [cell_of_row _ _ 0 _ _ _ hrow]; rfl
    have z1 : w2.cell? ⟨w.heap.size, 1, none⟩ = some (.bool false) := by rw [cell_of_row _ _ 1 _ _ _ hrow]; rfl
    have z2 : w2.cell? ⟨w.heap.size, 2, none⟩ = some (.int .i64 0) := by rw [cell_of_row _ _ 2 _ _ _ hrow]; rfl
    have z3 : w2.cell? ⟨w.heap.size, 3, none⟩ = some (.int .i64 0) := by rw [cell_of_row _ _ 3 _ _ _ hrow]; rfl
    have z4 : w2.cell? ⟨w.heap.size, 4, none⟩ = some (.int .i64 0) := by rw [cell_of_row _ _ 4 _ _ _ hrow]; rfl
    have z5 : w2.cell? ⟨w.heap.size, 5, none⟩ = some (.string ⟨#[]⟩) := by rw [cell_of_row _ _ 5 _ _ _ hrow]; rfl
    have z6 : w2.cell? ⟨w.heap.size, 6, none⟩ = some (.slice none 0 0) := by rw [cell_of_row _ _ 6 _ _ _ hrow]; rfl
    have fz : ∀ i, w2.frozen? ⟨w.heap.size, i, none⟩ = false := fun i => frozen_of_row _ _ i _ _ hrow
    go_wp2_with fail
    have hR2 := (setCell_row 6 (.slice none 0 0) (setCell_row 5 (.string ⟨#[]⟩) (setCell_row 4 (.int .i64 0) (setCell_row 3 (.int .i64 0) (setCell_row 2 (.int .i64 0) (setCell_row 1 (.bool false) (setCell_row 0 (.int .i64 104) hrow)))))))
    simp only [List.setIfInBounds_toArray, List.set_cons_zero, List.set_cons_succ] at hR2
    have hf8 : Fr (fun q => q = w.heap.size) w2 (((((((w2.setCell ⟨w.heap.size, 0, none⟩ (.int .i64 104)).setCell ⟨w.heap.size, 1, none⟩ (.bool false)).setCell ⟨w.heap.size, 2, none⟩ (.int .i64 0)).setCell ⟨w.heap.size, 3, none⟩ (.int .i64 0)).setCell ⟨w.heap.size, 4, none⟩ (.int .i64 0)).setCell ⟨w.heap.size, 5, none⟩ (.string ⟨#[]⟩)).setCell ⟨w.heap.size, 6, none⟩ (.slice none 0 0)) := ((((((((Fr.refl (fun q => q = w.heap.size) w2).setCell (p := ⟨w.heap.size, 0, none⟩) (.inl rfl) (.int .i64 104)).setCell (p := ⟨w.heap.size, 1, none⟩) (.inl rfl) (.bool false)).setCell (p := ⟨w.heap.size, 2, none⟩) (.inl rfl) (.int .i64 0)).setCell (p := ⟨w.heap.size, 3, none⟩) (.inl rfl) (.int .i64 0)).setCell (p := ⟨w.heap.size, 4, none⟩) (.inl rfl) (.int .i64 0)).setCell (p := ⟨w.heap.size, 5, none⟩) (.inl rfl) (.string ⟨#[]⟩)).setCell (p := ⟨w.heap.size, 6, none⟩) (.inl rfl) (.slice none 0 0))
    refine bodyPost_ret (results_cell_row rfl _ _ (w.heap.size) _ _ _ _ rfl hR2 Tryz.underlying46 rfl (by kernel_rfl)) rfl ?_
    exact ⟨by rw [HX.out]; rfl, (HF2.out).trans hf8 (fun _ _ => id) (fun q hq e => by omega)⟩
  rw [decide_eq_false hbig]
  have HBIG := hid hbig
  clear hbig
  go_wp2_with fail
  refine (HDP.out w1 HF1.out).mono ?_
  rintro e w2 ⟨rfl, hf2⟩
  have HF2 := hid (HF1.out.trans' hf2); have HR2 := hid (hf2.heap HR1.out not_false)
  clear hf2
  by_cases hdeep : 40 < depL l
  · have HX := hid (show pv = ⟨112, false, 0⟩ by rw [HPV.out, if_neg HBIG.out, if_pos hdeep])
    have hd1 : (40 : Int) < depL l := by omega
    clear hdeep
    go_wp2_with fail
    refine (bare_any 112 w2).mono ?_
    rintro e w3 ⟨rfl, hf3⟩
    unfold bareV
    have hrow := hf3.heap HR2.out not_false
    have HF3 := hid (HF2.out.trans' hf3)
    clear hf3
    have z0 : w3.cell? ⟨w.heap.size, 0, none⟩ = some (.int .i64 0) := by rw [cell_of_row _ _ 0 _ _ _ hrow]; rfl
    have z1 : w3.cell? ⟨w.heap.size, 1, none⟩ = some (.bool false) := by rw [cell_of_row _ _ 1 _ _ _ hrow]; rfl
    have z2 : w3.cell? ⟨w.heap.size, 2, none⟩ = some (.int .i64 0) := by rw [cell_of_row _ _ 2 _ _ _ hrow]; rfl
    have z3 : w3.cell? ⟨w.heap.size, 3, none⟩ = some (.int .i64 0) := by rw [cell_of_row _ _ 3 _ _ _ hrow]; rfl
    have z4 : w3.cell? ⟨w.heap.size, 4, none⟩ = some (.int .i64 0) := by rw [cell_of_row _ _ 4 _ _ _ hrow]; rfl
    have z5 : w3.cell? ⟨w.heap.size, 5, none⟩ = some (.string ⟨#[]⟩) := by rw [cell_of_row _ _ 5 _ _ _ hrow]; rfl
    have z6 : w3.cell? ⟨w.heap.size, 6, none⟩ = some (.slice none 0 0) := by rw [cell_of_row _ _ 6 _ _ _ hrow]; rfl
    have fz : ∀ i, w3.frozen? ⟨w.heap.size, i, none⟩ = false := fun i => frozen_of_row _ _ i _ _ hrow
    go_wp2_with fail
    have hR2 := (setCell_row 6 (.slice none 0 0) (setCell_row 5 (.string ⟨#[]⟩) (setCell_row 4 (.int .i64 0) (setCell_row 3 (.int .i64 0) (setCell_row 2 (.int .i64 0) (setCell_row 1 (.bool false) (setCell_row 0 (.int .i64 112) hrow)))))))
    simp only [List.setIfInBounds_toArray, List.set_cons_zero, List.set_cons_succ] at hR2
    have hf8 : Fr (fun q => q = w.heap.size) w3 (((((((w3.setCell ⟨w.heap.size, 0, none⟩ (.int .i64 112)).setCell ⟨w.heap.size, 1, none⟩ (.bool false)).setCell ⟨w.heap.size, 2, none⟩ (.int .i64 0)).setCell ⟨w.heap.size, 3, none⟩ (.int .i64 0)).setCell ⟨w.heap.size, 4, none⟩ (.int .i64 0)).setCell ⟨w.heap.size, 5, none⟩ (.string ⟨#[]⟩)).setCell ⟨w.heap.size, 6, none⟩ (.slice none 0 0)) := ((((((((Fr.refl (fun q => q = w.heap.size) w3).setCell (p := ⟨w.heap.size, 0, none⟩) (.inl rfl) (.int .i64 112)).setCell (p := ⟨w.heap.size, 1, none⟩) (.inl rfl) (.bool false)).setCell (p := ⟨w.heap.size, 2, none⟩) (.inl rfl) (.int .i64 0)).setCell (p := ⟨w.heap.size, 3, none⟩) (.inl rfl) (.int .i64 0)).setCell (p := ⟨w.heap.size, 4, none⟩) (.inl rfl) (.int .i64 0)).setCell (p := ⟨w.heap.size, 5, none⟩) (.inl rfl) (.string ⟨#[]⟩)).setCell (p := ⟨w.heap.size, 6, none⟩) (.inl rfl) (.slice none 0 0))
    refine bodyPost_ret (results_cell_row rfl _ _ (w.heap.size) _ _ _ _ rfl hR2 Tryz.underlying46 rfl (by kernel_rfl)) rfl ?_
    exact ⟨by rw [HX.out]; rfl, (HF3.out).trans hf8 (fun _ _ => id) (fun q hq e => by omega)⟩
  have hd1 : ¬ (40 : Int) < depL l := by omega
  have HX := hid (show pv = fltAt (pVals 7 l) by rw [HPV.out, if_neg HBIG.out, if_neg hdeep])
  have HW2 := hid (HW.out HBIG.out)
  clear hdeep HW
  go_wp2_with fail
  go_loopw [3] (fun i wr => ∃ k : Nat, k ≤ l.length ∧ i = .int .i64 k ∧ Hid (pVals 7 l = pVals 7 (l.drop k)) ∧ Fr (fun _ => False) w2 wr) (fun i _ => l.length - (intOf i).toNat)
  case atStart => exact ⟨0, Nat.zero_le _, rfl, hid rfl, Fr.refl _ _⟩
  case round =>
    obtain ⟨k, hk, rfl, HS, hf⟩ := hrel
    have HFW := hid (HF2.out.trans' hf); have HFR := hid hf; have HRR := hid (hf.heap HR2.out not_false)
    clear hf
    by_cases hlt : k < l.length
    · have hlt' : (k : Int) < l.length := by omega
      obtain ⟨b, o, y, yva, c1, a', c', rfl, -, hy, hv, e0, e1, e2, e3, e4, e5, e6, e7⟩ := NL.elem HB.out HI.out k hlt
      replace e0 := HFW.out.cell e0 not_false
      replace e1 := HFW.out.cell e1 not_false
      replace e2 := HFW.out.cell e2 not_false
      replace e3 := HFW.out.cell e3 not_false
      replace e4 := HFW.out.cell e4 not_false
      replace e5 := HFW.out.cell e5 not_false
      replace e6 := HFW.out.cell e6 not_false
      replace e7 := HFW.out.cell e7 not_false
      have HST := hid (pVals_step (role := 7) hy)
      have HOD := hid (HW2.out k y hy wr _ (hv.frame HFW.out fun _ _ => not_false))
      obtain ⟨q9, hq9⟩ : ∃ q9, pWalk y 7 false = q9 := ⟨_, rfl⟩
      rw [hq9] at HST HOD
      have HST := hid HST.out
      obtain ⟨fc, fp, fl, hfq, hfc, hfx⟩ : ∃ (fc : Int) (fp : Bool) (fl : Int), faultQ q9 = faultV fc fp fl ∧ ((fc != 0) = false ↔ q9.1 = 0) ∧ faultF (fltAt q9) = faultV fc fp fl := by
        rw [← faultQ_eq]
        by_cases hz : q9.1 = 0
        · exact ⟨0, false, 0, if_pos hz, by simp [hz], if_pos hz⟩
        · exact ⟨q9.1, true, q9.2, if_neg hz, by simp [hz], if_neg hz⟩
      rw [hfq] at HOD
      have HFC := hid hfc; have HFX := hid hfx
      clear hv hy hq9 hfq hfc hfx
      unfold faultV at HOD
      go_wp2_with fail
      refine HOD.out.mono ?_
      rintro e w8 ⟨rfl, hf8⟩
      have HF8 := hid (HFR.out.trans' hf8); have HFW8 := hid (HFW.out.trans' hf8); have HR8 := hid (hf8.heap HRR.out not_false)
      clear hf8 e0 e1 e2 e3 e4 e5 e6 e7
      have hf9 := (Fr.refl (fun _ => False) w8).alloc (.cells #[.int .i64 fc, .bool fp, .int .i64 fl, .int .i64 0, .int .i64 0, .string ⟨#[]⟩, .slice none 0 0] 46)
      have HGX := hid (heap_alloc_new w8 (.cells #[.int .i64 fc, .bool fp, .int .i64 fl, .int .i64 0, .int .i64 0, .string ⟨#[]⟩, .slice none 0 0] 46))
      have HF9 := hid (HF8.out.trans' hf9); have HFW9 := hid (HFW8.out.trans' hf9); have HR9 := hid (hf9.heap HR8.out not_false)
      clear hf9
      go_upto_region 9 with fail
      generalize hW9 : w8.alloc (.cells #[.int .i64 fc, .bool fp, .int .i64 fl, .int .i64 0, .int .i64 0, .string ⟨#[]⟩, .slice none 0 0] 46) = w9 at *
      obtain ⟨g, hg⟩ : ∃ g, w8.heap.size = g := ⟨_, rfl⟩
      rw [hg] at HGX ⊢
      clear hW9 hg
      have y0 : w9.cell? ⟨g, 0, none⟩ = some (.int .i64 fc) := by rw [cell_of_row _ _ 0 _ _ _ HGX.out]; rfl
      have y1 : w9.cell? ⟨g, 1, none⟩ = some (.bool fp) := by rw [cell_of_row _ _ 1 _ _ _ HGX.out]; rfl
      have y2 : w9.cell? ⟨g, 2, none⟩ = some (.int .i64 fl) := by rw [cell_of_row _ _ 2 _ _ _ HGX.out]; rfl
      have y3 : w9.cell? ⟨g, 3, none⟩ = some (.int .i64 0) := by rw [cell_of_row _ _ 3 _ _ _ HGX.out]; rfl
      have y4 : w9.cell? ⟨g, 4, none⟩ = some (.int .i64 0) := by rw [cell_of_row _ _ 4 _ _ _ HGX.out]; rfl
      have y5 : w9.cell? ⟨g, 5, none⟩ = some (.string ⟨#[]⟩) := by rw [cell_of_row _ _ 5 _ _ _ HGX.out]; rfl
      have y6 : w9.cell? ⟨g, 6, none⟩ = some (.slice none 0 0) := by rw [cell_of_row _ _ 6 _ _ _ HGX.out]; rfl
      by_cases hz9 : q9.1 = 0
      · have hfc0 := HFC.out.2 hz9
        have HS2 := hid (show pVals 7 l = pVals 7 (l.drop (k + 1)) by rw [HS.out, HST.out, if_pos hz9])
        clear hz9
        go_wp2_with fail
        go_roundw
        case rel => exact ⟨k + 1, by omega, by go_num, HS2, HF9.out⟩
        case measure => simp [intOf]; omega
      · have hfc0 : (fc != 0) = true := by
          cases h : (fc != 0)
          · exact absurd (HFC.out.1 h) hz9
          · rfl
        have HS2 := hid (show faultF pv = faultV fc fp fl by rw [HX.out, HS.out, HST.out, if_neg hz9, HFX.out])
        clear hz9
        have hrow := HR9.out
        have z0 : w9.cell? ⟨w.heap.size, 0, none⟩ = some (.int .i64 0) := by rw [cell_of_row _ _ 0 _ _ _ hrow]; rfl
        have z1 : w9.cell? ⟨w.heap.size, 1, none⟩ = some (.bool false) := by rw [cell_of_row _ _ 1 _ _ _ hrow]; rfl
        have z2 : w9.cell? ⟨w.heap.size, 2, none⟩ = some (.int .i64 0) := by rw [cell_of_row _ _ 2 _ _ _ hrow]; rfl
        have z3 : w9.cell? ⟨w.heap.size, 3, none⟩ = some (.int .i64 0) := by rw [cell_of_row _ _ 3 _ _ _ hrow]; rfl
        have z4 : w9.cell? ⟨w.heap.size, 4, none⟩ = some (.int .i64 0) := by rw [cell_of_row _ _ 4 _ _ _ hrow]; rfl
        have z5 : w9.cell? ⟨w.heap.size, 5, none⟩ = some (.string ⟨#[]⟩) := by rw [cell_of_row _ _ 5 _ _ _ hrow]; rfl
        have z6 : w9.cell? ⟨w.heap.size, 6, none⟩ = some (.slice none 0 0) := by rw [cell_of_row _ _ 6 _ _ _ hrow]; rfl
        have fz : ∀ i, w9.frozen? ⟨w.heap.size, i, none⟩ = false := fun i => frozen_of_row _ _ i _ _ hrow
        go_wp2_with fail
        have hR2 := (setCell_row 6 (.slice none 0 0) (setCell_row 5 (.string ⟨#[]⟩) (setCell_row 4 (.int .i64 0) (setCell_row 3 (.int .i64 0) (setCell_row 2 (.int .i64 fl) (setCell_row 1 (.bool fp) (setCell_row 0 (.int .i64 fc) hrow)))))))
        simp only [List.setIfInBounds_toArray, List.set_cons_zero, List.set_cons_succ] at hR2
        have hf8 : Fr (fun q => q = w.heap.size) w9 (((((((w9.setCell ⟨w.heap.size, 0, none⟩ (.int .i64 fc)).setCell ⟨w.heap.size, 1, none⟩ (.bool fp)).setCell ⟨w.heap.size, 2, none⟩ (.int .i64 fl)).setCell ⟨w.heap.size, 3, none⟩ (.int .i64 0)).setCell ⟨w.heap.size, 4, none⟩ (.int .i64 0)).setCell ⟨w.heap.size, 5, none⟩ (.string ⟨#[]⟩)).setCell ⟨w.heap.size, 6, none⟩ (.slice none 0 0)) := ((((((((Fr.refl (fun q => q = w.heap.size) w9).setCell (p := ⟨w.heap.size, 0, none⟩) (.inl rfl) (.int .i64 fc)).setCell (p := ⟨w.heap.size, 1, none⟩) (.inl rfl) (.bool fp)).setCell (p := ⟨w.heap.size, 2, none⟩) (.inl rfl) (.int .i64 fl)).setCell (p := ⟨w.heap.size, 3, none⟩) (.inl rfl) (.int .i64 0)).setCell (p := ⟨w.heap.size, 4, none⟩) (.inl rfl) (.int .i64 0)).setCell (p := ⟨w.heap.size, 5, none⟩) (.inl rfl) (.string ⟨#[]⟩)).setCell (p := ⟨w.heap.size, 6, none⟩) (.inl rfl) (.slice none 0 0))
        refine bodyPost_ret (results_cell_row rfl _ _ (w.heap.size) _ _ _ _ rfl hR2 Tryz.underlying46 rfl (by kernel_rfl)) rfl ?_
        exact ⟨by rw [HS2.out]; rfl, (HFW9.out).trans hf8 (fun _ _ => id) (fun q hq e => by omega)⟩
    · obtain rfl : k = l.length := by omega
      have HQ0 := hid (show faultF pv = faultV 0 false 0 by rw [HX.out, HS.out, List.drop_length]; rfl)
      have HNN := hid (none_any wr)
      go_wp2_with fail
      refine HNN.out.mono ?_
      rintro e w9 ⟨rfl, hf9⟩
      unfold bareV
      have hrow := hf9.heap HRR.out not_false
      have HF9 := hid (HFW.out.trans' hf9)
      clear hf9
      have z0 : w9.cell? ⟨w.heap.size, 0, none⟩ = some (.int .i64 0) := by rw [cell_of_row _ _ 0 _ _ _ hrow]; rfl
      have z1 : w9.cell? ⟨w.heap.size, 1, none⟩ = some (.bool false) := by rw [cell_of_row _ _ 1 _ _ _ hrow]; rfl
      have z2 : w9.cell? ⟨w.heap.size, 2, none⟩ = some (.int .i64 0) := by rw [cell_of_row _ _ 2 _ _ _ hrow]; rfl
      have z3 : w9.cell? ⟨w.heap.size, 3, none⟩ = some (.int .i64 0) := by rw [cell_of_row _ _ 3 _ _ _ hrow]; rfl
      have z4 : w9.cell? ⟨w.heap.size, 4, none⟩ = some (.int .i64 0) := by rw [cell_of_row _ _ 4 _ _ _ hrow]; rfl
      have z5 : w9.cell? ⟨w.heap.size, 5, none⟩ = some (.string ⟨#[]⟩) := by rw [cell_of_row _ _ 5 _ _ _ hrow]; rfl
      have z6 : w9.cell? ⟨w.heap.size, 6, none⟩ = some (.slice none 0 0) := by rw [cell_of_row _ _ 6 _ _ _ hrow]; rfl
      have fz : ∀ i, w9.frozen? ⟨w.heap.size, i, none⟩ = false := fun i => frozen_of_row _ _ i _ _ hrow
      go_wp2_with fail
      have hR2 := (setCell_row 6 (.slice none 0 0) (setCell_row 5 (.string ⟨#[]⟩) (setCell_row 4 (.int .i64 0) (setCell_row 3 (.int .i64 0) (setCell_row 2 (.int .i64 0) (setCell_row 1 (.bool false) (setCell_row 0 (.int .i64 0) hrow)))))))
      simp only [List.setIfInBounds_toArray, List.set_cons_zero, List.set_cons_succ] at hR2
      have hf8 : Fr (fun q => q = w.heap.size) w9 (((((((w9.setCell ⟨w.heap.size, 0, none⟩ (.int .i64 0)).setCell ⟨w.heap.size, 1, none⟩ (.bool false)).setCell ⟨w.heap.size, 2, none⟩ (.int .i64 0)).setCell ⟨w.heap.size, 3, none⟩ (.int .i64 0)).setCell ⟨w.heap.size, 4, none⟩ (.int .i64 0)).setCell ⟨w.heap.size, 5, none⟩ (.string ⟨#[]⟩)).setCell ⟨w.heap.size, 6, none⟩ (.slice none 0 0)) := ((((((((Fr.refl (fun q => q = w.heap.size) w9).setCell (p := ⟨w.heap.size, 0, none⟩) (.inl rfl) (.int .i64 0)).setCell (p := ⟨w.heap.size, 1, none⟩) (.inl rfl) (.bool false)).setCell (p := ⟨w.heap.size, 2, none⟩) (.inl rfl) (.int .i64 0)).setCell (p := ⟨w.heap.size, 3, none⟩) (.inl rfl) (.int .i64 0)).setCell (p := ⟨w.heap.size, 4, none⟩) (.inl rfl) (.int .i64 0)).setCell (p := ⟨w.heap.size, 5, none⟩) (.inl rfl) (.string ⟨#[]⟩)).setCell (p := ⟨w.heap.size, 6, none⟩) (.inl rfl) (.slice none 0 0))
      refine bodyPost_ret (results_cell_row rfl _ _ (w.heap.size) _ _ _ _ rfl hR2 Tryz.underlying46 rfl (by kernel_rfl)) rfl ?_
      exact ⟨by rw [HQ0.out]; rfl, (HF9.out).trans hf8 (fun _ _ => id) (fun q hq e => by omega)⟩
end
section
open Go.RowKit

mutual
def V.few : V → Nat → Nat → Option Nat
  | .mk _ _ s l, left, deep => if left < 1 + s.size / 16 ∨ 60 < deep then none else fewL l (left - (1 + s.size / 16)) (deep + 1)
def fewL : List V → Nat → Nat → Option Nat
  | [], left, _ => some left
  | x :: r, left, deep => match V.few x left deep with
    | none => none
    | some n => fewL r n deep
end
theorem V.few_eq (x : V) (left deep : Nat) : x.few left deep = if left < 1 + x.s.size / 16 ∨ 60 < deep then none else fewL x.l (left - (1 + x.s.size / 16)) (deep + 1) := by
  cases x; simp only [V.few, V.s, V.l]; rfl
theorem fewL_drop (l : List V) (k left deep : Nat) (x : V) (h : l[k]? = some x) : fewL (l.drop k) left deep = match x.few left deep with
    | none => none
    | some n => fewL (l.drop (k + 1)) n deep := by
  have hk := (List.getElem?_eq_some_iff.1 h).1
  rw [List.drop_eq_getElem_cons hk]
  have : l[k] = x := (List.getElem?_eq_some_iff.1 h).2
  rw [this, fewL]
mutual
theorem V.few_le : ∀ (x : V) (left deep n : Nat), x.few left deep = some n → n ≤ left
  | .mk k n s l, left, deep, m, h => by
    simp only [V.few] at h
    split at h
    · cases h
    · have := fewL_le l _ _ _ h
      omega
theorem fewL_le : ∀ (l : List V) (left deep n : Nat), fewL l left deep = some n → n ≤ left
  | [], left, deep, n, h => by simp [fewL] at h; omega
  | x :: r, left, deep, n, h => by
    simp only [fewL] at h
    split at h
    · cases h
    · rename_i m hm
      have h1 := V.few_le x left deep m hm
      have h2 := fewL_le r m deep n h
      omega
end
def fewI : Option Nat → Int
  | none => -1
  | some n => n

mutual
theorem V.odd_few : ∀ (x : V) (deep sz : Nat), (x.odd deep sz).1 = 0 → sz ≤ (x.odd deep sz).2 ∧ (x.odd deep sz).2 ≤ 4096 ∧ ∀ left d, d + 1 = deep → (x.odd deep sz).2 ≤ left + sz → ∃ n, x.few left d = some n ∧ left + sz ≤ n + (x.odd deep sz).2
  | .mk k n s l, deep, sz, h => by
    have ih := oddL_few l (deep + 1) (oddSize k s sz)
    simp only [V.odd] at h ⊢
    by_cases h1 : 40 < deep
    · simp [h1] at h
    simp only [if_neg h1] at h ⊢
    by_cases h2 : 4096 < oddSize k s sz
    · simp [h2] at h
    simp only [if_neg h2] at h ⊢
    cases h3 : oddRange k n
    case true => simp [h3] at h
    simp only [h3, Bool.false_eq_true, if_false] at h ⊢
    cases h4 : oddShape k n s l.isEmpty
    case true => simp [h4] at h
    simp only [h4, Bool.false_eq_true, if_false] at h ⊢
    have hc : sz + 1 + s.size / 16 ≤ oddSize k s sz := by
      unfold oddSize
      by_cases hk : k = 2
      · rw [if_pos hk]; omega
      · rw [if_neg hk]
        have : s.size = 0 := by
          cases h5 : (s.size != 0)
          · exact bne_eq_false_iff_eq.1 h5
          · have hk2 : (k != 2) = true := bne_iff_ne.2 hk
            unfold oddShape at h4
            rw [hk2, h5] at h4
            simp at h4
        omega
    obtain ⟨i1, i2, i3⟩ := ih (by omega) h
    refine ⟨by omega, i2, fun left d hd hl => ?_⟩
    simp only [V.few]
    rw [if_neg (by omega)]
    obtain ⟨m, hm, hle⟩ := i3 (left - (1 + s.size / 16)) (d + 1) (by omega) (by omega)
    exact ⟨m, hm, by omega⟩
theorem oddL_few : ∀ (l : List V) (deep sz : Nat), sz ≤ 4096 → (oddL l deep sz).1 = 0 → sz ≤ (oddL l deep sz).2 ∧ (oddL l deep sz).2 ≤ 4096 ∧ ∀ left d, d + 1 = deep → (oddL l deep sz).2 ≤ left + sz → ∃ n, fewL l left d = some n ∧ left + sz ≤ n + (oddL l deep sz).2
  | [], deep, sz, hz, h => by
    simp only [oddL, fewL]
    exact ⟨Nat.le_refl _, hz, fun left d _ _ => ⟨left, rfl, Nat.le_refl _⟩⟩
  | x :: r, deep, sz, hz, h => by
    simp only [oddL] at h ⊢
    by_cases h0 : (x.odd deep sz).1 = 0
    · rw [if_pos h0] at h ⊢
      obtain ⟨a1, a2, a3⟩ := V.odd_few x deep sz h0
      obtain ⟨b1, b2, b3⟩ := oddL_few r deep _ a2 h
      refine ⟨by omega, b2, fun left d hd hl => ?_⟩
      obtain ⟨n, hn, hn2⟩ := a3 left d hd (by omega)
      obtain ⟨m, hm, hm2⟩ := b3 n d hd (by omega)
      refine ⟨m, ?_, by omega⟩
      simp only [fewL, hn]
      exact hm
    · rw [if_neg h0] at h
      exact absurd h h0
end
theorem small_of_valid {x : V} (h : x.valid = 0) : ∃ n, x.few 6000 0 = some n := by
  obtain ⟨h1, h2, h3⟩ := V.odd_few x 1 0 h
  obtain ⟨n, hn, _⟩ := h3 6000 0 rfl (by omega)
  exact ⟨n, hn⟩

set_option maxHeartbeats 1600000 in
theorem few_any : ∀ (N : Nat) (x : V), x.size ≤ N → ∀ (D : Nat → Prop) (w : World) (u : Array Value) (left deep : Nat), VIn D w x u → x.size ≤ 1099511627776 → left ≤ 1099511627776 → deep ≤ 61 →
    Calls Tryz.prog 68 #[.agg u, .int .i64 left, .int .i64 deep] w fun e w' => e = .returned (.int .i64 (fewI (x.few left deep))) ∧ Fr (fun _ => False) w w' := by
  intro N
  induction N with
  | zero =>
    intro x h
    rw [V.size_eq] at h
    omega
  | succ N ih =>
    intro x hN D w u left deep h hM hz hd
    have hs := V.size_eq x
    rw [V.few_eq]
    obtain ⟨v, rfl, a, cap, us, rfl, hc, hm, hn, hb, hi⟩ := h.open
    have hlm : x.l.length ≤ 9223372036854775807 := Nat.le_trans hc hm
    have hsm : x.s.size ≤ 1099511627776 := by omega
    generalize x.k = kk at *
    generalize x.n = nn at *
    generalize x.s = ss at *
    generalize x.l = l at *
    obtain ⟨r, hr⟩ : ∃ r, r = fewI (if left < 1 + ss.size / 16 ∨ 60 < deep then none else fewL l (left - (1 + ss.size / 16)) (deep + 1)) := ⟨_, rfl⟩
    rw [← hr]
    have hF : Fr (fun _ => False) w (w.alloc (.cells #[.int .i64 kk, .int .i64 nn, .string ss, .slice a l.length cap] 44)) := (Fr.refl _ _).alloc _
    have hb1 : (w.alloc (.cells #[.int .i64 kk, .int .i64 nn, .string ss, .slice a l.length cap] 44)).heap[w.heap.size]? = some (.cells #[.int .i64 kk, .int .i64 nn, .string ss, .slice a l.length cap] 44) := heap_alloc_new w _
    have d2 : (w.alloc (.cells #[.int .i64 kk, .int .i64 nn, .string ss, .slice a l.length cap] 44)).cell? ⟨w.heap.size, 2, none⟩ = some (.string ss) := by rw [cell_of_row _ _ 2 _ _ _ hb1]; rfl
    have d3 : (w.alloc (.cells #[.int .i64 kk, .int .i64 nn, .string ss, .slice a l.length cap] 44)).cell? ⟨w.heap.size, 3, none⟩ = some (.slice a l.length cap) := by rw [cell_of_row _ _ 3 _ _ _ hb1]; rfl
    have HB := hid hb; have HI := hid hi; have HS := hid hs; have HM := hid hM; have HN := hid hN; have HF := hid hF; have HR := hid hr; have HIH := hid ih; have HD3 := hid d3
    clear hb hi hs hM hN h hn hF hb1 hr ih
    by_cases h1 : (left : Int) - 1 - (ss.size : Int) / 16 < 0
    · have hr : r = -1 := by rw [HR.out, if_pos (by omega)]; rfl
      subst hr
      go_enter Tryz.func68, Tryz.ntmps68
      go_wp2
      go_ret
      exact ⟨rfl, HF.out⟩
    by_cases h2 : (60 : Int) < deep
    · have hr : r = -1 := by rw [HR.out, if_pos (by omega)]; rfl
      subst hr
      go_enter Tryz.func68, Tryz.ntmps68
      go_wp2
      go_ret
      exact ⟨rfl, HF.out⟩
    have hr : r = fewI (fewL l (left - (1 + ss.size / 16)) (deep + 1)) := by rw [HR.out, if_neg (by omega)]
    obtain ⟨z, hz1, hz2⟩ : ∃ z : Nat, (left : Int) - 1 - (ss.size : Int) / 16 = z ∧ z = left - (1 + ss.size / 16) := ⟨left - (1 + ss.size / 16), by omega, rfl⟩
    rw [← hz2] at hr
    have hzl : z ≤ left := by omega
    have HR' := hid hr; have HZ := hid hz1
    clear HR hr hz2 hz1
    go_enter Tryz.func68, Tryz.ntmps68
    go_upto_region 5 with fail
    rw [HZ.out]
    generalize hW1 : w.alloc (.cells #[.int .i64 kk, .int .i64 nn, .string ss, .slice a l.length cap] 44) = W1 at *
    clear hW1 d2
    go_loopw [1, 7] (fun lv i wr => ∃ k zk : Nat, k ≤ l.length ∧ i = .int .i64 k ∧ lv = .int .i64 zk ∧ zk ≤ z ∧ fewL l z (deep + 1) = fewL (l.drop k) zk (deep + 1) ∧ Fr (fun _ => False) W1 wr) (fun _ i _ => l.length - (intOf i).toNat)
    case atStart => exact ⟨0, z, Nat.zero_le _, rfl, rfl, Nat.le_refl _, rfl, Fr.refl _ _⟩
    case round =>
      obtain ⟨k, zk, hk, rfl, rfl, hzk, heq, hf⟩ := hrel
      have d3 := hf.cell HD3.out not_false
      by_cases hlt : k < l.length
      · obtain ⟨b, o, y, a', c', rfl, -, hy, hv, e0, e1, e2, e3⟩ := VL.elem HB.out HI.out k hlt
        have hf0 := HF.out.trans' hf
        replace e0 := hf0.cell e0 not_false
        replace e1 := hf0.cell e1 not_false
        replace e2 := hf0.cell e2 not_false
        replace e3 := hf0.cell e3 not_false
        have hv2 := hv.frame hf0 (fun _ _ => not_false)
        have t2 := sizeL_mem hy
        have hy1 : y.size ≤ N := by have := HS.out; have := HN.out; omega
        have hod := fewL_drop l k zk (deep + 1) y hy
        have hole := fun n => y.few_le zk (deep + 1) n
        have hc := HIH.out y hy1 D wr _ zk (deep + 1) hv2 (by have := HM.out; have := HS.out; omega) (by omega) (by omega)
        rw [hod] at heq
        have HE := hid heq; have HFr := hid hf; have HC := hid hc; have HL := hid hole
        clear hv t2 hf hf0 hv2 hc hy1 hod heq hole hy
        generalize y.few zk (deep + 1) = ry at *
        go_wp2_with fail
        refine HC.out.mono ?_
        rintro e w2 ⟨rfl, hf2⟩
        have HF2 := hid (HFr.out.trans' hf2)
        clear hf2
        cases ry with
        | none =>
          have hrr : r = -1 := by rw [HR'.out, HE.out]; rfl
          subst hrr
          simp only [fewI]
          go_wp2
          go_ret
          exact ⟨rfl, HF.out.trans' HF2.out⟩
        | some n =>
          have hnz := HL.out n rfl
          have hE2 := hid (show fewL l z (deep + 1) = fewL (l.drop (k + 1)) n (deep + 1) from HE.out)
          simp only [fewI]
          go_wp2
          go_roundw
          case rel => exact ⟨k + 1, n, by omega, by go_num, rfl, by omega, hE2.out, HF2.out⟩
          case measure => simp [intOf]; omega
      · go_wp2
        go_ret
        have hrr := HR'.out
        rw [heq, List.drop_of_length_le (by omega), fewL] at hrr
        rw [hrr]
        exact ⟨rfl, HF.out.trans' hf⟩

def V.small (x : V) : Bool := decide (0 ≤ fewI (x.few 6000 0))
theorem V.small_of {x : V} (h : x.valid = 0) : x.small = true := by
  obtain ⟨n, hn⟩ := small_of_valid h
  unfold V.small
  rw [hn]
  simp [fewI]
end
section
open Go.RowKit

theorem fewI_range (x : V) (left deep : Nat) : -1 ≤ fewI (x.few left deep) ∧ fewI (x.few left deep) ≤ left := by
  have h := x.few_le left deep
  cases hr : x.few left deep with
  | none => simp [fewI]
  | some n =>
    have := h n hr
    simp only [fewI]
    omega
set_option maxRecDepth 100000 in
set_option maxHeartbeats 1600000 in
theorem wnodes_any : ∀ (N : Nat) (l : List Nd), cntL l < N → szL l ≤ 1099511627776 → ∀ (left deep : Nat), left ≤ 1099511627776 → deep ≤ 61 → ∀ (D : Nat → Prop) (w : World) (v : Value), NL D w l v →
    Calls Tryz.prog 39 #[v, .int .i64 left, .int .i64 deep] w fun e w' => (∃ r : Int, e = .returned (.int .i64 r) ∧ -1 ≤ r ∧ r ≤ left) ∧ Fr (fun _ => False) w w' := by
  intro N
  induction N with
  | zero =>
    intro l hN
    omega
  | succ N ih =>
    intro l hN hM left deep hz hd D w v h
    have hll := Nat.le_trans (len_le_cnt l) (cntL_szL l)
    obtain ⟨a, cap, us, rfl, hc, hm, hn, hb, hi⟩ := h
    have hlI : (l.length : Int) ≤ 1099511627776 := by omega
    have hdI : (deep : Int) ≤ 61 := by omega
    have HB := hid hb; have HI := hid hi; have HM := hid hM; have HN := hid hN; have HIH := hid ih
    clear hb hi hM hN hn hll hc hm ih
    go_enter Tryz.func39, Tryz.ntmps39
    go_wp2
    go_loopw [1, 7] (fun lv i wr => ∃ k q : Nat, k ≤ l.length ∧ i = .int .i64 k ∧ lv = .int .i64 q ∧ q ≤ left ∧ Fr (fun _ => False) w wr) (fun _ i _ => l.length - (intOf i).toNat)
    case atStart => exact ⟨0, left, Nat.zero_le _, rfl, rfl, Nat.le_refl _, Fr.refl _ _⟩
    case round =>
      obtain ⟨k, q, hk, rfl, rfl, hq, hf⟩ := hrel
      have HF := hid hf
      by_cases hlt : k < l.length
      · obtain ⟨b, o, y, va, c1, a', c', rfl, -, hy, hv, e0, e1, e2, e3, e4, e5, e6, e7⟩ := NL.elem HB.out HI.out k hlt
        have hlt' : (k : Int) < l.length := by omega
        replace e2 := hf.cell e2 not_false
        replace e3 := hf.cell e3 not_false
        replace e4 := hf.cell e4 not_false
        replace e5 := hf.cell e5 not_false
        replace e6 := hf.cell e6 not_false
        replace e7 := hf.cell e7 not_false
        have t2 := cntL_mem hy
        have t3 := szL_mem hy
        have t4 := Nd.cnt_eq y
        have t5 := Nd.sz_eq y
        have hss : (y.s.size : Int) ≤ 1099511627776 := by have := HM.out; omega
        obtain ⟨va2, vl, he, hyv, hyl⟩ := hv.open
        obtain ⟨rfl, rfl⟩ : va2 = .slice va y.v.l.length c1 ∧ vl = .slice a' y.l.length c' := by simp at he; exact ⟨he.1.symm, he.2.symm⟩
        have hvx : VIn D w y.v #[.int .i64 y.v.k, .int .i64 y.v.n, .string y.v.s, .slice va y.v.l.length c1] := by
          have := hyv.close y.v.k y.v.n y.v.s
          have e : y.v = .mk y.v.k y.v.n y.v.s y.v.l := by cases y.v; rfl
          rw [← e] at this; exact this
        have HFW := hid (fun (z : Nat) (hz : z ≤ 1099511627776) => few_any y.v.size y.v (Nat.le_refl _) D wr _ z 0 (hvx.frame hf fun _ _ => not_false) (by have := HM.out; omega) hz (by omega))
        have HNO := hid (fun (w2 : World) (hf2 : Fr (fun _ => False) w w2) (z : Nat) (hz : z ≤ 1099511627776) (hd2 : deep + 1 ≤ 61) => HIH.out y.l (by have := HN.out; omega) (by have := HM.out; omega) z (deep + 1) hz hd2 D w2 _ (hyl.frame hf2 fun _ _ => not_false))
        have HRG := hid (fun z => fewI_range y.v z 0)
        clear t2 t3 t4 t5 hv hyv hyl he hvx hy hf e0 e1
        by_cases h1 : (q : Int) - 1 - (y.s.size : Int) / 16 < 0
        · go_wp2_with fail
          go_ret
          exact ⟨⟨_, rfl, by omega, by omega⟩, HF.out⟩
        by_cases h2 : (60 : Int) < deep
        · go_wp2_with fail
          go_ret
          exact ⟨⟨_, rfl, by omega, by omega⟩, HF.out⟩
        obtain ⟨z, hz1⟩ : ∃ z : Nat, (q : Int) - 1 - (y.s.size : Int) / 16 = z := ⟨((q : Int) - 1 - (y.s.size : Int) / 16).toNat, by omega⟩
        have hzq : z ≤ q := by omega
        have HZ := hid hz1
        obtain ⟨r, hr⟩ : ∃ r, fewI (y.v.few z 0) = r := ⟨_, rfl⟩
        have hrg := HRG.out z
        have HF1 := hid (HFW.out z (by omega))
        rw [hr] at hrg HF1
        obtain ⟨hrg1, hrg2⟩ := hrg
        clear HFW HRG hz1 hr
        go_upto_region 7 with fail
        rw [HZ.out]
        go_wp2_with fail
        refine HF1.out.mono ?_
        rintro e w2 ⟨rfl, hf2⟩
        have HF2 := hid (HF.out.trans' hf2)
        replace e7 := hf2.cell e7 not_false
        clear hf2 e2 e3 e4 e5 e6 h1
        by_cases h3 : r < 0
        · go_wp2_with fail
          go_ret
          exact ⟨⟨_, rfl, by omega, by omega⟩, HF2.out⟩
        obtain ⟨r2, rfl⟩ : ∃ r2 : Nat, r = r2 := ⟨r.toNat, by omega⟩
        have HN2 := hid (HNO.out w2 HF2.out r2 (by omega) (by omega))
        go_wp2_with fail
        refine HN2.out.mono ?_
        rintro e w3 ⟨⟨r3, rfl, h5, h6⟩, hf3⟩
        have HF3 := hid (HF2.out.trans' hf3)
        clear hf3 e7
        by_cases h7 : r3 < 0
        · go_wp2_with fail
          go_ret
          exact ⟨⟨_, rfl, by omega, by omega⟩, HF3.out⟩
        obtain ⟨r4, rfl⟩ : ∃ r4 : Nat, r3 = r4 := ⟨r3.toNat, by omega⟩
        go_wp2_with fail
        go_roundw
        case rel => exact ⟨k + 1, r4, by omega, by go_num, rfl, by omega, HF3.out⟩
        case measure => simp [intOf]; omega
      · obtain rfl : k = l.length := by omega
        go_wp2
        go_ret
        exact ⟨⟨_, rfl, by omega, by omega⟩, HF.out⟩
theorem wNodes_any (l : List Nd) (hM : szL l ≤ 1099511627776) (n : Nat) (hn : n ≤ 1099511627776) (D : Nat → Prop) (w : World) (v : Value) (h : NL D w l v) :
    Calls Tryz.prog 18 #[v, .int .i64 n] w fun e w' => (∃ b : Bool, e = .returned (.bool b)) ∧ Fr (fun _ => False) w w' := by
  have HC := hid (wnodes_any (cntL l + 1) l (by omega) hM n 0 hn (by omega) D w v h)
  obtain ⟨a, cap, us, rfl, -⟩ := h
  have hnI : (n : Int) ≤ 1099511627776 := by omega
  clear hM hn
  go_enter Tryz.func18, Tryz.ntmps18
  go_wp2_with fail
  refine HC.out.mono ?_
  rintro e w2 ⟨⟨r, rfl, h1, h2⟩, hf2⟩
  go_wp2_with fail
  go_ret
  exact ⟨⟨_, rfl⟩, hf2⟩
end
section
/-- A number's k bytes, the lowest first. -/
def leN (n k : Nat) : List UInt8 := (List.range k).map fun i => UInt8.ofNat (n / 2 ^ (8 * i))
def deN : List UInt8 → Nat
  | [] => 0
  | b :: r => b.toNat + 256 * deN r
/-- A signed number's word, and back. -/
def uI (n : Int) : Nat := (n % 18446744073709551616).toNat
def sI (u : Nat) : Int := if u < 9223372036854775808 then (u : Int) else (u : Int) - 18446744073709551616
def encI (n : Int) : List UInt8 := leN (uI n) 8
def encS (s : ByteArray) : List UInt8 := leN s.size 4 ++ s.data.toList
/-- A value that is no list. -/
def encV (v : V) : List UInt8 := leN (uI v.k) 1 ++ if v.k = 2 then encS v.s else encI v.n
mutual
def encN : Nd → List UInt8
  | .mk op ln s v l => leN (uI op) 1 ++ (encI ln ++ (encS s ++ (encV v ++ (leN l.length 4 ++ encNs l))))
def encNs : List Nd → List UInt8
  | [] => []
  | x :: r => encN x ++ encNs r
end
/-- A program's bytes. -/
def encL (l : List Nd) : List UInt8 := leN l.length 4 ++ encNs l
/-- Where a reader stands, and whether nothing is amiss. -/
structure RS where
  at_ : Nat
  ok : Bool
def RS.fail (s : RS) : RS := ⟨s.at_, false⟩
variable (B : List UInt8)
def rNum (k : Nat) (s : RS) : Nat × RS := if s.ok = false ∨ B.length < s.at_ + k then (0, s.fail) else (deN ((B.drop s.at_).take k), ⟨s.at_ + k, true⟩)
def rMany (most : Int) (s : RS) : Nat × RS :=
  let r := rNum B 4 s
  if r.2.ok = false ∨ (0 ≤ most ∧ most < (r.1 : Int)) then (0, r.2.fail) else r
def rText (most : Int) (s : RS) : ByteArray × RS :=
  let r := rMany B most s
  if r.2.ok = false ∨ B.length < r.2.at_ + r.1 then (⟨#[]⟩, r.2.fail) else (⟨((B.drop r.2.at_).take r.1).toArray⟩, ⟨r.2.at_ + r.1, true⟩)
def rLoop {σ α : Type} (ok : σ → Bool) (f : σ → α × σ) : Nat → σ → List α × σ
  | 0, s => ([], s)
  | n + 1, s => if ok s = false then ([], s) else ((f s).1 :: (rLoop ok f n (f s).2).1, (rLoop ok f n (f s).2).2)
def rVal : Nat → RS → V × RS
  | 0, s => (.mk 0 0 ⟨#[]⟩ [], s.fail)
  | d + 1, s =>
    let r := rNum B 1 s
    if r.1 = 0 ∨ r.1 = 1 ∨ r.1 = 3 then (.mk r.1 (sI (rNum B 8 r.2).1) ⟨#[]⟩ [], (rNum B 8 r.2).2)
    else if r.1 = 2 then (.mk 2 0 (rText B 4096 r.2).1 [], (rText B 4096 r.2).2)
    else if r.1 = 4 then (.mk 4 0 ⟨#[]⟩ (rLoop RS.ok (rVal d) (rMany B 4096 r.2).1 (rMany B 4096 r.2).2).1, (rLoop RS.ok (rVal d) (rMany B 4096 r.2).1 (rMany B 4096 r.2).2).2)
    else (.mk r.1 0 ⟨#[]⟩ [], r.2.fail)
/-- What is left, and where it stands. -/
structure NS where
  lf : Int
  s : RS
def NS.ok (t : NS) : Bool := t.s.ok
def rNode (f : NS → List Nd × NS) (t : NS) : Nd × NS :=
  let a := rNum B 1 t.s
  let b := rNum B 8 a.2
  let c := rText B 32 b.2
  let d := rVal B 40 c.2
  let e := f ⟨t.lf - 1, d.2⟩
  (.mk a.1 (sI b.1) c.1 d.1 e.1, e.2)
def rNds : Nat → NS → List Nd × NS
  | 0, t => ([], ⟨t.lf, t.s.fail⟩)
  | d + 1, t => rLoop NS.ok (rNode B (rNds d)) (rMany B t.lf t.s).1 ⟨t.lf, (rMany B t.lf t.s).2⟩

variable {B}
/-- A value that can be laid: no list, in its bounds. -/
def fitV (v : V) : Prop := v.l = [] ∧ (((v.k = 0 ∨ v.k = 1 ∨ v.k = 3) ∧ v.s = ⟨#[]⟩ ∧ -9223372036854775808 ≤ v.n ∧ v.n < 9223372036854775808) ∨ (v.k = 2 ∧ v.n = 0 ∧ v.s.size ≤ 4096))
/-- A node that can be laid. -/
inductive FitN : Nd → Prop where
  | mk (op ln : Int) (s : ByteArray) (v : V) (l : List Nd) (h1 : 0 ≤ op ∧ op < 256) (h2 : -9223372036854775808 ≤ ln ∧ ln < 9223372036854775808) (h3 : s.size ≤ 32) (h4 : fitV v) (h5 : ∀ y ∈ l, FitN y) : FitN (.mk op ln s v l)
end
section
/-- One step of the register. -/
def zs (c : BitVec 32) : BitVec 32 := if c.getLsbD 0 then (c >>> 1) ^^^ 0xedb88320#32 else c >>> 1
def it (f : BitVec 32 → BitVec 32) : Nat → BitVec 32 → BitVec 32
  | 0, c => c
  | n + 1, c => f (it f n c)
/-! The register, bit by bit. -/
def b1 (b : Bool) : BitVec 32 := if b then 1#32 else 0#32
def S (c : BitVec 32) (e : Nat → Bool) : Nat → BitVec 32
  | 0 => c
  | m + 1 => zs (S c e m ^^^ b1 (e m))
/-- The first j bits, as a word. -/
def wd (e : Nat → Bool) : Nat → BitVec 32
  | 0 => 0#32
  | j + 1 => wd e j ^^^ (if e j then 1#32 <<< j else 0#32)
/-! Three bits: by running through the places. -/
def gN (x : Nat) : Nat := if x % 2 == 1 then (x / 2) ^^^ 0xedb88320 else x / 2
def its : Nat → Nat → List Nat
  | 0, _ => []
  | n + 1, x => (x / 2) :: its n (gN x)
def dst : Nat → List Nat → Bool
  | 0, l => match l with | [] => true | [_] => true | _ => false
  | k + 1, l => match l with | [] => true | [_] => true | _ => dst k (l.filter fun x => Nat.testBit x k) && dst k (l.filter fun x => !Nat.testBit x k)
end
section
open Go.RowKit

/-- The sums of four bits. -/
def tabN (k : Nat) : Int := (it zs 4 (BitVec.ofNat 32 k)).toNat
def tabA (n : Nat) : Array Value := ((List.range 16).map fun j => if j < n then Value.int .u32 (tabN j) else .int .u32 0).toArray
@[simp] theorem tabA_size (n : Nat) : (tabA n).size = 16 := by simp [tabA]
/-! The register's numbers as the walk spells them. -/
/-! ### The sum -/
def crcB (c : BitVec 32) (b : UInt8) : BitVec 32 := it zs 8 (c ^^^ BitVec.ofNat 32 b.toNat)
def crc (c : BitVec 32) (l : List UInt8) : BitVec 32 := l.foldl crcB c
def sumB (l : List UInt8) : BitVec 32 := ~~~ (crc 4294967295#32 l)
end
end Go.Proofs.YtbegahbagnflnaaGreatDoor
