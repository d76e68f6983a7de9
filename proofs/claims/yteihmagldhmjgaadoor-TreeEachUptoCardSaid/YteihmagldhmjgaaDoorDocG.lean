/- inglenookref6.Valid, ValidExpr: what the program's valid tells. -/
import Derived.Test.YteihmagldhmjgaaDoorDocF
import Derived.Test.YteihmagldhmjgaaDoorTreeJ
namespace Go.Proofs.YteihmagldhmjgaaDoor
open Go.RowKit

def faultF (f : Flt) : Value := faultV f.c f.p f.l
theorem faultQ_eq (q : Nat × Int) : faultQ q = faultF (fltAt q) := by
  unfold faultQ fltAt
  split <;> rfl
set_option maxRecDepth 100000 in
set_option maxHeartbeats 1000000 in
theorem dvalid_any (l : List Nd) (hz : szL l ≤ 1099511627776) (D : Nat → Prop) (w : World) (v : Value) (h : NL D w l v) :
    Calls Tryd.prog 16 #[v] w fun e w' => e = .returned (faultF (pValid l 7)) ∧ Fr (fun _ => False) w w' := by
  have hcs := cntL_szL l
  have hf0 := (Fr.refl (fun _ => False) w).alloc (.cells #[.int .i64 0, .bool false, .int .i64 0, .int .i64 0, .int .i64 0, .string ⟨#[]⟩, .slice none 0 0] 36)
  have hr0 := heap_alloc_new w (.cells #[.int .i64 0, .bool false, .int .i64 0, .int .i64 0, .int .i64 0, .string ⟨#[]⟩, .slice none 0 0] 36)
  have HTM := hid (dtoomany_any l (by omega) D _ v (h.frame hf0 fun _ _ => not_false))
  have HDP := hid (fun w2 (hf : Fr (fun _ => False) w w2) => ddeep_any (cntL l + 1) l (by omega) (by omega) D w2 v (h.frame hf fun _ _ => not_false))
  have hdc := depL_le' l
  obtain ⟨a, cap, us, rfl, hc, hm, hn, hb, hi⟩ := h
  have HPV := hid (show pValid l 7 = if 4096 < cntL l then ⟨104, false, 0⟩ else if 40 < depL l then ⟨112, false, 0⟩ else fltAt (pVals 7 l) from rfl)
  have hW : ¬ 4096 < cntL l → ∀ (k : Nat) (y : Nd), l[k]? = some y → ∀ (w2 : World) (u : Array Value), NIn D w2 y u → Calls Tryd.prog 43 #[.agg u, .int .i64 9, .bool false] w2 fun e w' => e = .returned (faultQ (pWalk y 7 false)) ∧ Fr (fun _ => False) w2 w' := fun hl k y hy w2 u hn => by
    have h1 := cntL_mem hy
    have h2 := szL_mem hy
    exact dodd_any (y.cnt + 1) y (by omega) (by omega) (by omega) 7 (by decide) (by decide) false D w2 u hn
  have hll : (l.length : Int) ≤ 1099511627776 := by have := len_le_cnt l; omega
  have hdI : (depL l : Int) ≤ 1099511627776 := by omega
  have HW := hid hW; have HB := hid hb; have HI := hid hi; have HF0 := hid hf0; have HR0 := hid hr0
  clear hW hb hi hz hcs hdc hc hm hn hf0 hr0
  generalize pValid l 7 = pv at *
  go_enter Tryd.func16, Tryd.ntmps16
  go_upto_region 1 with fail
  generalize hW0 : w.alloc (.cells #[.int .i64 0, .bool false, .int .i64 0, .int .i64 0, .int .i64 0, .string ⟨#[]⟩, .slice none 0 0] 36) = W0 at *
  clear hW0
  go_wp2_with fail
  refine HTM.out.mono ?_
  rintro e w1 ⟨rfl, hf1⟩
  have HF1 := hid (HF0.out.trans' hf1); have HR1 := hid (hf1.heap HR0.out not_false)
  clear hf1
  by_cases hbig : 4096 < cntL l
  · have HX := hid (show pv = ⟨104, false, 0⟩ by rw [HPV.out, if_pos hbig])
    rw [decide_eq_true hbig]
    clear hbig
    go_wp2_with fail
    refine (bare_any 104 w1).mono ?_
    rintro e w2 ⟨rfl, hf2⟩
    unfold bareV
    have hrow := hf2.heap HR1.out not_false
    have HF2 := hid (HF1.out.trans' hf2)
    clear hf2
    have z0 : w2.cell? ⟨w.heap.size, 0, none⟩ = some (.int .i64 0) := by rw [cell_of_row _ _ 0 _ _ _ hrow]; rfl
    have z1 : w2.cell? ⟨w.heap.size, 1, none⟩ = some (.bool false) := by rw [cell_of_row _ _ 1 _ _ _ hrow]; rfl
    have z2 : w2.cell? ⟨w.heap.size, 2, none⟩ = some (.int .i64 0) := by rw [cell_of_row _ _ 2 _ _ _ hrow]; rfl
    have z3 : w2.cell? ⟨w.heap.size, 3, none⟩ = some (.int .i64 0) := by rw [cell_of_row _ _ 3 _ _ _ hrow]; rfl
    have z4 : w2.cell? ⟨w.heap.size, 4, none⟩ = some (.int .i64 0) := by rw [cell_of_row _ _ 4 _ _ _ hrow]; rfl
    have z5 : w2.cell? ⟨w.heap.size, 5, none⟩ = some (.string ⟨#[]⟩) := by rw [cell_of_row _ _ 5 _ _ _ hrow]; rfl
    have z6 : w2.cell? ⟨w.heap.size, 6, none⟩ = some (.slice none 0 0) := by rw [cell_of_row _ _ 6 _ _ _ hrow]; rfl
    have fz : ∀ i, w2.frozen? ⟨w.heap.size, i, none⟩ = false := fun i => frozen_of_row _ _ i _ _ hrow
    go_wp2_with fail
    have hR2 := (setCell_row 6 (.slice none 0 0) (setCell_row 5 (.string ⟨#[]⟩) (setCell_row 4 (.int .i64 0) (setCell_row 3 (.int .i64 0) (setCell_row 2 (.int .i64 0) (setCell_row 1 (.bool false) (setCell_row 0 (.int .i64 104) hrow)))))))
    simp only [List.setIfInBounds_toArray, List.set_cons_zero, List.set_cons_succ] at hR2
    have hf8 : Fr (fun q => q = w.heap.size) w2 (((((((w2.setCell ⟨w.heap.size, 0, none⟩ (.int .i64 104)).setCell ⟨w.heap.size, 1, none⟩ (.bool false)).setCell ⟨w.heap.size, 2, none⟩ (.int .i64 0)).setCell ⟨w.heap.size, 3, none⟩ (.int .i64 0)).setCell ⟨w.heap.size, 4, none⟩ (.int .i64 0)).setCell ⟨w.heap.size, 5, none⟩ (.string ⟨#[]⟩)).setCell ⟨w.heap.size, 6, none⟩ (.slice none 0 0)) := ((((((((Fr.refl (fun q => q = w.heap.size) w2).setCell (p := ⟨w.heap.size, 0, none⟩) (.inl rfl) (.int .i64 104)).setCell (p := ⟨w.heap.size, 1, none⟩) (.inl rfl) (.bool false)).setCell (p := ⟨w.heap.size, 2, none⟩) (.inl rfl) (.int .i64 0)).setCell (p := ⟨w.heap.size, 3, none⟩) (.inl rfl) (.int .i64 0)).setCell (p := ⟨w.heap.size, 4, none⟩) (.inl rfl) (.int .i64 0)).setCell (p := ⟨w.heap.size, 5, none⟩) (.inl rfl) (.string ⟨#[]⟩)).setCell (p := ⟨w.heap.size, 6, none⟩) (.inl rfl) (.slice none 0 0))
    refine bodyPost_ret (results_cell_row rfl _ _ (w.heap.size) _ _ _ _ rfl hR2 Tryd.underlying36 rfl (by kernel_rfl)) rfl ?_
    exact ⟨by rw [HX.out]; rfl, (HF2.out).trans hf8 (fun _ _ => id) (fun q hq e => by omega)⟩
  rw [decide_eq_false hbig]
  have HBIG := hid hbig
  clear hbig
  go_wp2_with fail
  refine (HDP.out w1 HF1.out).mono ?_
  rintro e w2 ⟨rfl, hf2⟩
  have HF2 := hid (HF1.out.trans' hf2); have HR2 := hid (hf2.heap HR1.out not_false)
  clear hf2
  by_cases hdeep : 40 < depL l
  · have HX := hid (show pv = ⟨112, false, 0⟩ by rw [HPV.out, if_neg HBIG.out, if_pos hdeep])
    have hd1 : (40 : Int) < depL l := by omega
    clear hdeep
    go_wp2_with fail
    refine (bare_any 112 w2).mono ?_
    rintro e w3 ⟨rfl, hf3⟩
    unfold bareV
    have hrow := hf3.heap HR2.out not_false
    have HF3 := hid (HF2.out.trans' hf3)
    clear hf3
    have z0 : w3.cell? ⟨w.heap.size, 0, none⟩ = some (.int .i64 0) := by rw [cell_of_row _ _ 0 _ _ _ hrow]; rfl
    have z1 : w3.cell? ⟨w.heap.size, 1, none⟩ = some (.bool false) := by rw [cell_of_row _ _ 1 _ _ _ hrow]; rfl
    have z2 : w3.cell? ⟨w.heap.size, 2, none⟩ = some (.int .i64 0) := by rw [cell_of_row _ _ 2 _ _ _ hrow]; rfl
    have z3 : w3.cell? ⟨w.heap.size, 3, none⟩ = some (.int .i64 0) := by rw [cell_of_row _ _ 3 _ _ _ hrow]; rfl
    have z4 : w3.cell? ⟨w.heap.size, 4, none⟩ = some (.int .i64 0) := by rw [cell_of_row _ _ 4 _ _ _ hrow]; rfl
    have z5 : w3.cell? ⟨w.heap.size, 5, none⟩ = some (.string ⟨#[]⟩) := by rw [cell_of_row _ _ 5 _ _ _ hrow]; rfl
    have z6 : w3.cell? ⟨w.heap.size, 6, none⟩ = some (.slice none 0 0) := by rw [cell_of_row _ _ 6 _ _ _ hrow]; rfl
    have fz : ∀ i, w3.frozen? ⟨w.heap.size, i, none⟩ = false := fun i => frozen_of_row _ _ i _ _ hrow
    go_wp2_with fail
    have hR2 := (setCell_row 6 (.slice none 0 0) (setCell_row 5 (.string ⟨#[]⟩) (setCell_row 4 (.int .i64 0) (setCell_row 3 (.int .i64 0) (setCell_row 2 (.int .i64 0) (setCell_row 1 (.bool false) (setCell_row 0 (.int .i64 112) hrow)))))))
    simp only [List.setIfInBounds_toArray, List.set_cons_zero, List.set_cons_succ] at hR2
    have hf8 : Fr (fun q => q = w.heap.size) w3 (((((((w3.setCell ⟨w.heap.size, 0, none⟩ (.int .i64 112)).setCell ⟨w.heap.size, 1, none⟩ (.bool false)).setCell ⟨w.heap.size, 2, none⟩ (.int .i64 0)).setCell ⟨w.heap.size, 3, none⟩ (.int .i64 0)).setCell ⟨w.heap.size, 4, none⟩ (.int .i64 0)).setCell ⟨w.heap.size, 5, none⟩ (.string ⟨#[]⟩)).setCell ⟨w.heap.size, 6, none⟩ (.slice none 0 0)) := ((((((((Fr.refl (fun q => q = w.heap.size) w3).setCell (p := ⟨w.heap.size, 0, none⟩) (.inl rfl) (.int .i64 112)).setCell (p := ⟨w.heap.size, 1, none⟩) (.inl rfl) (.bool false)).setCell (p := ⟨w.heap.size, 2, none⟩) (.inl rfl) (.int .i64 0)).setCell (p := ⟨w.heap.size, 3, none⟩) (.inl rfl) (.int .i64 0)).setCell (p := ⟨w.heap.size, 4, none⟩) (.inl rfl) (.int .i64 0)).setCell (p := ⟨w.heap.size, 5, none⟩) (.inl rfl) (.string ⟨#[]⟩)).setCell (p := ⟨w.heap.size, 6, none⟩) (.inl rfl) (.slice none 0 0))
    refine bodyPost_ret (results_cell_row rfl _ _ (w.heap.size) _ _ _ _ rfl hR2 Tryd.underlying36 rfl (by kernel_rfl)) rfl ?_
    exact ⟨by rw [HX.out]; rfl, (HF3.out).trans hf8 (fun _ _ => id) (fun q hq e => by omega)⟩
  have hd1 : ¬ (40 : Int) < depL l := by omega
  have HX := hid (show pv = fltAt (pVals 7 l) by rw [HPV.out, if_neg HBIG.out, if_neg hdeep])
  have HW2 := hid (HW.out HBIG.out)
  clear hdeep HW
  go_wp2_with fail
  go_loopw [3] (fun i wr => ∃ k : Nat, k ≤ l.length ∧ i = .int .i64 k ∧ Hid (pVals 7 l = pVals 7 (l.drop k)) ∧ Fr (fun _ => False) w2 wr) (fun i _ => l.length - (intOf i).toNat)
  case atStart => exact ⟨0, Nat.zero_le _, rfl, hid rfl, Fr.refl _ _⟩
  case round =>
    obtain ⟨k, hk, rfl, HS, hf⟩ := hrel
    have HFW := hid (HF2.out.trans' hf); have HFR := hid hf; have HRR := hid (hf.heap HR2.out not_false)
    clear hf
    by_cases hlt : k < l.length
    · have hlt' : (k : Int) < l.length := by omega
      obtain ⟨b, o, y, yva, c1, a', c', rfl, -, hy, hv, e0, e1, e2, e3, e4, e5, e6, e7⟩ := NL.elem HB.out HI.out k hlt
      replace e0 := HFW.out.cell e0 not_false
      replace e1 := HFW.out.cell e1 not_false
      replace e2 := HFW.out.cell e2 not_false
      replace e3 := HFW.out.cell e3 not_false
      replace e4 := HFW.out.cell e4 not_false
      replace e5 := HFW.out.cell e5 not_false
      replace e6 := HFW.out.cell e6 not_false
      replace e7 := HFW.out.cell e7 not_false
      have HST := hid (pVals_step (role := 7) hy)
      have HOD := hid (HW2.out k y hy wr _ (hv.frame HFW.out fun _ _ => not_false))
      obtain ⟨q9, hq9⟩ : ∃ q9, pWalk y 7 false = q9 := ⟨_, rfl⟩
      rw [hq9] at HST HOD
      have HST := hid HST.out
      obtain ⟨fc, fp, fl, hfq, hfc, hfx⟩ : ∃ (fc : Int) (fp : Bool) (fl : Int), faultQ q9 = faultV fc fp fl ∧ ((fc != 0) = false ↔ q9.1 = 0) ∧ faultF (fltAt q9) = faultV fc fp fl := by
        rw [← faultQ_eq]
        by_cases hz : q9.1 = 0
        · exact ⟨0, false, 0, if_pos hz, by simp [hz], if_pos hz⟩
        · exact ⟨q9.1, true, q9.2, if_neg hz, by simp [hz], if_neg hz⟩
      rw [hfq] at HOD
      have HFC := hid hfc; have HFX := hid hfx
      clear hv hy hq9 hfq hfc hfx
      unfold faultV at HOD
      go_wp2_with fail
      refine HOD.out.mono ?_
      rintro e w8 ⟨rfl, hf8⟩
      have HF8 := hid (HFR.out.trans' hf8); have HFW8 := hid (HFW.out.trans' hf8); have HR8 := hid (hf8.heap HRR.out not_false)
      clear hf8 e0 e1 e2 e3 e4 e5 e6 e7
      have hf9 := (Fr.refl (fun _ => False) w8).alloc (.cells #[.int .i64 fc, .bool fp, .int .i64 fl, .int .i64 0, .int .i64 0, .string ⟨#[]⟩, .slice none 0 0] 36)
      have HGX := hid (heap_alloc_new w8 (.cells #[.int .i64 fc, .bool fp, .int .i64 fl, .int .i64 0, .int .i64 0, .string ⟨#[]⟩, .slice none 0 0] 36))
      have HF9 := hid (HF8.out.trans' hf9); have HFW9 := hid (HFW8.out.trans' hf9); have HR9 := hid (hf9.heap HR8.out not_false)
      clear hf9
      go_upto_region 9 with fail
      generalize hW9 : w8.alloc (.cells #[.int .i64 fc, .bool fp, .int .i64 fl, .int .i64 0, .int .i64 0, .string ⟨#[]⟩, .slice none 0 0] 36) = w9 at *
      obtain ⟨g, hg⟩ : ∃ g, w8.heap.size = g := ⟨_, rfl⟩
      rw [hg] at HGX ⊢
      clear hW9 hg
      have y0 : w9.cell? ⟨g, 0, none⟩ = some (.int .i64 fc) := by rw [cell_of_row _ _ 0 _ _ _ HGX.out]; rfl
      have y1 : w9.cell? ⟨g, 1, none⟩ = some (.bool fp) := by rw [cell_of_row _ _ 1 _ _ _ HGX.out]; rfl
      have y2 : w9.cell? ⟨g, 2, none⟩ = some (.int .i64 fl) := by rw [cell_of_row _ _ 2 _ _ _ HGX.out]; rfl
      have y3 : w9.cell? ⟨g, 3, none⟩ = some (.int .i64 0) := by rw [cell_of_row _ _ 3 _ _ _ HGX.out]; rfl
      have y4 : w9.cell? ⟨g, 4, none⟩ = some (.int .i64 0) := by rw [cell_of_row _ _ 4 _ _ _ HGX.out]; rfl
      have y5 : w9.cell? ⟨g, 5, none⟩ = some (.string ⟨#[]⟩) := by rw [cell_of_row _ _ 5 _ _ _ HGX.out]; rfl
      have y6 : w9.cell? ⟨g, 6, none⟩ = some (.slice none 0 0) := by rw [cell_of_row _ _ 6 _ _ _ HGX.out]; rfl
      by_cases hz9 : q9.1 = 0
      · have hfc0 := HFC.out.2 hz9
        have HS2 := hid (show pVals 7 l = pVals 7 (l.drop (k + 1)) by rw [HS.out, HST.out, if_pos hz9])
        clear hz9
        go_wp2_with fail
        go_roundw
        case rel => exact ⟨k + 1, by omega, by go_num, HS2, HF9.out⟩
        case measure => simp [intOf]; omega
      · have hfc0 : (fc != 0) = true := by
          cases h : (fc != 0)
          · exact absurd (HFC.out.1 h) hz9
          · rfl
        have HS2 := hid (show faultF pv = faultV fc fp fl by rw [HX.out, HS.out, HST.out, if_neg hz9, HFX.out])
        clear hz9
        have hrow := HR9.out
        have z0 : w9.cell? ⟨w.heap.size, 0, none⟩ = some (.int .i64 0) := by rw [cell_of_row _ _ 0 _ _ _ hrow]; rfl
        have z1 : w9.cell? ⟨w.heap.size, 1, none⟩ = some (.bool false) := by rw [cell_of_row _ _ 1 _ _ _ hrow]; rfl
        have z2 : w9.cell? ⟨w.heap.size, 2, none⟩ = some (.int .i64 0) := by rw [cell_of_row _ _ 2 _ _ _ hrow]; rfl
        have z3 : w9.cell? ⟨w.heap.size, 3, none⟩ = some (.int .i64 0) := by rw [cell_of_row _ _ 3 _ _ _ hrow]; rfl
        have z4 : w9.cell? ⟨w.heap.size, 4, none⟩ = some (.int .i64 0) := by rw [cell_of_row _ _ 4 _ _ _ hrow]; rfl
        have z5 : w9.cell? ⟨w.heap.size, 5, none⟩ = some (.string ⟨#[]⟩) := by rw [cell_of_row _ _ 5 _ _ _ hrow]; rfl
        have z6 : w9.cell? ⟨w.heap.size, 6, none⟩ = some (.slice none 0 0) := by rw [cell_of_row _ _ 6 _ _ _ hrow]; rfl
        have fz : ∀ i, w9.frozen? ⟨w.heap.size, i, none⟩ = false := fun i => frozen_of_row _ _ i _ _ hrow
        go_wp2_with fail
        have hR2 := (setCell_row 6 (.slice none 0 0) (setCell_row 5 (.string ⟨#[]⟩) (setCell_row 4 (.int .i64 0) (setCell_row 3 (.int .i64 0) (setCell_row 2 (.int .i64 fl) (setCell_row 1 (.bool fp) (setCell_row 0 (.int .i64 fc) hrow)))))))
        simp only [List.setIfInBounds_toArray, List.set_cons_zero, List.set_cons_succ] at hR2
        have hf8 : Fr (fun q => q = w.heap.size) w9 (((((((w9.setCell ⟨w.heap.size, 0, none⟩ (.int .i64 fc)).setCell ⟨w.heap.size, 1, none⟩ (.bool fp)).setCell ⟨w.heap.size, 2, none⟩ (.int .i64 fl)).setCell ⟨w.heap.size, 3, none⟩ (.int .i64 0)).setCell ⟨w.heap.size, 4, none⟩ (.int .i64 0)).setCell ⟨w.heap.size, 5, none⟩ (.string ⟨#[]⟩)).setCell ⟨w.heap.size, 6, none⟩ (.slice none 0 0)) := ((((((((Fr.refl (fun q => q = w.heap.size) w9).setCell (p := ⟨w.heap.size, 0, none⟩) (.inl rfl) (.int .i64 fc)).setCell (p := ⟨w.heap.size, 1, none⟩) (.inl rfl) (.bool fp)).setCell (p := ⟨w.heap.size, 2, none⟩) (.inl rfl) (.int .i64 fl)).setCell (p := ⟨w.heap.size, 3, none⟩) (.inl rfl) (.int .i64 0)).setCell (p := ⟨w.heap.size, 4, none⟩) (.inl rfl) (.int .i64 0)).setCell (p := ⟨w.heap.size, 5, none⟩) (.inl rfl) (.string ⟨#[]⟩)).setCell (p := ⟨w.heap.size, 6, none⟩) (.inl rfl) (.slice none 0 0))
        refine bodyPost_ret (results_cell_row rfl _ _ (w.heap.size) _ _ _ _ rfl hR2 Tryd.underlying36 rfl (by kernel_rfl)) rfl ?_
        exact ⟨by rw [HS2.out]; rfl, (HFW9.out).trans hf8 (fun _ _ => id) (fun q hq e => by omega)⟩
    · obtain rfl : k = l.length := by omega
      have HQ0 := hid (show faultF pv = faultV 0 false 0 by rw [HX.out, HS.out, List.drop_length]; rfl)
      have HNN := hid (none_any wr)
      go_wp2_with fail
      refine HNN.out.mono ?_
      rintro e w9 ⟨rfl, hf9⟩
      unfold bareV
      have hrow := hf9.heap HRR.out not_false
      have HF9 := hid (HFW.out.trans' hf9)
      clear hf9
      have z0 : w9.cell? ⟨w.heap.size, 0, none⟩ = some (.int .i64 0) := by rw [cell_of_row _ _ 0 _ _ _ hrow]; rfl
      have z1 : w9.cell? ⟨w.heap.size, 1, none⟩ = some (.bool false) := by rw [cell_of_row _ _ 1 _ _ _ hrow]; rfl
      have z2 : w9.cell? ⟨w.heap.size, 2, none⟩ = some (.int .i64 0) := by rw [cell_of_row _ _ 2 _ _ _ hrow]; rfl
      have z3 : w9.cell? ⟨w.heap.size, 3, none⟩ = some (.int .i64 0) := by rw [cell_of_row _ _ 3 _ _ _ hrow]; rfl
      have z4 : w9.cell? ⟨w.heap.size, 4, none⟩ = some (.int .i64 0) := by rw [cell_of_row _ _ 4 _ _ _ hrow]; rfl
      have z5 : w9.cell? ⟨w.heap.size, 5, none⟩ = some (.string ⟨#[]⟩) := by rw [cell_of_row _ _ 5 _ _ _ hrow]; rfl
      have z6 : w9.cell? ⟨w.heap.size, 6, none⟩ = some (.slice none 0 0) := by rw [cell_of_row _ _ 6 _ _ _ hrow]; rfl
      have fz : ∀ i, w9.frozen? ⟨w.heap.size, i, none⟩ = false := fun i => frozen_of_row _ _ i _ _ hrow
      go_wp2_with fail
      have hR2 := (setCell_row 6 (.slice none 0 0) (setCell_row 5 (.string ⟨#[]⟩) (setCell_row 4 (.int .i64 0) (setCell_row 3 (.int .i64 0) (setCell_row 2 (.int .i64 0) (setCell_row 1 (.bool false) (setCell_row 0 (.int .i64 0) hrow)))))))
      simp only [List.setIfInBounds_toArray, List.set_cons_zero, List.set_cons_succ] at hR2
      have hf8 : Fr (fun q => q = w.heap.size) w9 (((((((w9.setCell ⟨w.heap.size, 0, none⟩ (.int .i64 0)).setCell ⟨w.heap.size, 1, none⟩ (.bool false)).setCell ⟨w.heap.size, 2, none⟩ (.int .i64 0)).setCell ⟨w.heap.size, 3, none⟩ (.int .i64 0)).setCell ⟨w.heap.size, 4, none⟩ (.int .i64 0)).setCell ⟨w.heap.size, 5, none⟩ (.string ⟨#[]⟩)).setCell ⟨w.heap.size, 6, none⟩ (.slice none 0 0)) := ((((((((Fr.refl (fun q => q = w.heap.size) w9).setCell (p := ⟨w.heap.size, 0, none⟩) (.inl rfl) (.int .i64 0)).setCell (p := ⟨w.heap.size, 1, none⟩) (.inl rfl) (.bool false)).setCell (p := ⟨w.heap.size, 2, none⟩) (.inl rfl) (.int .i64 0)).setCell (p := ⟨w.heap.size, 3, none⟩) (.inl rfl) (.int .i64 0)).setCell (p := ⟨w.heap.size, 4, none⟩) (.inl rfl) (.int .i64 0)).setCell (p := ⟨w.heap.size, 5, none⟩) (.inl rfl) (.string ⟨#[]⟩)).setCell (p := ⟨w.heap.size, 6, none⟩) (.inl rfl) (.slice none 0 0))
      refine bodyPost_ret (results_cell_row rfl _ _ (w.heap.size) _ _ _ _ rfl hR2 Tryd.underlying36 rfl (by kernel_rfl)) rfl ?_
      exact ⟨by rw [HQ0.out]; rfl, (HF9.out).trans hf8 (fun _ _ => id) (fun q hq e => by omega)⟩
theorem pVals_one (x : Nd) (role : Int) : pVals role [x] = pWalk x role false := by
  rw [pVals]
  split
  · exact (pWalk_zero _ _ _ ‹_›).symm
  · rfl
set_option maxRecDepth 100000 in
set_option maxHeartbeats 1000000 in
theorem dvalidexpr_any (x : Nd) (hz : x.sz ≤ 1099511627776) (D : Nat → Prop) (w : World) (u : Array Value) (h : NIn D w x u) :
    Calls Tryd.prog 18 #[.agg u] w fun e w' => e = .returned (faultF (pValid [x] 0)) ∧ Fr (fun _ => False) w w' := by
  obtain ⟨va', la', rfl, ⟨va, vc, us1, rfl, -⟩, ⟨la, lc, us, rfl, -⟩⟩ := h.open
  have hcs := Nd.cnt_sz x
  have hds := Nd.dep_le x
  have hcn : cntL [x] = x.cnt := by simp [cntL]
  have hdn : depL [x] = x.dep := by simp [depL]
  have hf0 := ((Fr.refl (fun _ => False) w).alloc (.cells #[.int .i64 x.op, .int .i64 x.ln, .string x.s, .int .i64 x.v.k, .int .i64 x.v.n, .string x.v.s, .slice va x.v.l.length vc, .slice la x.l.length lc] 29)).alloc (.cells #[.int .i64 0, .bool false, .int .i64 0, .int .i64 0, .int .i64 0, .string ⟨#[]⟩, .slice none 0 0] 36)
  have hx0 := ((Fr.refl (fun _ => False) (w.alloc (.cells #[.int .i64 x.op, .int .i64 x.ln, .string x.s, .int .i64 x.v.k, .int .i64 x.v.n, .string x.v.s, .slice va x.v.l.length vc, .slice la x.l.length lc] 29))).alloc (.cells #[.int .i64 0, .bool false, .int .i64 0, .int .i64 0, .int .i64 0, .string ⟨#[]⟩, .slice none 0 0] 36)).heap (heap_alloc_new w (.cells #[.int .i64 x.op, .int .i64 x.ln, .string x.s, .int .i64 x.v.k, .int .i64 x.v.n, .string x.v.s, .slice va x.v.l.length vc, .slice la x.l.length lc] 29)) not_false
  have hr0 := heap_alloc_new (w.alloc (.cells #[.int .i64 x.op, .int .i64 x.ln, .string x.s, .int .i64 x.v.k, .int .i64 x.v.n, .string x.v.s, .slice va x.v.l.length vc, .slice la x.l.length lc] 29)) (.cells #[.int .i64 0, .bool false, .int .i64 0, .int .i64 0, .int .i64 0, .string ⟨#[]⟩, .slice none 0 0] 36)
  rw [show (w.alloc (.cells #[.int .i64 x.op, .int .i64 x.ln, .string x.s, .int .i64 x.v.k, .int .i64 x.v.n, .string x.v.s, .slice va x.v.l.length vc, .slice la x.l.length lc] 29)).heap.size = w.heap.size + 1 by simp] at hr0
  have hfa := hf0.alloc (.cells #[.int .i64 x.op, .int .i64 x.ln, .string x.s, .int .i64 x.v.k, .int .i64 x.v.n, .string x.v.s, .slice va x.v.l.length vc, .slice la x.l.length lc] 29)
  have hnl := NL.lit1 (D := fun _ => True) (heap_alloc_new ((w.alloc (.cells #[.int .i64 x.op, .int .i64 x.ln, .string x.s, .int .i64 x.v.k, .int .i64 x.v.n, .string x.v.s, .slice va x.v.l.length vc, .slice la x.l.length lc] 29)).alloc (.cells #[.int .i64 0, .bool false, .int .i64 0, .int .i64 0, .int .i64 0, .string ⟨#[]⟩, .slice none 0 0] 36)) (.cells #[.int .i64 x.op, .int .i64 x.ln, .string x.s, .int .i64 x.v.k, .int .i64 x.v.n, .string x.v.s, .slice va x.v.l.length vc, .slice la x.l.length lc] 29)) trivial ((h.frame hfa fun _ _ => not_false).mono fun _ _ _ => trivial)
  have HTM := hid (dtoomany_any [x] (by omega) _ _ _ hnl)
  have HDP := hid (fun w2 (hf : Fr (fun _ => False) (((w.alloc (.cells #[.int .i64 x.op, .int .i64 x.ln, .string x.s, .int .i64 x.v.k, .int .i64 x.v.n, .string x.v.s, .slice va x.v.l.length vc, .slice la x.l.length lc] 29)).alloc (.cells #[.int .i64 0, .bool false, .int .i64 0, .int .i64 0, .int .i64 0, .string ⟨#[]⟩, .slice none 0 0] 36)).alloc (.cells #[.int .i64 x.op, .int .i64 x.ln, .string x.s, .int .i64 x.v.k, .int .i64 x.v.n, .string x.v.s, .slice va x.v.l.length vc, .slice la x.l.length lc] 29)) w2) => ddeep_any (cntL [x] + 1) [x] (by omega) (by omega) _ w2 _ (hnl.frame hf fun _ _ => not_false))
  have HPV := hid (show pValid [x] 0 = if 4096 < cntL [x] then ⟨104, false, 0⟩ else if 40 < depL [x] then ⟨112, false, 0⟩ else fltAt (pWalk x 0 false) by rw [← pVals_one]; rfl)
  have HW := hid (show ¬ 4096 < cntL [x] → ∀ (w2 : World), Fr (fun _ => False) w w2 → Calls Tryd.prog 43 #[.agg #[.int .i64 x.op, .int .i64 x.ln, .string x.s, .int .i64 x.v.k, .int .i64 x.v.n, .string x.v.s, .slice va x.v.l.length vc, .slice la x.l.length lc], .int .i64 1, .bool false] w2 fun e w' => e = .returned (faultQ (pWalk x 0 false)) ∧ Fr (fun _ => False) w2 w' from fun hl w2 hf => dodd_any (x.cnt + 1) x (by omega) (by omega) hz 0 (by decide) (by decide) false D w2 _ (h.frame hf fun _ _ => not_false))
  have hdI : (depL [x] : Int) ≤ 1099511627776 := by omega
  have HF0 := hid hf0; have HX0 := hid hx0; have HR0 := hid hr0
  have HA0 := hid ((Fr.refl (fun _ => False) ((w.alloc (.cells #[.int .i64 x.op, .int .i64 x.ln, .string x.s, .int .i64 x.v.k, .int .i64 x.v.n, .string x.v.s, .slice va x.v.l.length vc, .slice la x.l.length lc] 29)).alloc (.cells #[.int .i64 0, .bool false, .int .i64 0, .int .i64 0, .int .i64 0, .string ⟨#[]⟩, .slice none 0 0] 36))).alloc (.cells #[.int .i64 x.op, .int .i64 x.ln, .string x.s, .int .i64 x.v.k, .int .i64 x.v.n, .string x.v.s, .slice va x.v.l.length vc, .slice la x.l.length lc] 29))
  clear hf0 hx0 hr0 hfa hnl h hz hcs hds hcn hdn
  generalize pValid [x] 0 = pv at *
  go_enter Tryd.func18, Tryd.ntmps18
  go_upto_region 1 with fail
  generalize hW0 : (w.alloc (.cells #[.int .i64 x.op, .int .i64 x.ln, .string x.s, .int .i64 x.v.k, .int .i64 x.v.n, .string x.v.s, .slice va x.v.l.length vc, .slice la x.l.length lc] 29)).alloc (.cells #[.int .i64 0, .bool false, .int .i64 0, .int .i64 0, .int .i64 0, .string ⟨#[]⟩, .slice none 0 0] 36) = W0 at *
  clear hW0
  have d0 : W0.cell? ⟨w.heap.size, 0, none⟩ = some (.int .i64 x.op) := by rw [cell_of_row _ _ 0 _ _ _ HX0.out]; rfl
  have d1 : W0.cell? ⟨w.heap.size, 1, none⟩ = some (.int .i64 x.ln) := by rw [cell_of_row _ _ 1 _ _ _ HX0.out]; rfl
  have d2 : W0.cell? ⟨w.heap.size, 2, none⟩ = some (.string x.s) := by rw [cell_of_row _ _ 2 _ _ _ HX0.out]; rfl
  have d3 : W0.cell? ⟨w.heap.size, 3, none⟩ = some (.int .i64 x.v.k) := by rw [cell_of_row _ _ 3 _ _ _ HX0.out]; rfl
  have d4 : W0.cell? ⟨w.heap.size, 4, none⟩ = some (.int .i64 x.v.n) := by rw [cell_of_row _ _ 4 _ _ _ HX0.out]; rfl
  have d5 : W0.cell? ⟨w.heap.size, 5, none⟩ = some (.string x.v.s) := by rw [cell_of_row _ _ 5 _ _ _ HX0.out]; rfl
  have d6 : W0.cell? ⟨w.heap.size, 6, none⟩ = some (.slice va x.v.l.length vc) := by rw [cell_of_row _ _ 6 _ _ _ HX0.out]; rfl
  have d7 : W0.cell? ⟨w.heap.size, 7, none⟩ = some (.slice la x.l.length lc) := by rw [cell_of_row _ _ 7 _ _ _ HX0.out]; rfl
  go_wp2_with fail
  refine HTM.out.mono ?_
  rintro e w1 ⟨rfl, hf1⟩
  have hfb := HA0.out.trans' hf1
  replace d0 := hfb.cell d0 not_false
  replace d1 := hfb.cell d1 not_false
  replace d2 := hfb.cell d2 not_false
  replace d3 := hfb.cell d3 not_false
  replace d4 := hfb.cell d4 not_false
  replace d5 := hfb.cell d5 not_false
  replace d6 := hfb.cell d6 not_false
  replace d7 := hfb.cell d7 not_false
  have HF1 := hid (HF0.out.trans' hfb); have HR1 := hid (hfb.heap HR0.out not_false)
  have HDP1 := hid (HDP.out w1 hf1)
  clear hf1 hfb
  by_cases hbig : 4096 < cntL [x]
  · have HX := hid (show pv = ⟨104, false, 0⟩ by rw [HPV.out, if_pos hbig])
    rw [decide_eq_true hbig]
    clear hbig
    go_wp2_with fail
    refine (bare_any 104 w1).mono ?_
    rintro e w2 ⟨rfl, hf2⟩
    unfold bareV
    have hrow := hf2.heap HR1.out not_false
    have HF2 := hid (HF1.out.trans' hf2)
    clear hf2
    have z0 : w2.cell? ⟨w.heap.size + 1, 0, none⟩ = some (.int .i64 0) := by rw [cell_of_row _ _ 0 _ _ _ hrow]; rfl
    have z1 : w2.cell? ⟨w.heap.size + 1, 1, none⟩ = some (.bool false) := by rw [cell_of_row _ _ 1 _ _ _ hrow]; rfl
    have z2 : w2.cell? ⟨w.heap.size + 1, 2, none⟩ = some (.int .i64 0) := by rw [cell_of_row _ _ 2 _ _ _ hrow]; rfl
    have z3 : w2.cell? ⟨w.heap.size + 1, 3, none⟩ = some (.int .i64 0) := by rw [cell_of_row _ _ 3 _ _ _ hrow]; rfl
    have z4 : w2.cell? ⟨w.heap.size + 1, 4, none⟩ = some (.int .i64 0) := by rw [cell_of_row _ _ 4 _ _ _ hrow]; rfl
    have z5 : w2.cell? ⟨w.heap.size + 1, 5, none⟩ = some (.string ⟨#[]⟩) := by rw [cell_of_row _ _ 5 _ _ _ hrow]; rfl
    have z6 : w2.cell? ⟨w.heap.size + 1, 6, none⟩ = some (.slice none 0 0) := by rw [cell_of_row _ _ 6 _ _ _ hrow]; rfl
    have fz : ∀ i, w2.frozen? ⟨w.heap.size + 1, i, none⟩ = false := fun i => frozen_of_row _ _ i _ _ hrow
    go_wp2_with fail
    have hR2 := (setCell_row 6 (.slice none 0 0) (setCell_row 5 (.string ⟨#[]⟩) (setCell_row 4 (.int .i64 0) (setCell_row 3 (.int .i64 0) (setCell_row 2 (.int .i64 0) (setCell_row 1 (.bool false) (setCell_row 0 (.int .i64 104) hrow)))))))
    simp only [List.setIfInBounds_toArray, List.set_cons_zero, List.set_cons_succ] at hR2
    have hf8 : Fr (fun q => q = w.heap.size + 1) w2 (((((((w2.setCell ⟨w.heap.size + 1, 0, none⟩ (.int .i64 104)).setCell ⟨w.heap.size + 1, 1, none⟩ (.bool false)).setCell ⟨w.heap.size + 1, 2, none⟩ (.int .i64 0)).setCell ⟨w.heap.size + 1, 3, none⟩ (.int .i64 0)).setCell ⟨w.heap.size + 1, 4, none⟩ (.int .i64 0)).setCell ⟨w.heap.size + 1, 5, none⟩ (.string ⟨#[]⟩)).setCell ⟨w.heap.size + 1, 6, none⟩ (.slice none 0 0)) := ((((((((Fr.refl (fun q => q = w.heap.size + 1) w2).setCell (p := ⟨w.heap.size + 1, 0, none⟩) (.inl rfl) (.int .i64 104)).setCell (p := ⟨w.heap.size + 1, 1, none⟩) (.inl rfl) (.bool false)).setCell (p := ⟨w.heap.size + 1, 2, none⟩) (.inl rfl) (.int .i64 0)).setCell (p := ⟨w.heap.size + 1, 3, none⟩) (.inl rfl) (.int .i64 0)).setCell (p := ⟨w.heap.size + 1, 4, none⟩) (.inl rfl) (.int .i64 0)).setCell (p := ⟨w.heap.size + 1, 5, none⟩) (.inl rfl) (.string ⟨#[]⟩)).setCell (p := ⟨w.heap.size + 1, 6, none⟩) (.inl rfl) (.slice none 0 0))
    refine bodyPost_ret (results_cell_row rfl _ _ (w.heap.size + 1) _ _ _ _ rfl hR2 Tryd.underlying36 rfl (by kernel_rfl)) rfl ?_
    exact ⟨by rw [HX.out]; rfl, (HF2.out).trans hf8 (fun _ _ => id) (fun q hq e => by omega)⟩
  rw [decide_eq_false hbig]
  have HBIG := hid hbig
  clear hbig
  go_wp2_with fail
  refine HDP1.out.mono ?_
  rintro e w2 ⟨rfl, hf2⟩
  replace d0 := hf2.cell d0 not_false
  replace d1 := hf2.cell d1 not_false
  replace d2 := hf2.cell d2 not_false
  replace d3 := hf2.cell d3 not_false
  replace d4 := hf2.cell d4 not_false
  replace d5 := hf2.cell d5 not_false
  replace d6 := hf2.cell d6 not_false
  replace d7 := hf2.cell d7 not_false
  have HF2 := hid (HF1.out.trans' hf2); have HR2 := hid (hf2.heap HR1.out not_false)
  clear hf2
  by_cases hdeep : 40 < depL [x]
  · have HX := hid (show pv = ⟨112, false, 0⟩ by rw [HPV.out, if_neg HBIG.out, if_pos hdeep])
    have hd1 : (40 : Int) < depL [x] := by omega
    clear hdeep
    go_wp2_with fail
    refine (bare_any 112 w2).mono ?_
    rintro e w3 ⟨rfl, hf3⟩
    unfold bareV
    have hrow := hf3.heap HR2.out not_false
    have HF3 := hid (HF2.out.trans' hf3)
    clear hf3
    have z0 : w3.cell? ⟨w.heap.size + 1, 0, none⟩ = some (.int .i64 0) := by rw [cell_of_row _ _ 0 _ _ _ hrow]; rfl
    have z1 : w3.cell? ⟨w.heap.size + 1, 1, none⟩ = some (.bool false) := by rw [cell_of_row _ _ 1 _ _ _ hrow]; rfl
    have z2 : w3.cell? ⟨w.heap.size + 1, 2, none⟩ = some (.int .i64 0) := by rw [cell_of_row _ _ 2 _ _ _ hrow]; rfl
    have z3 : w3.cell? ⟨w.heap.size + 1, 3, none⟩ = some (.int .i64 0) := by rw [cell_of_row _ _ 3 _ _ _ hrow]; rfl
    have z4 : w3.cell? ⟨w.heap.size + 1, 4, none⟩ = some (.int .i64 0) := by rw [cell_of_row _ _ 4 _ _ _ hrow]; rfl
    have z5 : w3.cell? ⟨w.heap.size + 1, 5, none⟩ = some (.string ⟨#[]⟩) := by rw [cell_of_row _ _ 5 _ _ _ hrow]; rfl
    have z6 : w3.cell? ⟨w.heap.size + 1, 6, none⟩ = some (.slice none 0 0) := by rw [cell_of_row _ _ 6 _ _ _ hrow]; rfl
    have fz : ∀ i, w3.frozen? ⟨w.heap.size + 1, i, none⟩ = false := fun i => frozen_of_row _ _ i _ _ hrow
    go_wp2_with fail
    have hR2 := (setCell_row 6 (.slice none 0 0) (setCell_row 5 (.string ⟨#[]⟩) (setCell_row 4 (.int .i64 0) (setCell_row 3 (.int .i64 0) (setCell_row 2 (.int .i64 0) (setCell_row 1 (.bool false) (setCell_row 0 (.int .i64 112) hrow)))))))
    simp only [List.setIfInBounds_toArray, List.set_cons_zero, List.set_cons_succ] at hR2
    have hf8 : Fr (fun q => q = w.heap.size + 1) w3 (((((((w3.setCell ⟨w.heap.size + 1, 0, none⟩ (.int .i64 112)).setCell ⟨w.heap.size + 1, 1, none⟩ (.bool false)).setCell ⟨w.heap.size + 1, 2, none⟩ (.int .i64 0)).setCell ⟨w.heap.size + 1, 3, none⟩ (.int .i64 0)).setCell ⟨w.heap.size + 1, 4, none⟩ (.int .i64 0)).setCell ⟨w.heap.size + 1, 5, none⟩ (.string ⟨#[]⟩)).setCell ⟨w.heap.size + 1, 6, none⟩ (.slice none 0 0)) := ((((((((Fr.refl (fun q => q = w.heap.size + 1) w3).setCell (p := ⟨w.heap.size + 1, 0, none⟩) (.inl rfl) (.int .i64 112)).setCell (p := ⟨w.heap.size + 1, 1, none⟩) (.inl rfl) (.bool false)).setCell (p := ⟨w.heap.size + 1, 2, none⟩) (.inl rfl) (.int .i64 0)).setCell (p := ⟨w.heap.size + 1, 3, none⟩) (.inl rfl) (.int .i64 0)).setCell (p := ⟨w.heap.size + 1, 4, none⟩) (.inl rfl) (.int .i64 0)).setCell (p := ⟨w.heap.size + 1, 5, none⟩) (.inl rfl) (.string ⟨#[]⟩)).setCell (p := ⟨w.heap.size + 1, 6, none⟩) (.inl rfl) (.slice none 0 0))
    refine bodyPost_ret (results_cell_row rfl _ _ (w.heap.size + 1) _ _ _ _ rfl hR2 Tryd.underlying36 rfl (by kernel_rfl)) rfl ?_
    exact ⟨by rw [HX.out]; rfl, (HF3.out).trans hf8 (fun _ _ => id) (fun q hq e => by omega)⟩
  have hd1 : ¬ (40 : Int) < depL [x] := by omega
  have HX := hid (show faultF pv = faultQ (pWalk x 0 false) by rw [HPV.out, if_neg HBIG.out, if_neg hdeep, faultQ_eq])
  have HOD := hid (HW.out HBIG.out w2 HF2.out)
  obtain ⟨q9, hq9⟩ : ∃ q9, pWalk x 0 false = q9 := ⟨_, rfl⟩
  rw [hq9] at HX HOD
  obtain ⟨fc, fp, fl, hfq⟩ : ∃ (fc : Int) (fp : Bool) (fl : Int), faultQ q9 = faultV fc fp fl := by
    by_cases hz : q9.1 = 0
    · exact ⟨0, false, 0, if_pos hz⟩
    · exact ⟨q9.1, true, q9.2, if_neg hz⟩
  rw [hfq] at HX HOD
  clear hdeep HW hq9 hfq
  unfold faultV at HOD
  go_wp2_with fail
  refine HOD.out.mono ?_
  rintro e w3 ⟨rfl, hf3⟩
  have hrow := hf3.heap HR2.out not_false
  have HF3 := hid (HF2.out.trans' hf3)
  clear hf3 d0 d1 d2 d3 d4 d5 d6 d7
  have z0 : w3.cell? ⟨w.heap.size + 1, 0, none⟩ = some (.int .i64 0) := by rw [cell_of_row _ _ 0 _ _ _ hrow]; rfl
  have z1 : w3.cell? ⟨w.heap.size + 1, 1, none⟩ = some (.bool false) := by rw [cell_of_row _ _ 1 _ _ _ hrow]; rfl
  have z2 : w3.cell? ⟨w.heap.size + 1, 2, none⟩ = some (.int .i64 0) := by rw [cell_of_row _ _ 2 _ _ _ hrow]; rfl
  have z3 : w3.cell? ⟨w.heap.size + 1, 3, none⟩ = some (.int .i64 0) := by rw [cell_of_row _ _ 3 _ _ _ hrow]; rfl
  have z4 : w3.cell? ⟨w.heap.size + 1, 4, none⟩ = some (.int .i64 0) := by rw [cell_of_row _ _ 4 _ _ _ hrow]; rfl
  have z5 : w3.cell? ⟨w.heap.size + 1, 5, none⟩ = some (.string ⟨#[]⟩) := by rw [cell_of_row _ _ 5 _ _ _ hrow]; rfl
  have z6 : w3.cell? ⟨w.heap.size + 1, 6, none⟩ = some (.slice none 0 0) := by rw [cell_of_row _ _ 6 _ _ _ hrow]; rfl
  have fz : ∀ i, w3.frozen? ⟨w.heap.size + 1, i, none⟩ = false := fun i => frozen_of_row _ _ i _ _ hrow
  go_wp2_with fail
  have hR2 := (setCell_row 6 (.slice none 0 0) (setCell_row 5 (.string ⟨#[]⟩) (setCell_row 4 (.int .i64 0) (setCell_row 3 (.int .i64 0) (setCell_row 2 (.int .i64 fl) (setCell_row 1 (.bool fp) (setCell_row 0 (.int .i64 fc) hrow)))))))
  simp only [List.setIfInBounds_toArray, List.set_cons_zero, List.set_cons_succ] at hR2
  have hf8 : Fr (fun q => q = w.heap.size + 1) w3 (((((((w3.setCell ⟨w.heap.size + 1, 0, none⟩ (.int .i64 fc)).setCell ⟨w.heap.size + 1, 1, none⟩ (.bool fp)).setCell ⟨w.heap.size + 1, 2, none⟩ (.int .i64 fl)).setCell ⟨w.heap.size + 1, 3, none⟩ (.int .i64 0)).setCell ⟨w.heap.size + 1, 4, none⟩ (.int .i64 0)).setCell ⟨w.heap.size + 1, 5, none⟩ (.string ⟨#[]⟩)).setCell ⟨w.heap.size + 1, 6, none⟩ (.slice none 0 0)) := ((((((((Fr.refl (fun q => q = w.heap.size + 1) w3).setCell (p := ⟨w.heap.size + 1, 0, none⟩) (.inl rfl) (.int .i64 fc)).setCell (p := ⟨w.heap.size + 1, 1, none⟩) (.inl rfl) (.bool fp)).setCell (p := ⟨w.heap.size + 1, 2, none⟩) (.inl rfl) (.int .i64 fl)).setCell (p := ⟨w.heap.size + 1, 3, none⟩) (.inl rfl) (.int .i64 0)).setCell (p := ⟨w.heap.size + 1, 4, none⟩) (.inl rfl) (.int .i64 0)).setCell (p := ⟨w.heap.size + 1, 5, none⟩) (.inl rfl) (.string ⟨#[]⟩)).setCell (p := ⟨w.heap.size + 1, 6, none⟩) (.inl rfl) (.slice none 0 0))
  refine bodyPost_ret (results_cell_row rfl _ _ (w.heap.size + 1) _ _ _ _ rfl hR2 Tryd.underlying36 rfl (by kernel_rfl)) rfl ?_
  exact ⟨by rw [HX.out]; rfl, (HF3.out).trans hf8 (fun _ _ => id) (fun q hq e => by omega)⟩
end Go.Proofs.YteihmagldhmjgaaDoor
