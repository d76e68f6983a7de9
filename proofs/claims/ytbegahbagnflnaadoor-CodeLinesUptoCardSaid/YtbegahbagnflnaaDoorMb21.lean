/- DocG, Few, WNodes, TurnA, CodeLines, ValRow, NodRow: several texts in one: a claim has at most 60 files -/
import Derived.Test.YtbegahbagnflnaaDoorMb11
import Derived.Test.YtbegahbagnflnaaDoorMb08
import Derived.Test.YtbegahbagnflnaaDoorMb07
import Derived.Test.YtbegahbagnflnaaDoorMb13
import Derived.Test.YtbegahbagnflnaaDoorMb20
import Derived.Test.YtbegahbagnflnaaDoorMb02
import Derived.Test.YtbegahbagnflnaaDoorMb19
import Derived.Test.YtbegahbagnflnaaDoorRows
import Derived.ChangeArms
set_option linter.unusedSimpArgs false
set_option linter.unusedVariables false
set_option linter.unnecessarySimpa false
namespace Go.Proofs.YtbegahbagnflnaaDoor
section
open Go.RowKit

def faultF (f : Flt) : Value := faultV f.c f.p f.l
theorem faultQ_eq (q : Nat × Int) : faultQ q = faultF (fltAt q) := by
  unfold faultQ fltAt
  split <;> rfl
set_option maxRecDepth 100000 in
set_option maxHeartbeats 1000000 in
theorem dvalid_any (l : List Nd) (hz : szL l ≤ 1099511627776) (D : Nat → Prop) (w : World) (v : Value) (h : NL D w l v) :
    Calls Tryd.prog 18 #[v] w fun e w' => e = .returned (faultF (pValid l 7)) ∧ Fr (fun _ => False) w w' := by
  have hcs := cntL_szL l
  have hf0 := (Fr.refl (fun _ => False) w).alloc (.cells #[.int .i64 0, .bool false, .int .i64 0, .int .i64 0, .int .i64 0, .string ⟨#[]⟩, .slice none 0 0] 49)
  have hr0 := heap_alloc_new w (.cells #[.int .i64 0, .bool false, .int .i64 0, .int .i64 0, .int .i64 0, .string ⟨#[]⟩, .slice none 0 0] 49)
  have HTM := hid (dtoomany_any l (by omega) D _ v (h.frame hf0 fun _ _ => not_false))
  have HDP := hid (fun w2 (hf : Fr (fun _ => False) w w2) => ddeep_any (cntL l + 1) l (by omega) (by omega) D w2 v (h.frame hf fun _ _ => not_false))
  have hdc := depL_le' l
  obtain ⟨a, cap, us, rfl, hc, hm, hn, hb, hi⟩ := h
  have HPV := hid (show pValid l 7 = if 4096 < cntL l then ⟨104, false, 0⟩ else if 40 < depL l then ⟨112, false, 0⟩ else fltAt (pVals 7 l) from rfl)
  have hW : ¬ 4096 < cntL l → ∀ (k : Nat) (y : Nd), l[k]? = some y → ∀ (w2 : World) (u : Array Value), NIn D w2 y u → Calls Tryd.prog 33 #[.agg u, .int .i64 9, .bool false] w2 fun e w' => e = .returned (faultQ (pWalk y 7 false)) ∧ Fr (fun _ => False) w2 w' := fun hl k y hy w2 u hn => by
    have h1 := cntL_mem hy
    have h2 := szL_mem hy
    exact dodd_any (y.cnt + 1) y (by omega) (by omega) (by omega) 7 (by decide) (by decide) false D w2 u hn
  have hll : (l.length : Int) ≤ 1099511627776 := by have := len_le_cnt l; omega
  have hdI : (depL l : Int) ≤ 1099511627776 := by omega
  have HW := hid hW; have HB := hid hb; have HI := hid hi; have HF0 := hid hf0; have HR0 := hid hr0
  clear hW hb hi hz hcs hdc hc hm hn hf0 hr0
  generalize pValid l 7 = pv at *
  go_enter Tryd.func18, Tryd.ntmps18
  go_upto_region 1 with fail
  generalize hW0 : w.alloc (.cells #[.int .i64 0, .bool false, .int .i64 0, .int .i64 0, .int .i64 0, .string ⟨#[]⟩, .slice none 0 0] 49) = W0 at *
  clear hW0
  go_wp2_with fail
  refine HTM.out.mono ?_
  rintro e w1 ⟨rfl, hf1⟩
  have HF1 := hid (HF0.out.trans' hf1); have HR1 := hid (hf1.heap HR0.out not_false)
  clear hf1
  by_cases hbig : 4096 < cntL l
  · have HX := hid (show pv = ⟨104, false, 0⟩ by rw [HPV.out, if_pos hbig])
    rw [decide_eq_true hbig]
    clear hbig
    go_wp2_with fail
    refine (bare_any 104 w1).mono ?_
    rintro e w2 ⟨rfl, hf2⟩
    unfold bareV
    have hrow := hf2.heap HR1.out not_false
    have HF2 := hid (HF1.out.trans' hf2)
    clear hf2
    have z0 : w2.cell? ⟨w.heap.size, 0, none⟩ = some (.int .i64 0) := by rw [cell_of_row _ _ 0 _ _ _ hrow]; rfl
    have z1 : w2.cell? ⟨w.heap.size, 1, none⟩ = some (.bool false) := by rw [cell_of_row _ _ 1 _ _ _ hrow]; rfl
    have z2 : w2.cell? ⟨w.heap.size, 2, none⟩ = some (.int .i64 0) := by rw [cell_of_row _ _ 2 _ _ _ hrow]; rfl
    have z3 : w2.cell? ⟨w.heap.size, 3, none⟩ = some (.int .i64 0) := by rw [cell_of_row _ _ 3 _ _ _ hrow]; rfl
    have z4 : w2.cell? ⟨w.heap.size, 4, none⟩ = some (.int .i64 0) := by rw [cell_of_row _ _ 4 _ _ _ hrow]; rfl
    have z5 : w2.cell? ⟨w.heap.size, 5, none⟩ = some (.string ⟨#[]⟩) := by rw [cell_of_row _ _ 5 _ _ _ hrow]; rfl
    have z6 : w2.cell? ⟨w.heap.size, 6, none⟩ = some (.slice none 0 0) := by rw [cell_of_row _ _ 6 _ _ _ hrow]; rfl
    have fz : ∀ i, w2.frozen? ⟨w.heap.size, i, none⟩ = false := fun i => frozen_of_row _ _ i _ _ hrow
    go_wp2_with fail
    have hR2 := (setCell_row 6 (.slice none 0 0) (setCell_row 5 (.string ⟨#[]⟩) (setCell_row 4 (.int .i64 0) (setCell_row 3 (.int .i64 0) (setCell_row 2 (.int .i64 0) (setCell_row 1 (.bool false) (setCell_row 0 (.int .i64 104) hrow)))))))
    simp only [List.setIfInBounds_toArray, List.set_cons_zero, List.set_cons_succ] at hR2
    have hf8 : Fr (fun q => q = w.heap.size) w2 (((((((w2.setCell ⟨w.heap.size, 0, none⟩ (.int .i64 104)).setCell ⟨w.heap.size, 1, none⟩ (.bool false)).setCell ⟨w.heap.size, 2, none⟩ (.int .i64 0)).setCell ⟨w.heap.size, 3, none⟩ (.int .i64 0)).setCell ⟨w.heap.size, 4, none⟩ (.int .i64 0)).setCell ⟨w.heap.size, 5, none⟩ (.string ⟨#[]⟩)).setCell ⟨w.heap.size, 6, none⟩ (.slice none 0 0)) := ((((((((Fr.refl (fun q => q = w.heap.size) w2).setCell (p := ⟨w.heap.size, 0, none⟩) (.inl rfl) (.int .i64 104)).setCell (p := ⟨w.heap.size, 1, none⟩) (.inl rfl) (.bool false)).setCell (p := ⟨w.heap.size, 2, none⟩) (.inl rfl) (.int .i64 0)).setCell (p := ⟨w.heap.size, 3, none⟩) (.inl rfl) (.int .i64 0)).setCell (p := ⟨w.heap.size, 4, none⟩) (.inl rfl) (.int .i64 0)).setCell (p := ⟨w.heap.size, 5, none⟩) (.inl rfl) (.string ⟨#[]⟩)).setCell (p := ⟨w.heap.size, 6, none⟩) (.inl rfl) (.slice none 0 0))
    refine bodyPost_ret (results_cell_row rfl _ _ (w.heap.size) _ _ _ _ rfl hR2 Tryd.underlying49 rfl (by kernel_rfl)) rfl ?_
    exact ⟨by rw [HX.out]; rfl, (HF2.out).trans hf8 (fun _ _ => id) (fun q hq e => by omega)⟩
  rw [decide_eq_false hbig]
  have HBIG := hid hbig
  clear hbig
  go_wp2_with fail
  refine (HDP.out w1 HF1.out).mono ?_
  rintro e w2 ⟨rfl, hf2⟩
  have HF2 := hid (HF1.out.trans' hf2); have HR2 := hid (hf2.heap HR1.out not_false)
  clear hf2
  by_cases hdeep : 40 < depL l
  · have HX := hid (show pv = ⟨112, false, 0⟩ by rw [HPV.out, if_neg HBIG.out, if_pos hdeep])
    have hd1 : (40 : Int) < depL l := by omega
    clear hdeep
    go_wp2_with fail
    refine (bare_any 112 w2).mono ?_
    rintro e w3 ⟨rfl, hf3⟩
    unfold bareV
    have hrow := hf3.heap HR2.out not_false
    have HF3 := hid (HF2.out.trans' hf3)
    clear hf3
    have z0 : w3.cell? ⟨w.heap.size, 0, none⟩ = some (.int .i64 0) := by rw [cell_of_row _ _ 0 _ _ _ hrow]; rfl
    have z1 : w3.cell? ⟨w.heap.size, 1, none⟩ = some (.bool false) := by rw [cell_of_row _ _ 1 _ _ _ hrow]; rfl
    have z2 : w3.cell? ⟨w.heap.size, 2, none⟩ = some (.int .i64 0) := by rw [cell_of_row _ _ 2 _ _ _ hrow]; rfl
    have z3 : w3.cell? ⟨w.heap.size, 3, none⟩ = some (.int .i64 0) := by rw [cell_of_row _ _ 3 _ _ _ hrow]; rfl
    have z4 : w3.cell? ⟨w.heap.size, 4, none⟩ = some (.int .i64 0) := by rw [cell_of_row _ _ 4 _ _ _ hrow]; rfl
    have z5 : w3.cell? ⟨w.heap.size, 5, none⟩ = some (.string ⟨#[]⟩) := by rw [cell_of_row _ _ 5 _ _ _ hrow]; rfl
    have z6 : w3.cell? ⟨w.heap.size, 6, none⟩ = some (.slice none 0 0) := by rw [cell_of_row _ _ 6 _ _ _ hrow]; rfl
    have fz : ∀ i, w3.frozen? ⟨w.heap.size, i, none⟩ = false := fun i => frozen_of_row _ _ i _ _ hrow
    go_wp2_with fail
    have hR2 := (setCell_row 6 (.slice none 0 0) (setCell_row 5 (.string ⟨#[]⟩) (setCell_row 4 (.int .i64 0) (setCell_row 3 (.int .i64 0) (setCell_row 2 (.int .i64 0) (setCell_row 1 (.bool false) (setCell_row 0 (.int .i64 112) hrow)))))))
    simp only [List.setIfInBounds_toArray, List.set_cons_zero, List.set_cons_succ] at hR2
    have hf8 : Fr (fun q => q = w.heap.size) w3 (((((((w3.setCell ⟨w.heap.size, 0, none⟩ (.int .i64 112)).setCell ⟨w.heap.size, 1, none⟩ (.bool false)).setCell ⟨w.heap.size, 2, none⟩ (.int .i64 0)).setCell ⟨w.heap.size, 3, none⟩ (.int .i64 0)).setCell ⟨w.heap.size, 4, none⟩ (.int .i64 0)).setCell ⟨w.heap.size, 5, none⟩ (.string ⟨#[]⟩)).setCell ⟨w.heap.size, 6, none⟩ (.slice none 0 0)) := ((((((((Fr.refl (fun q => q = w.heap.size) w3).setCell (p := ⟨w.heap.size, 0, none⟩) (.inl rfl) (.int .i64 112)).setCell (p := ⟨w.heap.size, 1, none⟩) (.inl rfl) (.bool false)).setCell (p := ⟨w.heap.size, 2, none⟩) (.inl rfl) (.int .i64 0)).setCell (p := ⟨w.heap.size, 3, none⟩) (.inl rfl) (.int .i64 0)).setCell (p := ⟨w.heap.size, 4, none⟩) (.inl rfl) (.int .i64 0)).setCell (p := ⟨w.heap.size, 5, none⟩) (.inl rfl) (.string ⟨#[]⟩)).setCell (p := ⟨w.heap.size, 6, none⟩) (.inl rfl) (.slice none 0 0))
    refine bodyPost_ret (results_cell_row rfl _ _ (w.heap.size) _ _ _ _ rfl hR2 Tryd.underlying49 rfl (by kernel_rfl)) rfl ?_
    exact ⟨by rw [HX.out]; rfl, (HF3.out).trans hf8 (fun _ _ => id) (fun q hq e => by omega)⟩
  have hd1 : ¬ (40 : Int) < depL l := by omega
  have HX := hid (show pv = fltAt (pVals 7 l) by rw [HPV.out, if_neg HBIG.out, if_neg hdeep])
  have HW2 := hid (HW.out HBIG.out)
  clear hdeep HW
  go_wp2_with fail
  go_loopw [3] (fun i wr => ∃ k : Nat, k ≤ l.length ∧ i = .int .i64 k ∧ Hid (pVals 7 l = pVals 7 (l.drop k)) ∧ Fr (fun _ => False) w2 wr) (fun i _ => l.length - (intOf i).toNat)
  case atStart => exact ⟨0, Nat.zero_le _, rfl, hid rfl, Fr.refl _ _⟩
  case round =>
    obtain ⟨k, hk, rfl, HS, hf⟩ := hrel
    have HFW := hid (HF2.out.trans' hf); have HFR := hid hf; have HRR := hid (hf.heap HR2.out not_false)
    clear hf
    by_cases hlt : k < l.length
    · have hlt' : (k : Int) < l.length := by omega
      obtain ⟨b, o, y, yva, c1, a', c', rfl, -, hy, hv, e0, e1, e2, e3, e4, e5, e6, e7⟩ := NL.elem HB.out HI.out k hlt
      replace e0 := HFW.out.cell e0 not_false
      replace e1 := HFW.out.cell e1 not_false
      replace e2 := HFW.out.cell e2 not_false
      replace e3 := HFW.out.cell e3 not_false
      replace e4 := HFW.out.cell e4 not_false
      replace e5 := HFW.out.cell e5 not_false
      replace e6 := HFW.out.cell e6 not_false
      replace e7 := HFW.out.cell e7 not_false
      have HST := hid (pVals_step (role := 7) hy)
      have HOD := hid (HW2.out k y hy wr _ (hv.frame HFW.out fun _ _ => not_false))
      obtain ⟨q9, hq9⟩ : ∃ q9, pWalk y 7 false = q9 := ⟨_, rfl⟩
      rw [hq9] at HST HOD
      have HST := hid HST.out
      obtain ⟨fc, fp, fl, hfq, hfc, hfx⟩ : ∃ (fc : Int) (fp : Bool) (fl : Int), faultQ q9 = faultV fc fp fl ∧ ((fc != 0) = false ↔ q9.1 = 0) ∧ faultF (fltAt q9) = faultV fc fp fl := by
        rw [← faultQ_eq]
        by_cases hz : q9.1 = 0
        · exact ⟨0, false, 0, if_pos hz, by simp [hz], if_pos hz⟩
        · exact ⟨q9.1, true, q9.2, if_neg hz, by simp [hz], if_neg hz⟩
      rw [hfq] at HOD
      have HFC := hid hfc; have HFX := hid hfx
      clear hv hy hq9 hfq hfc hfx
      unfold faultV at HOD
      go_wp2_with fail
      refine HOD.out.mono ?_
      rintro e w8 ⟨rfl, hf8⟩
      have HF8 := hid (HFR.out.trans' hf8); have HFW8 := hid (HFW.out.trans' hf8); have HR8 := hid (hf8.heap HRR.out not_false)
      clear hf8 e0 e1 e2 e3 e4 e5 e6 e7
      have hf9 := (Fr.refl (fun _ => False) w8).alloc (.cells #[.int .i64 fc, .bool fp, .int .i64 fl, .int .i64 0, .int .i64 0, .string ⟨#[]⟩, .slice none 0 0] 49)
      have HGX := hid (heap_alloc_new w8 (.cells #[.int .i64 fc, .bool fp, .int .i64 fl, .int .i64 0, .int .i64 0, .string ⟨#[]⟩, .slice none 0 0] 49))
      have HF9 := hid (HF8.out.trans' hf9); have HFW9 := hid (HFW8.out.trans' hf9); have HR9 := hid (hf9.heap HR8.out not_false)
      clear hf9
      go_upto_region 9 with fail
      generalize hW9 : w8.alloc (.cells #[.int .i64 fc, .bool fp, .int .i64 fl, .int .i64 0, .int .i64 0, .string ⟨#[]⟩, .slice none 0 0] 49) = w9 at *
      obtain ⟨g, hg⟩ : ∃ g, w8.heap.size = g := ⟨_, rfl⟩
      rw [hg] at HGX ⊢
      clear hW9 hg
      have y0 : w9.cell? ⟨g, 0, none⟩ = some (.int .i64 fc) := by rw [cell_of_row _ _ 0 _ _ _ HGX.out]; rfl
      have y1 : w9.cell? ⟨g, 1, none⟩ = some (.bool fp) := by rw [cell_of_row _ _ 1 _ _ _ HGX.out]; rfl
      have y2 : w9.cell? ⟨g, 2, none⟩ = some (.int .i64 fl) := by rw [cell_of_row _ _ 2 _ _ _ HGX.out]; rfl
      have y3 : w9.cell? ⟨g, 3, none⟩ = some (.int .i64 0) := by rw [cell_of_row _ _ 3 _ _ _ HGX.out]; rfl
      have y4 : w9.cell? ⟨g, 4, none⟩ = some (.int .i64 0) := by rw [cell_of_row _ _ 4 _ _ _ HGX.out]; rfl
      have y5 : w9.cell? ⟨g, 5, none⟩ = some (.string ⟨#[]⟩) := by rw [cell_of_row _ _ 5 _ _ _ HGX.out]; rfl
      have y6 : w9.cell? ⟨g, 6, none⟩ = some (.slice none 0 0) := by rw [cell_of_row _ _ 6 _ _ _ HGX.out]; rfl
      by_cases hz9 : q9.1 = 0
      · have hfc0 := HFC.out.2 hz9
        have HS2 := hid (show pVals 7 l = pVals 7 (l.drop (k + 1)) by rw [HS.out, HST.out, if_pos hz9])
        clear hz9
        go_wp2_with fail
        go_roundw
        case rel => exact ⟨k + 1, by omega, by go_num, HS2, HF9.out⟩
        case measure => simp [intOf]; omega
      · have hfc0 : (fc != 0) = true := by
          cases h : (fc != 0)
          · exact absurd (HFC.out.1 h) hz9
          · rfl
        have HS2 := hid (show faultF pv = faultV fc fp fl by rw [HX.out, HS.out, HST.out, if_neg hz9, HFX.out])
        clear hz9
        have hrow := HR9.out
        have z0 : w9.cell? ⟨w.heap.size, 0, none⟩ = some (.int .i64 0) := by rw [cell_of_row _ _ 0 _ _ _ hrow]; rfl
        have z1 : w9.cell? ⟨w.heap.size, 1, none⟩ = some (.bool false) := by rw [cell_of_row _ _ 1 _ _ _ hrow]; rfl
        have z2 : w9.cell? ⟨w.heap.size, 2, none⟩ = some (.int .i64 0) := by rw [cell_of_row _ _ 2 _ _ _ hrow]; rfl
        have z3 : w9.cell? ⟨w.heap.size, 3, none⟩ = some (.int .i64 0) := by rw [cell_of_row _ _ 3 _ _ _ hrow]; rfl
        have z4 : w9.cell? ⟨w.heap.size, 4, none⟩ = some (.int .i64 0) := by rw [cell_of_row _ _ 4 _ _ _ hrow]; rfl
        have z5 : w9.cell? ⟨w.heap.size, 5, none⟩ = some (.string ⟨#[]⟩) := by rw [cell_of_row _ _ 5 _ _ _ hrow]; rfl
        have z6 : w9.cell? ⟨w.heap.size, 6, none⟩ = some (.slice none 0 0) := by rw [cell_of_row _ _ 6 _ _ _ hrow]; rfl
        have fz : ∀ i, w9.frozen? ⟨w.heap.size, i, none⟩ = false := fun i => frozen_of_row _ _ i _ _ hrow
        go_wp2_with fail
        have hR2 := (setCell_row 6 (.slice none 0 0) (setCell_row 5 (.string ⟨#[]⟩) (setCell_row 4 (.int .i64 0) (setCell_row 3 (.int .i64 0) (setCell_row 2 (.int .i64 fl) (setCell_row 1 (.bool fp) (setCell_row 0 (.int .i64 fc) hrow)))))))
        simp only [List.setIfInBounds_toArray, List.set_cons_zero, List.set_cons_succ] at hR2
        have hf8 : Fr (fun q => q = w.heap.size) w9 (((((((w9.setCell ⟨w.heap.size, 0, none⟩ (.int .i64 fc)).setCell ⟨w.heap.size, 1, none⟩ (.bool fp)).setCell ⟨w.heap.size, 2, none⟩ (.int .i64 fl)).setCell ⟨w.heap.size, 3, none⟩ (.int .i64 0)).setCell ⟨w.heap.size, 4, none⟩ (.int .i64 0)).setCell ⟨w.heap.size, 5, none⟩ (.string ⟨#[]⟩)).setCell ⟨w.heap.size, 6, none⟩ (.slice none 0 0)) := ((((((((Fr.refl (fun q => q = w.heap.size) w9).setCell (p := ⟨w.heap.size, 0, none⟩) (.inl rfl) (.int .i64 fc)).setCell (p := ⟨w.heap.size, 1, none⟩) (.inl rfl) (.bool fp)).setCell (p := ⟨w.heap.size, 2, none⟩) (.inl rfl) (.int .i64 fl)).setCell (p := ⟨w.heap.size, 3, none⟩) (.inl rfl) (.int .i64 0)).setCell (p := ⟨w.heap.size, 4, none⟩) (.inl rfl) (.int .i64 0)).setCell (p := ⟨w.heap.size, 5, none⟩) (.inl rfl) (.string ⟨#[]⟩)).setCell (p := ⟨w.heap.size, 6, none⟩) (.inl rfl) (.slice none 0 0))
        refine bodyPost_ret (results_cell_row rfl _ _ (w.heap.size) _ _ _ _ rfl hR2 Tryd.underlying49 rfl (by kernel_rfl)) rfl ?_
        exact ⟨by rw [HS2.out]; rfl, (HFW9.out).trans hf8 (fun _ _ => id) (fun q hq e => by omega)⟩
    · obtain rfl : k = l.length := by omega
      have HQ0 := hid (show faultF pv = faultV 0 false 0 by rw [HX.out, HS.out, List.drop_length]; rfl)
      have HNN := hid (none_any wr)
      go_wp2_with fail
      refine HNN.out.mono ?_
      rintro e w9 ⟨rfl, hf9⟩
      unfold bareV
      have hrow := hf9.heap HRR.out not_false
      have HF9 := hid (HFW.out.trans' hf9)
      clear hf9
      have z0 : w9.cell? ⟨w.heap.size, 0, none⟩ = some (.int .i64 0) := by rw [cell_of_row _ _ 0 _ _ _ hrow]; rfl
      have z1 : w9.cell? ⟨w.heap.size, 1, none⟩ = some (.bool false) := by rw [cell_of_row _ _ 1 _ _ _ hrow]; rfl
      have z2 : w9.cell? ⟨w.heap.size, 2, none⟩ = some (.int .i64 0) := by rw [cell_of_row _ _ 2 _ _ _ hrow]; rfl
      have z3 : w9.cell? ⟨w.heap.size, 3, none⟩ = some (.int .i64 0) := by rw [cell_of_row _ _ 3 _ _ _ hrow]; rfl
      have z4 : w9.cell? ⟨w.heap.size, 4, none⟩ = some (.int .i64 0) := by rw [cell_of_row _ _ 4 _ _ _ hrow]; rfl
      have z5 : w9.cell? ⟨w.heap.size, 5, none⟩ = some (.string ⟨#[]⟩) := by rw [cell_of_row _ _ 5 _ _ _ hrow]; rfl
      have z6 : w9.cell? ⟨w.heap.size, 6, none⟩ = some (.slice none 0 0) := by rw [cell_of_row _ _ 6 _ _ _ hrow]; rfl
      have fz : ∀ i, w9.frozen? ⟨w.heap.size, i, none⟩ = false := fun i => frozen_of_row _ _ i _ _ hrow
      go_wp2_with fail
      have hR2 := (setCell_row 6 (.slice none 0 0) (setCell_row 5 (.string ⟨#[]⟩) (setCell_row 4 (.int .i64 0) (setCell_row 3 (.int .i64 0) (setCell_row 2 (.int .i64 0) (setCell_row 1 (.bool false) (setCell_row 0 (.int .i64 0) hrow)))))))
      simp only [List.setIfInBounds_toArray, List.set_cons_zero, List.set_cons_succ] at hR2
      have hf8 : Fr (fun q => q = w.heap.size) w9 (((((((w9.setCell ⟨w.heap.size, 0, none⟩ (.int .i64 0)).setCell ⟨w.heap.size, 1, none⟩ (.bool false)).setCell ⟨w.heap.size, 2, none⟩ (.int .i64 0)).setCell ⟨w.heap.size, 3, none⟩ (.int .i64 0)).setCell ⟨w.heap.size, 4, none⟩ (.int .i64 0)).setCell ⟨w.heap.size, 5, none⟩ (.string ⟨#[]⟩)).setCell ⟨w.heap.size, 6, none⟩ (.slice none 0 0)) := ((((((((Fr.refl (fun q => q = w.heap.size) w9).setCell (p := ⟨w.heap.size, 0, none⟩) (.inl rfl) (.int .i64 0)).setCell (p := ⟨w.heap.size, 1, none⟩) (.inl rfl) (.bool false)).setCell (p := ⟨w.heap.size, 2, none⟩) (.inl rfl) (.int .i64 0)).setCell (p := ⟨w.heap.size, 3, none⟩) (.inl rfl) (.int .i64 0)).setCell (p := ⟨w.heap.size, 4, none⟩) (.inl rfl) (.int .i64 0)).setCell (p := ⟨w.heap.size, 5, none⟩) (.inl rfl) (.string ⟨#[]⟩)).setCell (p := ⟨w.heap.size, 6, none⟩) (.inl rfl) (.slice none 0 0))
      refine bodyPost_ret (results_cell_row rfl _ _ (w.heap.size) _ _ _ _ rfl hR2 Tryd.underlying49 rfl (by kernel_rfl)) rfl ?_
      exact ⟨by rw [HQ0.out]; rfl, (HF9.out).trans hf8 (fun _ _ => id) (fun q hq e => by omega)⟩
end
section
open Go.RowKit

mutual
def V.few : V → Nat → Nat → Option Nat
  | .mk _ _ s l, left, deep => if left < 1 + s.size / 16 ∨ 60 < deep then none else fewL l (left - (1 + s.size / 16)) (deep + 1)
def fewL : List V → Nat → Nat → Option Nat
  | [], left, _ => some left
  | x :: r, left, deep => match V.few x left deep with
    | none => none
    | some n => fewL r n deep
end
theorem V.few_eq (x : V) (left deep : Nat) : x.few left deep = if left < 1 + x.s.size / 16 ∨ 60 < deep then none else fewL x.l (left - (1 + x.s.size / 16)) (deep + 1) := by
  cases x; simp only [V.few, V.s, V.l]; rfl
theorem fewL_drop (l : List V) (k left deep : Nat) (x : V) (h : l[k]? = some x) : fewL (l.drop k) left deep = match x.few left deep with
    | none => none
    | some n => fewL (l.drop (k + 1)) n deep := by
  have hk := (List.getElem?_eq_some_iff.1 h).1
  rw [List.drop_eq_getElem_cons hk]
  have : l[k] = x := (List.getElem?_eq_some_iff.1 h).2
  rw [this, fewL]
mutual
theorem V.few_le : ∀ (x : V) (left deep n : Nat), x.few left deep = some n → n ≤ left
  | .mk k n s l, left, deep, m, h => by
    simp only [V.few] at h
    split at h
    · cases h
    · have := fewL_le l _ _ _ h
      omega
theorem fewL_le : ∀ (l : List V) (left deep n : Nat), fewL l left deep = some n → n ≤ left
  | [], left, deep, n, h => by simp [fewL] at h; omega
  | x :: r, left, deep, n, h => by
    simp only [fewL] at h
    split at h
    · cases h
    · rename_i m hm
      have h1 := V.few_le x left deep m hm
      have h2 := fewL_le r m deep n h
      omega
end
def fewI : Option Nat → Int
  | none => -1
  | some n => n

mutual
theorem V.odd_few : ∀ (x : V) (deep sz : Nat), (x.odd deep sz).1 = 0 → sz ≤ (x.odd deep sz).2 ∧ (x.odd deep sz).2 ≤ 4096 ∧ ∀ left d, d + 1 = deep → (x.odd deep sz).2 ≤ left + sz → ∃ n, x.few left d = some n ∧ left + sz ≤ n + (x.odd deep sz).2
  | .mk k n s l, deep, sz, h => by
    have ih := oddL_few l (deep + 1) (oddSize k s sz)
    simp only [V.odd] at h ⊢
    by_cases h1 : 40 < deep
    · simp [h1] at h
    simp only [if_neg h1] at h ⊢
    by_cases h2 : 4096 < oddSize k s sz
    · simp [h2] at h
    simp only [if_neg h2] at h ⊢
    cases h3 : oddRange k n
    case true => simp [h3] at h
    simp only [h3, Bool.false_eq_true, if_false] at h ⊢
    cases h4 : oddShape k n s l.isEmpty
    case true => simp [h4] at h
    simp only [h4, Bool.false_eq_true, if_false] at h ⊢
    have hc : sz + 1 + s.size / 16 ≤ oddSize k s sz := by
      unfold oddSize
      by_cases hk : k = 2
      · rw [if_pos hk]; omega
      · rw [if_neg hk]
        have : s.size = 0 := by
          cases h5 : (s.size != 0)
          · exact bne_eq_false_iff_eq.1 h5
          · have hk2 : (k != 2) = true := bne_iff_ne.2 hk
            unfold oddShape at h4
            rw [hk2, h5] at h4
            simp at h4
        omega
    obtain ⟨i1, i2, i3⟩ := ih (by omega) h
    refine ⟨by omega, i2, fun left d hd hl => ?_⟩
    simp only [V.few]
    rw [if_neg (by omega)]
    obtain ⟨m, hm, hle⟩ := i3 (left - (1 + s.size / 16)) (d + 1) (by omega) (by omega)
    exact ⟨m, hm, by omega⟩
theorem oddL_few : ∀ (l : List V) (deep sz : Nat), sz ≤ 4096 → (oddL l deep sz).1 = 0 → sz ≤ (oddL l deep sz).2 ∧ (oddL l deep sz).2 ≤ 4096 ∧ ∀ left d, d + 1 = deep → (oddL l deep sz).2 ≤ left + sz → ∃ n, fewL l left d = some n ∧ left + sz ≤ n + (oddL l deep sz).2
  | [], deep, sz, hz, h => by
    simp only [oddL, fewL]
    exact ⟨Nat.le_refl _, hz, fun left d _ _ => ⟨left, rfl, Nat.le_refl _⟩⟩
  | x :: r, deep, sz, hz, h => by
    simp only [oddL] at h ⊢
    by_cases h0 : (x.odd deep sz).1 = 0
    · rw [if_pos h0] at h ⊢
      obtain ⟨a1, a2, a3⟩ := V.odd_few x deep sz h0
      obtain ⟨b1, b2, b3⟩ := oddL_few r deep _ a2 h
      refine ⟨by omega, b2, fun left d hd hl => ?_⟩
      obtain ⟨n, hn, hn2⟩ := a3 left d hd (by omega)
      obtain ⟨m, hm, hm2⟩ := b3 n d hd (by omega)
      refine ⟨m, ?_, by omega⟩
      simp only [fewL, hn]
      exact hm
    · rw [if_neg h0] at h
      exact absurd h h0
end
theorem small_of_valid {x : V} (h : x.valid = 0) : ∃ n, x.few 6000 0 = some n := by
  obtain ⟨h1, h2, h3⟩ := V.odd_few x 1 0 h
  obtain ⟨n, hn, _⟩ := h3 6000 0 rfl (by omega)
  exact ⟨n, hn⟩

set_option maxHeartbeats 1600000 in
theorem few_any : ∀ (N : Nat) (x : V), x.size ≤ N → ∀ (D : Nat → Prop) (w : World) (u : Array Value) (left deep : Nat), VIn D w x u → x.size ≤ 1099511627776 → left ≤ 1099511627776 → deep ≤ 61 →
    Calls Tryd.prog 55 #[.agg u, .int .i64 left, .int .i64 deep] w fun e w' => e = .returned (.int .i64 (fewI (x.few left deep))) ∧ Fr (fun _ => False) w w' := by
  intro N
  induction N with
  | zero =>
    intro x h
    rw [V.size_eq] at h
    omega
  | succ N ih =>
    intro x hN D w u left deep h hM hz hd
    have hs := V.size_eq x
    rw [V.few_eq]
    obtain ⟨v, rfl, a, cap, us, rfl, hc, hm, hn, hb, hi⟩ := h.open
    have hlm : x.l.length ≤ 9223372036854775807 := Nat.le_trans hc hm
    have hsm : x.s.size ≤ 1099511627776 := by omega
    generalize x.k = kk at *
    generalize x.n = nn at *
    generalize x.s = ss at *
    generalize x.l = l at *
    obtain ⟨r, hr⟩ : ∃ r, r = fewI (if left < 1 + ss.size / 16 ∨ 60 < deep then none else fewL l (left - (1 + ss.size / 16)) (deep + 1)) := ⟨_, rfl⟩
    rw [← hr]
    have hF : Fr (fun _ => False) w (w.alloc (.cells #[.int .i64 kk, .int .i64 nn, .string ss, .slice a l.length cap] 34)) := (Fr.refl _ _).alloc _
    have hb1 : (w.alloc (.cells #[.int .i64 kk, .int .i64 nn, .string ss, .slice a l.length cap] 34)).heap[w.heap.size]? = some (.cells #[.int .i64 kk, .int .i64 nn, .string ss, .slice a l.length cap] 34) := heap_alloc_new w _
    have d2 : (w.alloc (.cells #[.int .i64 kk, .int .i64 nn, .string ss, .slice a l.length cap] 34)).cell? ⟨w.heap.size, 2, none⟩ = some (.string ss) := by rw [cell_of_row _ _ 2 _ _ _ hb1]; rfl
    have d3 : (w.alloc (.cells #[.int .i64 kk, .int .i64 nn, .string ss, .slice a l.length cap] 34)).cell? ⟨w.heap.size, 3, none⟩ = some (.slice a l.length cap) := by rw [cell_of_row _ _ 3 _ _ _ hb1]; rfl
    have HB := hid hb; have HI := hid hi; have HS := hid hs; have HM := hid hM; have HN := hid hN; have HF := hid hF; have HR := hid hr; have HIH := hid ih; have HD3 := hid d3
    clear hb hi hs hM hN h hn hF hb1 hr ih
    by_cases h1 : (left : Int) - 1 - (ss.size : Int) / 16 < 0
    · have hr : r = -1 := by rw [HR.out, if_pos (by omega)]; rfl
      subst hr
      go_enter Tryd.func55, Tryd.ntmps55
      go_wp2
      go_ret
      exact ⟨rfl, HF.out⟩
    by_cases h2 : (60 : Int) < deep
    · have hr : r = -1 := by rw [HR.out, if_pos (by omega)]; rfl
      subst hr
      go_enter Tryd.func55, Tryd.ntmps55
      go_wp2
      go_ret
      exact ⟨rfl, HF.out⟩
    have hr : r = fewI (fewL l (left - (1 + ss.size / 16)) (deep + 1)) := by rw [HR.out, if_neg (by omega)]
    obtain ⟨z, hz1, hz2⟩ : ∃ z : Nat, (left : Int) - 1 - (ss.size : Int) / 16 = z ∧ z = left - (1 + ss.size / 16) := ⟨left - (1 + ss.size / 16), by omega, rfl⟩
    rw [← hz2] at hr
    have hzl : z ≤ left := by omega
    have HR' := hid hr; have HZ := hid hz1
    clear HR hr hz2 hz1
    go_enter Tryd.func55, Tryd.ntmps55
    go_upto_region 5 with fail
    rw [HZ.out]
    generalize hW1 : w.alloc (.cells #[.int .i64 kk, .int .i64 nn, .string ss, .slice a l.length cap] 34) = W1 at *
    clear hW1 d2
    go_loopw [1, 7] (fun lv i wr => ∃ k zk : Nat, k ≤ l.length ∧ i = .int .i64 k ∧ lv = .int .i64 zk ∧ zk ≤ z ∧ fewL l z (deep + 1) = fewL (l.drop k) zk (deep + 1) ∧ Fr (fun _ => False) W1 wr) (fun _ i _ => l.length - (intOf i).toNat)
    case atStart => exact ⟨0, z, Nat.zero_le _, rfl, rfl, Nat.le_refl _, rfl, Fr.refl _ _⟩
    case round =>
      obtain ⟨k, zk, hk, rfl, rfl, hzk, heq, hf⟩ := hrel
      have d3 := hf.cell HD3.out not_false
      by_cases hlt : k < l.length
      · obtain ⟨b, o, y, a', c', rfl, -, hy, hv, e0, e1, e2, e3⟩ := VL.elem HB.out HI.out k hlt
        have hf0 := HF.out.trans' hf
        replace e0 := hf0.cell e0 not_false
        replace e1 := hf0.cell e1 not_false
        replace e2 := hf0.cell e2 not_false
        replace e3 := hf0.cell e3 not_false
        have hv2 := hv.frame hf0 (fun _ _ => not_false)
        have t2 := sizeL_mem hy
        have hy1 : y.size ≤ N := by have := HS.out; have := HN.out; omega
        have hod := fewL_drop l k zk (deep + 1) y hy
        have hole := fun n => y.few_le zk (deep + 1) n
        have hc := HIH.out y hy1 D wr _ zk (deep + 1) hv2 (by have := HM.out; have := HS.out; omega) (by omega) (by omega)
        rw [hod] at heq
        have HE := hid heq; have HFr := hid hf; have HC := hid hc; have HL := hid hole
        clear hv t2 hf hf0 hv2 hc hy1 hod heq hole hy
        generalize y.few zk (deep + 1) = ry at *
        go_wp2_with fail
        refine HC.out.mono ?_
        rintro e w2 ⟨rfl, hf2⟩
        have HF2 := hid (HFr.out.trans' hf2)
        clear hf2
        cases ry with
        | none =>
          have hrr : r = -1 := by rw [HR'.out, HE.out]; rfl
          subst hrr
          simp only [fewI]
          go_wp2
          go_ret
          exact ⟨rfl, HF.out.trans' HF2.out⟩
        | some n =>
          have hnz := HL.out n rfl
          have hE2 := hid (show fewL l z (deep + 1) = fewL (l.drop (k + 1)) n (deep + 1) from HE.out)
          simp only [fewI]
          go_wp2
          go_roundw
          case rel => exact ⟨k + 1, n, by omega, by go_num, rfl, by omega, hE2.out, HF2.out⟩
          case measure => simp [intOf]; omega
      · go_wp2
        go_ret
        have hrr := HR'.out
        rw [heq, List.drop_of_length_le (by omega), fewL] at hrr
        rw [hrr]
        exact ⟨rfl, HF.out.trans' hf⟩

def V.small (x : V) : Bool := decide (0 ≤ fewI (x.few 6000 0))
theorem V.small_of {x : V} (h : x.valid = 0) : x.small = true := by
  obtain ⟨n, hn⟩ := small_of_valid h
  unfold V.small
  rw [hn]
  simp [fewI]
end
section
open Go.RowKit

theorem fewI_range (x : V) (left deep : Nat) : -1 ≤ fewI (x.few left deep) ∧ fewI (x.few left deep) ≤ left := by
  have h := x.few_le left deep
  cases hr : x.few left deep with
  | none => simp [fewI]
  | some n =>
    have := h n hr
    simp only [fewI]
    omega
set_option maxRecDepth 100000 in
set_option maxHeartbeats 1600000 in
theorem wnodes_any : ∀ (N : Nat) (l : List Nd), cntL l < N → szL l ≤ 1099511627776 → ∀ (left deep : Nat), left ≤ 1099511627776 → deep ≤ 61 → ∀ (D : Nat → Prop) (w : World) (v : Value), NL D w l v →
    Calls Tryd.prog 30 #[v, .int .i64 left, .int .i64 deep] w fun e w' => (∃ r : Int, e = .returned (.int .i64 r) ∧ -1 ≤ r ∧ r ≤ left) ∧ Fr (fun _ => False) w w' := by
  intro N
  induction N with
  | zero =>
    intro l hN
    omega
  | succ N ih =>
    intro l hN hM left deep hz hd D w v h
    have hll := Nat.le_trans (len_le_cnt l) (cntL_szL l)
    obtain ⟨a, cap, us, rfl, hc, hm, hn, hb, hi⟩ := h
    have hlI : (l.length : Int) ≤ 1099511627776 := by omega
    have hdI : (deep : Int) ≤ 61 := by omega
    have HB := hid hb; have HI := hid hi; have HM := hid hM; have HN := hid hN; have HIH := hid ih
    clear hb hi hM hN hn hll hc hm ih
    go_enter Tryd.func30, Tryd.ntmps30
    go_wp2
    go_loopw [1, 7] (fun lv i wr => ∃ k q : Nat, k ≤ l.length ∧ i = .int .i64 k ∧ lv = .int .i64 q ∧ q ≤ left ∧ Fr (fun _ => False) w wr) (fun _ i _ => l.length - (intOf i).toNat)
    case atStart => exact ⟨0, left, Nat.zero_le _, rfl, rfl, Nat.le_refl _, Fr.refl _ _⟩
    case round =>
      obtain ⟨k, q, hk, rfl, rfl, hq, hf⟩ := hrel
      have HF := hid hf
      by_cases hlt : k < l.length
      · obtain ⟨b, o, y, va, c1, a', c', rfl, -, hy, hv, e0, e1, e2, e3, e4, e5, e6, e7⟩ := NL.elem HB.out HI.out k hlt
        have hlt' : (k : Int) < l.length := by omega
        replace e2 := hf.cell e2 not_false
        replace e3 := hf.cell e3 not_false
        replace e4 := hf.cell e4 not_false
        replace e5 := hf.cell e5 not_false
        replace e6 := hf.cell e6 not_false
        replace e7 := hf.cell e7 not_false
        have t2 := cntL_mem hy
        have t3 := szL_mem hy
        have t4 := Nd.cnt_eq y
        have t5 := Nd.sz_eq y
        have hss : (y.s.size : Int) ≤ 1099511627776 := by have := HM.out; omega
        obtain ⟨va2, vl, he, hyv, hyl⟩ := hv.open
        obtain ⟨rfl, rfl⟩ : va2 = .slice va y.v.l.length c1 ∧ vl = .slice a' y.l.length c' := by simp at he; exact ⟨he.1.symm, he.2.symm⟩
        have hvx : VIn D w y.v #[.int .i64 y.v.k, .int .i64 y.v.n, .string y.v.s, .slice va y.v.l.length c1] := by
          have := hyv.close y.v.k y.v.n y.v.s
          have e : y.v = .mk y.v.k y.v.n y.v.s y.v.l := by cases y.v; rfl
          rw [← e] at this; exact this
        have HFW := hid (fun (z : Nat) (hz : z ≤ 1099511627776) => few_any y.v.size y.v (Nat.le_refl _) D wr _ z 0 (hvx.frame hf fun _ _ => not_false) (by have := HM.out; omega) hz (by omega))
        have HNO := hid (fun (w2 : World) (hf2 : Fr (fun _ => False) w w2) (z : Nat) (hz : z ≤ 1099511627776) (hd2 : deep + 1 ≤ 61) => HIH.out y.l (by have := HN.out; omega) (by have := HM.out; omega) z (deep + 1) hz hd2 D w2 _ (hyl.frame hf2 fun _ _ => not_false))
        have HRG := hid (fun z => fewI_range y.v z 0)
        clear t2 t3 t4 t5 hv hyv hyl he hvx hy hf e0 e1
        by_cases h1 : (q : Int) - 1 - (y.s.size : Int) / 16 < 0
        · go_wp2_with fail
          go_ret
          exact ⟨⟨_, rfl, by omega, by omega⟩, HF.out⟩
        by_cases h2 : (60 : Int) < deep
        · go_wp2_with fail
          go_ret
          exact ⟨⟨_, rfl, by omega, by omega⟩, HF.out⟩
        obtain ⟨z, hz1⟩ : ∃ z : Nat, (q : Int) - 1 - (y.s.size : Int) / 16 = z := ⟨((q : Int) - 1 - (y.s.size : Int) / 16).toNat, by omega⟩
        have hzq : z ≤ q := by omega
        have HZ := hid hz1
        obtain ⟨r, hr⟩ : ∃ r, fewI (y.v.few z 0) = r := ⟨_, rfl⟩
        have hrg := HRG.out z
        have HF1 := hid (HFW.out z (by omega))
        rw [hr] at hrg HF1
        obtain ⟨hrg1, hrg2⟩ := hrg
        clear HFW HRG hz1 hr
        go_upto_region 7 with fail
        rw [HZ.out]
        go_wp2_with fail
        refine HF1.out.mono ?_
        rintro e w2 ⟨rfl, hf2⟩
        have HF2 := hid (HF.out.trans' hf2)
        replace e7 := hf2.cell e7 not_false
        clear hf2 e2 e3 e4 e5 e6 h1
        by_cases h3 : r < 0
        · go_wp2_with fail
          go_ret
          exact ⟨⟨_, rfl, by omega, by omega⟩, HF2.out⟩
        obtain ⟨r2, rfl⟩ : ∃ r2 : Nat, r = r2 := ⟨r.toNat, by omega⟩
        have HN2 := hid (HNO.out w2 HF2.out r2 (by omega) (by omega))
        go_wp2_with fail
        refine HN2.out.mono ?_
        rintro e w3 ⟨⟨r3, rfl, h5, h6⟩, hf3⟩
        have HF3 := hid (HF2.out.trans' hf3)
        clear hf3 e7
        by_cases h7 : r3 < 0
        · go_wp2_with fail
          go_ret
          exact ⟨⟨_, rfl, by omega, by omega⟩, HF3.out⟩
        obtain ⟨r4, rfl⟩ : ∃ r4 : Nat, r3 = r4 := ⟨r3.toNat, by omega⟩
        go_wp2_with fail
        go_roundw
        case rel => exact ⟨k + 1, r4, by omega, by go_num, rfl, by omega, HF3.out⟩
        case measure => simp [intOf]; omega
      · obtain rfl : k = l.length := by omega
        go_wp2
        go_ret
        exact ⟨⟨_, rfl, by omega, by omega⟩, HF.out⟩
theorem wNodes_any (l : List Nd) (hM : szL l ≤ 1099511627776) (n : Nat) (hn : n ≤ 1099511627776) (D : Nat → Prop) (w : World) (v : Value) (h : NL D w l v) :
    Calls Tryd.prog 17 #[v, .int .i64 n] w fun e w' => (∃ b : Bool, e = .returned (.bool b)) ∧ Fr (fun _ => False) w w' := by
  have HC := hid (wnodes_any (cntL l + 1) l (by omega) hM n 0 hn (by omega) D w v h)
  obtain ⟨a, cap, us, rfl, -⟩ := h
  have hnI : (n : Int) ≤ 1099511627776 := by omega
  clear hM hn
  go_enter Tryd.func17, Tryd.ntmps17
  go_wp2_with fail
  refine HC.out.mono ?_
  rintro e w2 ⟨⟨r, rfl, h1, h2⟩, hf2⟩
  go_wp2_with fail
  go_ret
  exact ⟨⟨_, rfl⟩, hf2⟩
end
section
open Go.RowKit

theorem field_code (c : Int) (p : Bool) (l : Int) (w : World) : (Instr.field 49 (.agg #[.int .i64 c, .bool p, .int .i64 l, .int .i64 0, .int .i64 0, .string ⟨#[]⟩, .slice none 0 0]) 0).run Tryd.prog w = .ok (.int .i64 c) w := by kernel_rfl
set_option maxRecDepth 100000 in
theorem wprogram_any (l : List Nd) (hM : szL l ≤ 1048576) (n : Nat) (hn : n ≤ 1099511627776) (D : Nat → Prop) (w : World) (v : Value) (h : NL D w l v) :
    Calls Tryd.prog 6 #[v, .int .i64 n] w fun e w' => (∃ b : Bool, e = .returned (.bool b) ∧ (b = true → (pValid l 7).c = 0)) ∧ Fr (fun _ => False) w w' := by
  have HN := hid (wNodes_any l (by omega) n hn D w v h)
  have HV := hid (fun (w2 : World) (hf : Fr (fun _ => False) w w2) => dvalid_any l (by omega) D w2 v (h.frame hf fun _ _ => not_false))
  obtain ⟨a, cap, us, rfl, -⟩ := h
  have hnI : (n : Int) ≤ 1099511627776 := by omega
  clear hM hn
  obtain ⟨pv, hpv⟩ : ∃ pv, pValid l 7 = pv := ⟨_, rfl⟩
  rw [hpv] at HV ⊢
  clear hpv
  obtain ⟨fc, fp, fl⟩ := pv
  unfold faultF faultV at HV
  simp only at HV ⊢
  go_enter Tryd.func6, Tryd.ntmps6
  go_wp2_with fail
  refine HN.out.mono ?_
  rintro e w2 ⟨⟨b, rfl⟩, hf2⟩
  have HF2 := hid hf2
  clear hf2
  cases b
  · go_wp2_with fail
    go_ret
    exact ⟨⟨false, rfl, fun h => by cases h⟩, HF2.out⟩
  · go_wp2_with fail
    refine (HV.out w2 HF2.out).mono ?_
    rintro e w3 ⟨rfl, hf3⟩
    have HF3 := hid (HF2.out.trans' hf3)
    have hfd := field_code fc fp fl w3
    clear hf3
    go_wp2_with fail
    go_ret
    exact ⟨⟨_, rfl, fun h => by simp at h; omega⟩, HF3.out⟩

theorem own_setCell8 {w : World} {base e g cap n : Nat} {xs : List Value} (h : w.ownsRow base e 8 (.slice (some ⟨g, 0, none⟩) n cap) n xs) (j : Nat) (u : Value) (hj : j < n * 8) : (w.setCell ⟨g, j, none⟩ u).ownsRow base e 8 (.slice (some ⟨g, 0, none⟩) n cap) n (xs.set j u) := by
  refine ⟨by simpa using h.1, .inr ?_⟩
  rcases h.2 with ⟨e, _⟩ | ⟨g', cap', cur, e, hb, hg, h1, h2, h3, h4⟩
  · cases e
  · simp only [Value.slice.injEq, Option.some.injEq, Addr.mk.injEq] at e
    obtain ⟨⟨rfl, _⟩, _, rfl⟩ := e
    refine ⟨g, cap, cur.setIfInBounds j u, rfl, hb, setCell_row j u hg, h1, h2, by simpa using h3, ?_⟩
    rw [← h4, Array.toList_setIfInBounds, List.take_set]
/-- One cell of one node of a copy is set. -/
theorem COwn.set {base g n cap : Nat} {w : World} {l : List Nd} (h : COwn base w l (.slice (some ⟨g, 0, none⟩) n cap)) (hn : n = l.length) {k : Nat} {x : Nd} (hk : l[k]? = some x) (j : Nat) (hj : j < 6) (val : Value) (x' : Nd) (hl : x'.l = x.l) (hv : x'.v.l = x.v.l)
    (hx' : ∀ (D : Nat → Prop) (w : World) (u : Array Value), NIn D w x u → NIn D w x' (u.setIfInBounds j val)) : COwn base (w.setCell ⟨g, k * 8 + j, none⟩ val) (l.set k x') (.slice (some ⟨g, 0, none⟩) n cap) := by
  obtain ⟨xs, ho, hx, hr⟩ := h
  have hkl := (List.getElem?_eq_some_iff.1 hk).1
  have hlen : xs.length = l.length * 8 := ho.1
  have hf : Fr (fun q => q = g) w (w.setCell ⟨g, k * 8 + j, none⟩ val) := (Fr.refl (fun q => q = g) w).setCell (p := ⟨g, k * 8 + j, none⟩) (.inl rfl) val
  subst hn
  obtain ⟨lo, hlo, hlm, hr⟩ := hr
  refine ⟨xs.set (k * 8 + j) val, ?_, fun i y hi => ?_, lo, hlo, by rw [List.length_set]; exact Nat.le_trans hlm hf.size, fun i y hi => ?_⟩
  · have := own_setCell8 ho (k * 8 + j) val (by omega)
    simpa using this
  · have hfr : ∀ {y : Nd} {u : Array Value}, NIn (fun b => base ≤ b ∧ b < w.heap.size ∧ (Value.slice (some ⟨g, 0, none⟩) l.length cap).ownBlock ≠ some b ∧ Soft w b) w y u → NIn (fun b => base ≤ b ∧ b < (w.setCell ⟨g, k * 8 + j, none⟩ val).heap.size ∧ (Value.slice (some ⟨g, 0, none⟩) l.length cap).ownBlock ≠ some b ∧ Soft (w.setCell ⟨g, k * 8 + j, none⟩ val) b) (w.setCell ⟨g, k * 8 + j, none⟩ val) y u := fun h =>
      (h.frame hf fun b hb e => hb.2.2.1 (by rw [e]; rfl)).mono fun b _ hb => ⟨hb.1, Nat.lt_of_lt_of_le hb.2.1 hf.size, hb.2.2.1, hf.soft hb.2.1 (fun e => hb.2.2.1 (by rw [e]; rfl)) hb.2.2.2⟩
    by_cases hik : i = k
    · subst hik
      rw [List.getElem?_set_self hkl] at hi
      obtain rfl := Option.some.inj hi
      obtain ⟨u, hu, h8, hc⟩ := hx i x hk
      refine ⟨u.setIfInBounds j val, hx' _ _ _ (hfr hu), by simpa using h8, fun q hq => ?_⟩
      by_cases hqj : q = j
      · subst hqj
        rw [List.getElem?_set_self (by omega)]
        simp [Array.getElem?_setIfInBounds, h8, hq]
      · rw [List.getElem?_set_ne (by omega), hc q hq, Array.getElem?_setIfInBounds, if_neg (by omega)]
    · rw [List.getElem?_set_ne (fun e => hik e.symm)] at hi
      obtain ⟨u, hu, h8, hc⟩ := hx i y hi
      refine ⟨u, hfr hu, h8, fun q hq => ?_⟩
      rw [List.getElem?_set_ne (by omega)]
      exact hc q hq
  · have e : ∀ q, 6 ≤ q → q < 8 → (xs.set (k * 8 + j) val).getD (i * 8 + q) undef = xs.getD (i * 8 + q) undef := fun q hq1 hq2 => by
      rw [List.getD_eq_getElem?_getD, List.getD_eq_getElem?_getD, List.getElem?_set_ne (by omega)]
    rw [e 6 (by decide) (by decide), e 7 (by decide) (by decide)]
    by_cases hik : i = k
    · subst hik
      rw [List.getElem?_set_self hkl] at hi
      obtain rfl := Option.some.inj hi
      have h1 := (hr i x hk).frame hf fun b hb e => hb.1 (by rw [e]; rfl)
      unfold NodeAt at h1 ⊢
      rw [hl, hv]
      exact h1
    · rw [List.getElem?_set_ne (fun e => hik e.symm)] at hi
      exact (hr i y hi).frame hf fun b hb e => hb.1 (by rw [e]; rfl)
/-- The cells of one node of a copy. -/
theorem COwn.cells {base g n cap : Nat} {w : World} {l : List Nd} (h : COwn base w l (.slice (some ⟨g, 0, none⟩) n cap)) {k : Nat} {x : Nd} (hk : l[k]? = some x) :
    ∃ va c1 a' c', (∀ j, j < 8 → w.cell? ⟨g, k * 8 + j, none⟩ = (#[.int .i64 x.op, .int .i64 x.ln, .string x.s, .int .i64 x.v.k, .int .i64 x.v.n, .string x.v.s, .slice va x.v.l.length c1, .slice a' x.l.length c'] : Array Value)[j]?) ∧ (∀ i, w.frozen? ⟨g, i, none⟩ = false) := by
  obtain ⟨xs, ho, hx, -⟩ := h
  have hkl := (List.getElem?_eq_some_iff.1 hk).1
  have hlen : xs.length = l.length * 8 := ho.1
  obtain ⟨u, hu, h8, hc⟩ := hx k x hk
  obtain ⟨va', la', rfl, ⟨va, c1, us1, rfl, -⟩, ⟨a', c', us2, rfl, -⟩⟩ := hu.open
  have hnn : n = l.length := by
    have := ho.1
    rcases ho.2 with ⟨e, h0⟩ | ⟨g', cap', cur, e, hb, hg, h1, h2, h3, h4⟩
    · cases e
    · simp only [Value.slice.injEq] at e
      exact e.2.1
  rcases own_heap ho with ⟨e, -, -⟩ | ⟨g', cap', e, hb, hg, hce⟩
  · cases e
  · simp only [Value.slice.injEq, Option.some.injEq, Addr.mk.injEq] at e
    obtain ⟨⟨rfl, -⟩, -, rfl⟩ := e
    refine ⟨va, c1, a', c', fun j hj => ?_, ?_⟩
    · rw [hce (k * 8 + j) (by omega)]
      exact hc j hj
    · rcases ho.2 with ⟨e, h0⟩ | ⟨g', cap', cur, e, hb, hg, h1, h2, h3, h4⟩
      · cases e
      · simp only [Value.slice.injEq, Option.some.injEq, Addr.mk.injEq] at e
        obtain ⟨⟨rfl, -⟩, -, rfl⟩ := e
        exact fun i => frozen_of_row _ _ i _ _ hg
end
section
open Go.RowKit

theorem WRow.ln {D : Nat → Prop} {w0 w : World} {base : Nat} {L : List Nd} {ys : List Value} {v : Value} (h : WRow D w0 L ys) (ho : w.ownsRow base 36 8 v L.length ys) {k : Nat} {x : Nd} (hk : L[k]? = some x) :
    ∃ g cap, v = .slice (some ⟨g, 0, none⟩) L.length cap ∧ w.cell? ⟨g, k * 8 + 1, none⟩ = some (.int .i64 x.ln) := by
  have hlt : k < L.length := (List.getElem?_eq_some_iff.1 hk).1
  rcases own_heap ho with ⟨-, h0, -⟩ | ⟨g, cap, e, -, -, hc⟩
  · omega
  · refine ⟨g, cap, e, ?_⟩
    obtain ⟨u, hu, hs, hcc⟩ := h.2 k x hk
    obtain ⟨va, vl, rfl, -⟩ := hu.open
    rw [hc _ (by omega), hcc 1 (by omega)]
    rfl
theorem iV_snoc (l : List Int) (z : Int) : iV l ++ [.int .i64 z] = iV (l ++ [z]) := by simp [iV]
set_option maxRecDepth 100000 in
set_option maxHeartbeats 3200000 in
theorem codeLines_any (pa : Nat → Addr) (v : Value) (l : List Nd) (w : World) (h : NL (fun _ => True) w l v) (hl : szL l ≤ 1048576) (hE : Sent5 w pa) (hg : 7 ≤ w.heap.size) :
    Calls Tryd.prog 3 #[v] w fun e w' => e = .returned (.bool true) ∧ Fr (fun _ => False) w w' := by
  have HFI := hid (cfirst_any pa w hE hg)
  have HPR := hid (fun (w2 : World) (hf : Fr (fun _ => False) w w2) => wprogram_any l hl 300 (by decide) _ w2 v (h.frame hf fun _ _ => not_false))
  have HCO := hid (fun (w2 : World) (hf : Fr (fun _ => False) w w2) => compile_any pa l hl _ w2 v (h.frame hf fun _ _ => not_false) (hE.frame hf) (Nat.le_trans hg hf.size))
  have HWA := hid (fun (w2 : World) (hf : Fr (fun _ => False) w w2) => walkd_to (cntL l + 1) l (by omega) hl _ w2 w2 v (h.frame hf fun _ _ => not_false) (Fr.refl _ _))
  have HCL := hid (show cntL l ≤ 1048576 by have := cntL_szL l; omega)
  have HSR := hid (fun (hc : (pValid l 7).c = 0) => show sumR 7 l ≤ 28672 by have := sumR_le l; have := (pValid_ok hc).2.1; omega)
  obtain ⟨a, cap, us, rfl, -⟩ := id h
  clear h hl hE hg
  go_enter Tryd.func3, Tryd.ntmps3
  go_wp2_with fail
  refine HFI.out.mono ?_
  rintro e w1 ⟨rfl, hf1⟩
  have HF1 := hid hf1
  clear hf1 HFI
  go_wp2_with fail
  refine (HPR.out w1 HF1.out).mono ?_
  rintro e w2 ⟨⟨b, rfl, hb⟩, hf2⟩
  have HF2 := hid (HF1.out.trans' hf2)
  clear hf2 HPR
  cases b
  · go_wp2_with fail
    go_ret
    exact ⟨rfl, HF2.out⟩
  have HV := hid (hb rfl)
  clear hb
  go_wp2_with fail
  refine (HCO.out w2 HF2.out).mono ?_
  rintro e w3 ⟨r, ev, rfl, hf3, -, ⟨-, rfl, K, rfl, hbox⟩ | ⟨hc, -⟩⟩
  case inr => exact absurd HV.out hc
  have HF3 := hid (HF2.out.trans' hf3)
  have HBX := hid hbox
  have HS := hid (HSR.out HV.out)
  clear hf3 hbox HCO
  go_wp2_with fail
  refine (HWA.out w3 HF3.out).mono ?_
  rintro e w4 ⟨vw, ys, rfl, ho4, hw4, hf4⟩
  have HB4 := hid (HBX.out.fr hf4)
  have HF4 := hid (HF3.out.trans' hf4)
  have HO4 := hid ho4
  have HW4 := hid hw4
  have HWC := hid (walkL_cnt l)
  obtain ⟨aw, cw, rfl, -⟩ := own_len ho4
  have hwI : ((walkL l).length : Int) ≤ 1048576 := by have := HWC.out; have := HCL.out; omega
  clear ho4 hw4 hf4 HWA HBX
  go_wp2_with fail
  go_loopw [7, 8] (fun u i wr => ∃ k : Nat, k ≤ (walkL l).length ∧ i = .int .i64 k ∧ Hid (wr.ownsRow w4.heap.size 3 1 u k (iV (((walkL l).map Nd.ln).take k))) ∧ Hid (Fr (fun _ => False) w4 wr)) (fun _ i _ => (walkL l).length - (intOf i).toNat)
  case atStart => exact ⟨0, Nat.zero_le _, rfl, hid (World.ownsRow_nil _ _ _ _), hid (Fr.refl _ _)⟩
  case round =>
    obtain ⟨k, hk, rfl, HR, HF⟩ := hrel
    obtain ⟨ar, cr, rfl, -⟩ := own_len HR.out
    by_cases hlt : k < (walkL l).length
    · obtain ⟨x, hx⟩ : ∃ x, (walkL l)[k]? = some x := ⟨_, List.getElem?_eq_getElem hlt⟩
      obtain ⟨g, cg, e, hcx⟩ := HW4.out.ln HO4.out hx
      simp only [Value.slice.injEq] at e
      obtain ⟨rfl, -, rfl⟩ := e
      have hcc := HF.out.cell hcx not_false
      have HNX := hid (show ((walkL l).map Nd.ln).take (k + 1) = ((walkL l).map Nd.ln).take k ++ [x.ln] by rw [List.take_add_one, List.getElem?_map, hx]; rfl)
      have hlt' : (k : Int) < (walkL l).length := by omega
      have HOW := hid (World.ownsRow.alloc HR.out (.cells #[.int .i64 x.ln] 3))
      have HCE := hid (cell_new1 wr (.int .i64 x.ln) 3 (0, 0))
      have HFA := hid (HF.out.alloc (.cells #[.int .i64 x.ln] 3))
      have HK := hid (show k + 1 ≤ 1099511627776 by have := HWC.out; have := HCL.out; omega)
      clear hcx hx
      go_wp2_with (at_builtin; go_must (refine wpList_append1 rfl (.tmp 41) (.tmp 47) 31 rfl 3 (.int .i64 0) 8 Tryd.underlying31 Tryd.info_int rfl _ rfl w4.heap.size k (iV (((walkL l).map Nd.ln).take k)) HOW.out wr.heap.size 1 (.int .i64 x.ln) rfl HCE.out rfl HK.out (by decide) HFA.out.size ?_))
      intro g9 cap9 w9 ho9 hf9 hn9
      have HO9 := hid (show w9.ownsRow w4.heap.size 3 1 (.slice (some ⟨g9, 0, none⟩) (k + 1) cap9) (k + 1) (iV (((walkL l).map Nd.ln).take (k + 1))) by rw [HNX.out, ← iV_snoc]; exact ho9)
      have HF9 := hid (HFA.out.trans hf9 (U := fun _ => False) (fun _ _ h => h) (fun r hr e => by have := (HR.out.lt r e.symm).1; omega))
      clear ho9 hf9 hn9
      go_wp2_with fail
      go_roundw
      case rel => exact ⟨k + 1, by omega, by go_num, HO9, HF9⟩
      case measure => simp [intOf]; omega
    · obtain rfl : k = (walkL l).length := by omega
      rw [List.take_of_length_le (by simp)] at HR
      have HLN := hid (show ((walkL l).map Nd.ln).length = (walkL l).length by simp)
      have HAM := hid (fun (n : Int) (w2 : World) (hf : Fr (fun _ => False) wr w2) => among_any ((walkL l).map Nd.ln) n _ _ w2 (hf.own (by rw [HLN.out]; exact HR.out) fun _ _ => not_false) (by rw [HLN.out]; have := HWC.out; have := HCL.out; omega))
      have HB := hid (HB4.out.fr HF.out)
      have HFR := hid (HF4.out.trans' HF.out)
      clear HR HF HB4 HO4 HW4
      generalize wr = wo at *
      go_wp2_with fail
      go_loopw [9] (fun i wr => ∃ k : Nat, k ≤ sumR 7 l + 2 ∧ i = .int .i64 k ∧ Hid (Fr (fun _ => False) wo wr)) (fun i _ => sumR 7 l + 2 - (intOf i).toNat)
      case atStart => exact ⟨0, Nat.zero_le _, rfl, hid (Fr.refl _ _)⟩
      case round =>
        obtain ⟨k, hk, rfl, HF⟩ := hrel
        have HLE := hid (clen_any (HB.out.fr HF.out))
        have hkI : (k : Int) ≤ 28674 := by have := HS.out; omega
        go_wp2_with fail
        refine HLE.out.mono ?_
        rintro e w5 ⟨rfl, hf5⟩
        have HF5 := hid (HF.out.trans' hf5)
        clear hf5 HLE
        by_cases hlt : k < sumR 7 l + 2
        · have hlt' : (k : Int) < ((sumR 7 l + 2 : Nat) : Int) := by omega
          have HLI := hid (cline_any (HB.out.fr HF5.out) (by have := HS.out; omega) (k : Int))
          go_wp2_with fail
          refine HLI.out.mono ?_
          rintro e w6 ⟨n, rfl, ⟨hn, -⟩, hf6⟩
          have HF6 := hid (HF5.out.trans' hf6)
          have HN := hid hn
          clear hf6 hn HLI
          by_cases hn0 : n = 0
          · subst hn0
            go_wp2_with fail
            go_roundw
            case rel => exact ⟨k + 1, by omega, by go_num, HF6⟩
            case measure => simp [intOf]; omega
          · have hbn : (n != 0) = true := by rw [bne_iff_ne]; exact hn0
            have HA2 := hid (HAM.out n w6 HF6.out)
            have HD := hid (show decide (n ∈ (walkL l).map Nd.ln) = true from decide_eq_true (by
              rcases HN.out with h | ⟨y, hy, e⟩
              · exact absurd h hn0
              · exact List.mem_map.2 ⟨y, hy, e⟩))
            go_wp2_with fail
            refine HA2.out.mono ?_
            rintro e w7 ⟨rfl, hf7⟩
            have HF7 := hid (HF6.out.trans' hf7)
            rw [HD.out]
            clear hf7
            go_wp2_with fail
            go_roundw
            case rel => exact ⟨k + 1, by omega, by go_num, HF7⟩
            case measure => simp [intOf]; omega
        · obtain rfl : k = sumR 7 l + 2 := by omega
          go_wp2_with fail
          go_ret
          exact ⟨rfl, HFR.out.trans' HF5.out⟩
end
section
open Go.ChangeShapes Go.WideShapes Go.ChangeAt Go.RowKit

def in64 (n : Int) : Prop := -9223372036854775808 ≤ n ∧ n ≤ 9223372036854775807
mutual
def V.wf : V → Prop
  | .mk k n _ l => in64 k ∧ in64 n ∧ wfL l
def wfL : List V → Prop
  | [] => True
  | x :: r => V.wf x ∧ wfL r
end
theorem wfL_of : ∀ (l : List V), (∀ (i : Nat) (x : V), l[i]? = some x → x.wf) → wfL l
  | [], _ => trivial
  | x :: r, h => ⟨h 0 x rfl, wfL_of r fun i y hy => h (i + 1) y (by simpa using hy)⟩
section
variable {H : Type} {enc : TypeId × Value → H}

theorem bulkAll_le : ∀ (l : List V) (ds : List (DataW H)), l.length = ds.length → (∀ (i : Nat) (x : V) (d : DataW H), l[i]? = some x → ds[i]? = some d → x.size ≤ Rows.uptoBulk d) → sizeL l ≤ Rows.uptoBulkAll ds
  | [], [], _, _ => by simp [sizeL]
  | [], _ :: _, h, _ => by simp at h
  | _ :: _, [], h, _ => by simp at h
  | x :: r, d :: ds, h, hp => by
    have h1 := hp 0 x d rfl rfl
    have h2 := bulkAll_le r ds (by simpa using h) (fun i y e hy he => hp (i + 1) y e (by simpa using hy) (by simpa using he))
    simp only [sizeL, Rows.uptoBulkAll]
    omega

/-- What a reading of a value gives. -/
def ValueOpen (enc : TypeId × Value → H) (W : World) (fuel : Nat) : Prop :=
  ∀ (cs : List Value) (y : DataW H × List MemPlace), DataW.trod enc Tryd.prog W 0 (fun _ => true) true fuel 34 cs = some y →
    ∃ (x : V) (u : Array Value), cs = u.toList ∧ VIn (fun _ => True) W x u ∧ x.size ≤ Rows.uptoBulk y.1 ∧ x.wf

theorem cells_api : Tryd.prog.cellsOf 34 = 4 := by kernel_rfl

theorem vin_size {D : Nat → Prop} {w : World} {x : V} {u : Array Value} (h : VIn D w x u) : u.size = 4 := by
  obtain ⟨v, rfl, _⟩ := h.open
  rfl
set_option maxRecDepth 100000 in
theorem open_slice {W : World} {fuel : Nat} (ih : ∀ m, m < fuel → ValueOpen enc W m) {cs : List Value} {y : DataW H × List MemPlace} (h : DataW.trod enc Tryd.prog W 0 (fun _ => true) true fuel 32 cs = some y) :
    ∃ (l : List V) (v : Value), cs = [v] ∧ VL (fun _ => True) W l v ∧ sizeL l ≤ Rows.uptoBulk y.1 ∧ wfL l := by
  rcases DataW.trod_slice Tryd.underlying32 h with ⟨rfl, rfl⟩ | ⟨a, len, cap, elems, rest, n, rfl, rfl, rfl, -, hl, hm, hel, hin, -⟩
  · exact ⟨[], _, rfl, VL.nil _ _, by simp [sizeL], trivial⟩
  · have hspot : 0 < len → a.spot = none := by
      intro h0
      have h1 := hin 0 h0
      rw [List.getElem?_eq_getElem (by omega), cells_api] at h1
      obtain ⟨cs', hcells, -⟩ := Option.bind_eq_some_iff.1 h1
      obtain ⟨-, hcl, hcell⟩ := World.cells?_some hcells
      have h2 := hcell 0 (by omega)
      rw [List.getElem?_eq_getElem (by omega)] at h2
      simpa [Addr.add] using World.cell?_spot h2
    have key : ∀ i, i < len → ∃ (x : V) (u : Array Value) (e : DataW H × List MemPlace), elems[i]? = some e ∧ (∃ b o, some a = some (⟨b, o, none⟩ : Addr) ∧ ∀ j, j < 4 → W.cell? ⟨b, o + i * 4 + j, none⟩ = u[j]?) ∧ VIn (fun _ => True) W x u ∧ x.size ≤ Rows.uptoBulk e.1 ∧ x.wf := by
      intro i hi
      have h1 := hin i hi
      have h2 : elems[i]? = some elems[i] := List.getElem?_eq_getElem (by omega)
      rw [h2, cells_api] at h1
      obtain ⟨cs', hcells, htr⟩ := Option.bind_eq_some_iff.1 h1
      obtain ⟨-, hcl, hcell⟩ := World.cells?_some hcells
      obtain ⟨x, u, rfl, hv, hs, hw⟩ := ih n (by omega) cs' _ htr
      obtain ⟨b, o, sp⟩ := a
      have hsp : sp = none := hspot (by omega)
      subst hsp
      refine ⟨x, u, elems[i], h2, ⟨b, o, rfl, fun j hj => ?_⟩, hv, hs, hw⟩
      have := hcell j hj
      rw [addr_add, addr_add] at this
      simpa using this
    obtain ⟨f, us, es, hf⟩ : ∃ (f : Nat → V) (us : Nat → Array Value) (es : Nat → DataW H × List MemPlace), ∀ i, i < len → elems[i]? = some (es i) ∧ (∃ b o, some a = some (⟨b, o, none⟩ : Addr) ∧ ∀ j, j < 4 → W.cell? ⟨b, o + i * 4 + j, none⟩ = (us i)[j]?) ∧ VIn (fun _ => True) W (f i) (us i) ∧ (f i).size ≤ Rows.uptoBulk (es i).1 ∧ (f i).wf := by
      classical
      refine ⟨fun i => if h : i < len then (key i h).choose else .mk 0 0 ⟨#[]⟩ [], fun i => if h : i < len then (key i h).choose_spec.choose else #[], fun i => if h : i < len then (key i h).choose_spec.choose_spec.choose else (.nil, []), fun i hi => ?_⟩
      simp only [dif_pos hi]
      exact (key i hi).choose_spec.choose_spec.choose_spec
    have hlen : ((List.range len).map f).length = len := by simp
    have hget : ∀ i x, ((List.range len).map f)[i]? = some x → i < len ∧ x = f i := by
      intro i x hx
      have hi : i < len := by simpa using (List.getElem?_eq_some_iff.1 hx).1
      rw [List.getElem?_map, List.getElem?_range hi] at hx
      exact ⟨hi, (Option.some.inj hx).symm⟩
    refine ⟨(List.range len).map f, _, rfl, ⟨some a, cap, us, by rw [hlen], by rw [hlen]; exact hl, hm, (fun h => by cases h), fun i hi => ?_, fun i x hx => ?_⟩, ?_, ?_⟩
    · rw [hlen] at hi
      obtain ⟨-, ⟨b, o, e, hc⟩, hv, -⟩ := hf i hi
      exact ⟨b, o, e, trivial, vin_size hv, hc⟩
    · obtain ⟨hi, rfl⟩ := hget i x hx
      exact (hf i hi).2.2.1
    · have := bulkAll_le ((List.range len).map f) (elems.map (·.1)) (by simp [hel]) (fun i x d hx hd => by
        obtain ⟨hi, rfl⟩ := hget i x hx
        obtain ⟨he, -, -, hs, -⟩ := hf i hi
        rw [List.getElem?_map, he] at hd
        simp at hd
        subst hd
        exact hs)
      simp only [Rows.uptoBulk]
      omega
    · exact wfL_of _ fun i x hx => by
        obtain ⟨hi, rfl⟩ := hget i x hx
        exact (hf i hi).2.2.2.2

theorem i64_wf {n : Int} (h : (Lit.int .i64 n).wf = true) : in64 n := i64_of_wf h

set_option maxRecDepth 100000 in
theorem open_value (W : World) : ∀ fuel, ValueOpen enc W fuel := by
  intro fuel
  induction fuel using Nat.strongRecOn with
  | _ fuel ih =>
    intro cs y h
    obtain ⟨xs, m, rfl, rfl, hl, hlen, hf⟩ := DataW.trod_struct Tryd.underlying34 h
    rw [cells_api] at hl
    match xs, hlen, cs, hl with
    | [y0, y1, y2, y3], _, [v0, v1, v2, v3], _ =>
      have g0 := hf 0 _ rfl
      have g1 := hf 1 _ rfl
      have g2 := hf 2 _ rfl
      have g3 := hf 3 _ rfl
      have g0 : DataW.trod enc Tryd.prog W 0 (fun _ => true) true m 3 [v0] = some y0 := g0
      have g1 : DataW.trod enc Tryd.prog W 0 (fun _ => true) true m 2 [v1] = some y1 := g1
      have g2 : DataW.trod enc Tryd.prog W 0 (fun _ => true) true m 9 [v2] = some y2 := g2
      have g3 : DataW.trod enc Tryd.prog W 0 (fun _ => true) true m 32 [v3] = some y3 := g3
      obtain ⟨k, e0, rfl, w0⟩ := DataW.trod_int Tryd.underlying3 g0
      obtain ⟨n, e1, rfl, w1⟩ := DataW.trod_int Tryd.underlying2 g1
      obtain ⟨s, e2, rfl, -⟩ := DataW.trod_string Tryd.underlying9 g2
      obtain ⟨l, v, e3, hv, hs, hw⟩ := open_slice (fun j hj => ih j (by omega)) g3
      obtain rfl : v0 = Value.int .i64 k := (List.cons.inj (show [v0] = [Value.int .i64 k] from e0)).1
      obtain rfl : v1 = Value.int .i64 n := (List.cons.inj (show [v1] = [Value.int .i64 n] from e1)).1
      obtain rfl : v2 = Value.string s := (List.cons.inj (show [v2] = [Value.string s] from e2)).1
      obtain rfl : v3 = v := (List.cons.inj (show [v3] = [v] from e3)).1
      refine ⟨.mk k n s l, _, rfl, hv.close k n s, ?_, i64_wf w0, i64_wf w1, hw⟩
      simp only [List.map_cons, List.map_nil, Rows.uptoBulk, Rows.uptoBulkAll, V.size]
      have : s.data.toList.length = s.size := by rw [Array.length_toList]; rfl
      omega
end
end
section
open Go.ChangeShapes Go.WideShapes Go.ChangeAt Go.RowKit

mutual
def Nd.wf : Nd → Prop
  | .mk op ln _ v l => in64 op ∧ in64 ln ∧ v.wf ∧ nwfL l
def nwfL : List Nd → Prop
  | [] => True
  | x :: r => Nd.wf x ∧ nwfL r
end
theorem nwfL_of : ∀ (l : List Nd), (∀ (i : Nat) (x : Nd), l[i]? = some x → x.wf) → nwfL l
  | [], _ => trivial
  | x :: r, h => ⟨h 0 x rfl, nwfL_of r fun i y hy => h (i + 1) y (by simpa using hy)⟩
section
variable {H : Type} {enc : TypeId × Value → H}

theorem bulkAllN_le : ∀ (l : List Nd) (ds : List (DataW H)), l.length = ds.length → (∀ (i : Nat) (x : Nd) (d : DataW H), l[i]? = some x → ds[i]? = some d → x.sz ≤ Rows.uptoBulk d) → szL l ≤ Rows.uptoBulkAll ds
  | [], [], _, _ => by simp [szL]
  | [], _ :: _, h, _ => by simp at h
  | _ :: _, [], h, _ => by simp at h
  | x :: r, d :: ds, h, hp => by
    have h1 := hp 0 x d rfl rfl
    have h2 := bulkAllN_le r ds (by simpa using h) (fun i y e hy he => hp (i + 1) y e (by simpa using hy) (by simpa using he))
    simp only [szL, Rows.uptoBulkAll]
    omega

/-- What a reading of a node gives. -/
def NodeOpen (enc : TypeId × Value → H) (W : World) (fuel : Nat) : Prop :=
  ∀ (cs : List Value) (y : DataW H × List MemPlace), DataW.trod enc Tryd.prog W 0 (fun _ => true) true fuel 36 cs = some y →
    ∃ (x : Nd) (u : Array Value), cs = u.toList ∧ NIn (fun _ => True) W x u ∧ x.sz ≤ Rows.uptoBulk y.1 ∧ x.wf

theorem cells_node : Tryd.prog.cellsOf 36 = 8 := by kernel_rfl

theorem nin_size {D : Nat → Prop} {w : World} {x : Nd} {u : Array Value} (h : NIn D w x u) : u.size = 8 := by
  obtain ⟨va, v, rfl, _⟩ := h.open
  rfl
set_option maxRecDepth 100000 in
theorem open_nodes {W : World} {fuel : Nat} (ih : ∀ m, m < fuel → NodeOpen enc W m) {cs : List Value} {y : DataW H × List MemPlace} (h : DataW.trod enc Tryd.prog W 0 (fun _ => true) true fuel 22 cs = some y) :
    ∃ (l : List Nd) (v : Value), cs = [v] ∧ NL (fun _ => True) W l v ∧ szL l ≤ Rows.uptoBulk y.1 ∧ nwfL l := by
  rcases DataW.trod_slice Tryd.underlying22 h with ⟨rfl, rfl⟩ | ⟨a, len, cap, elems, rest, n, rfl, rfl, rfl, -, hl, hm, hel, hin, -⟩
  · exact ⟨[], _, rfl, NL.nil _ _, by simp [szL], trivial⟩
  · have hspot : 0 < len → a.spot = none := by
      intro h0
      have h1 := hin 0 h0
      rw [List.getElem?_eq_getElem (by omega), cells_node] at h1
      obtain ⟨cs', hcells, -⟩ := Option.bind_eq_some_iff.1 h1
      obtain ⟨-, hcl, hcell⟩ := World.cells?_some hcells
      have h2 := hcell 0 (by omega)
      rw [List.getElem?_eq_getElem (by omega)] at h2
      simpa [Addr.add] using World.cell?_spot h2
    have key : ∀ i, i < len → ∃ (x : Nd) (u : Array Value) (e : DataW H × List MemPlace), elems[i]? = some e ∧ (∃ b o, some a = some (⟨b, o, none⟩ : Addr) ∧ ∀ j, j < 8 → W.cell? ⟨b, o + i * 8 + j, none⟩ = u[j]?) ∧ NIn (fun _ => True) W x u ∧ x.sz ≤ Rows.uptoBulk e.1 ∧ x.wf := by
      intro i hi
      have h1 := hin i hi
      have h2 : elems[i]? = some elems[i] := List.getElem?_eq_getElem (by omega)
      rw [h2, cells_node] at h1
      obtain ⟨cs', hcells, htr⟩ := Option.bind_eq_some_iff.1 h1
      obtain ⟨-, hcl, hcell⟩ := World.cells?_some hcells
      obtain ⟨x, u, rfl, hv, hs, hw⟩ := ih n (by omega) cs' _ htr
      obtain ⟨b, o, sp⟩ := a
      have hsp : sp = none := hspot (by omega)
      subst hsp
      refine ⟨x, u, elems[i], h2, ⟨b, o, rfl, fun j hj => ?_⟩, hv, hs, hw⟩
      have := hcell j hj
      rw [addr_add, addr_add] at this
      simpa using this
    obtain ⟨f, us, es, hf⟩ : ∃ (f : Nat → Nd) (us : Nat → Array Value) (es : Nat → DataW H × List MemPlace), ∀ i, i < len → elems[i]? = some (es i) ∧ (∃ b o, some a = some (⟨b, o, none⟩ : Addr) ∧ ∀ j, j < 8 → W.cell? ⟨b, o + i * 8 + j, none⟩ = (us i)[j]?) ∧ NIn (fun _ => True) W (f i) (us i) ∧ (f i).sz ≤ Rows.uptoBulk (es i).1 ∧ (f i).wf := by
      classical
      refine ⟨fun i => if h : i < len then (key i h).choose else .mk 0 0 ⟨#[]⟩ (.mk 0 0 ⟨#[]⟩ []) [], fun i => if h : i < len then (key i h).choose_spec.choose else #[], fun i => if h : i < len then (key i h).choose_spec.choose_spec.choose else (.nil, []), fun i hi => ?_⟩
      simp only [dif_pos hi]
      exact (key i hi).choose_spec.choose_spec.choose_spec
    have hlen : ((List.range len).map f).length = len := by simp
    have hget : ∀ i x, ((List.range len).map f)[i]? = some x → i < len ∧ x = f i := by
      intro i x hx
      have hi : i < len := by simpa using (List.getElem?_eq_some_iff.1 hx).1
      rw [List.getElem?_map, List.getElem?_range hi] at hx
      exact ⟨hi, (Option.some.inj hx).symm⟩
    refine ⟨(List.range len).map f, _, rfl, ⟨some a, cap, us, by rw [hlen], by rw [hlen]; exact hl, hm, (fun h => by cases h), fun i hi => ?_, fun i x hx => ?_⟩, ?_, ?_⟩
    · rw [hlen] at hi
      obtain ⟨-, ⟨b, o, e, hc⟩, hv, -⟩ := hf i hi
      exact ⟨b, o, e, trivial, nin_size hv, hc⟩
    · obtain ⟨hi, rfl⟩ := hget i x hx
      exact (hf i hi).2.2.1
    · have := bulkAllN_le ((List.range len).map f) (elems.map (·.1)) (by simp [hel]) (fun i x d hx hd => by
        obtain ⟨hi, rfl⟩ := hget i x hx
        obtain ⟨he, -, -, hs, -⟩ := hf i hi
        rw [List.getElem?_map, he] at hd
        simp at hd
        subst hd
        exact hs)
      simp only [Rows.uptoBulk]
      omega
    · exact nwfL_of _ fun i x hx => by
        obtain ⟨hi, rfl⟩ := hget i x hx
        exact (hf i hi).2.2.2.2

set_option maxRecDepth 100000 in
theorem open_node (W : World) : ∀ fuel, NodeOpen enc W fuel := by
  intro fuel
  induction fuel using Nat.strongRecOn with
  | _ fuel ih =>
    intro cs y h
    obtain ⟨xs, m, rfl, rfl, hl, hlen, hf⟩ := DataW.trod_struct Tryd.underlying36 h
    rw [cells_node] at hl
    match xs, hlen, cs, hl with
    | [y0, y1, y2, y3, y4], _, [v0, v1, v2, v3, v4, v5, v6, v7], _ =>
      have g0 := hf 0 _ rfl
      have g1 := hf 1 _ rfl
      have g2 := hf 2 _ rfl
      have g3 := hf 3 _ rfl
      have g4 := hf 4 _ rfl
      have g0 : DataW.trod enc Tryd.prog W 0 (fun _ => true) true m 3 [v0] = some y0 := g0
      have g1 : DataW.trod enc Tryd.prog W 0 (fun _ => true) true m 3 [v1] = some y1 := g1
      have g2 : DataW.trod enc Tryd.prog W 0 (fun _ => true) true m 9 [v2] = some y2 := g2
      have g3 : DataW.trod enc Tryd.prog W 0 (fun _ => true) true m 34 [v3, v4, v5, v6] = some y3 := g3
      have g4 : DataW.trod enc Tryd.prog W 0 (fun _ => true) true m 22 [v7] = some y4 := g4
      obtain ⟨k, e0, rfl, w0⟩ := DataW.trod_int Tryd.underlying3 g0
      obtain ⟨n, e1, rfl, w1⟩ := DataW.trod_int Tryd.underlying3 g1
      obtain ⟨s, e2, rfl, -⟩ := DataW.trod_string Tryd.underlying9 g2
      obtain ⟨xv, u, e3, hv, hs, hw⟩ := open_value W m _ _ g3
      obtain ⟨l, vl, e4, hnl, hsl, hwl⟩ := open_nodes (fun j hj => ih j (by omega)) g4
      obtain rfl : v0 = Value.int .i64 k := (List.cons.inj (show [v0] = [Value.int .i64 k] from e0)).1
      obtain rfl : v1 = Value.int .i64 n := (List.cons.inj (show [v1] = [Value.int .i64 n] from e1)).1
      obtain rfl : v2 = Value.string s := (List.cons.inj (show [v2] = [Value.string s] from e2)).1
      obtain rfl : v7 = vl := (List.cons.inj (show [v7] = [vl] from e4)).1
      obtain ⟨vv, rfl, hvl⟩ := hv.open
      simp at e3
      obtain ⟨rfl, rfl, rfl, rfl⟩ := e3
      refine ⟨.mk k n s xv l, _, rfl, hnl.close k n s xv hvl, ?_, i64_wf w0, i64_wf w1, hw, hwl⟩
      simp only [List.map_cons, List.map_nil, Rows.uptoBulk, Rows.uptoBulkAll, Nd.sz]
      have : s.data.toList.length = s.size := by rw [Array.length_toList]; rfl
      omega
end
end
end Go.Proofs.YtbegahbagnflnaaDoor
