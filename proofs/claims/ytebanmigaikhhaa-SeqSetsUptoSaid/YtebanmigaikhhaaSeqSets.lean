/- The statement SeqSets, walked. -/
import Derived.Test.YtebanmigaikhhaaSetsP
import Derived.Test.YtebanmigaikhhaaRefSame
namespace Go.Proofs.Ytebanmigaikhhaa
open Go.RowKit Go.Sort

set_option maxRecDepth 100000 in
set_option maxHeartbeats 6400000 in
theorem seqSets_any (l : List V) (x : V) (v : Value) (u : Array Value) (w : World) (h : VL T w l v) (hx : VIn T w x u) (hl : sizeL l ≤ 1048576) (hxs : x.size ≤ 1048576) :
    Calls Try.prog 7 #[v, .agg u] w fun e w' => e = .returned (.bool true) ∧ Fr (fun _ => False) w w' := by
  have hll := len_le_sizeL l
  obtain ⟨v9, rfl, a9, c9, us9, rfl, -⟩ := hx.open
  have hf := (Fr.refl (fun _ => False) w).alloc (.cells #[.int .i64 x.k, .int .i64 x.n, .string x.s, .slice a9 x.l.length c9] 30)
  have hr := heap_alloc_new w (.cells #[.int .i64 x.k, .int .i64 x.n, .string x.s, .slice a9 x.l.length c9] 30)
  obtain ⟨a, c, us, rfl, hlc, hcm, -⟩ := id h
  have hI : (l.length : Int) ≤ 1048576 := by omega
  have HF := hid hf; have HR := hid hr; have HV := hid h; have HX := hid hx; have HL := hid hl; have HXS := hid hxs
  clear hf hr h hx hl hxs hll
  go_enter Try.func7, Try.ntmps7
  go_wp2_with fail
  refine (first_any _).mono ?_
  rintro e w1 ⟨rfl, hf1⟩
  have HF1 := hid (HF.out.trans' hf1)
  have HR1 := hid (hf1.heap HR.out not_false)
  clear hf1 HF HR
  go_wp2_with fail
  refine (rights_any 40 l (by have := HL.out; omega) T _ _ (HV.out.fr HF1.out)).mono ?_
  rintro e w2 ⟨rfl, hf2⟩
  have HF2 := hid (HF1.out.trans' hf2)
  have HR2 := hid (hf2.heap HR1.out not_false)
  clear hf2 HF1 HR1
  by_cases hsm : (decide (l.length ≤ 40) && l.all V.right) = true
  · rw [hsm]
    go_wp2_with fail
    refine (right_any l _ _ (HV.out.fr HF2.out) (by have := HL.out; omega)).mono ?_
    rintro e w3 ⟨rfl, hf3⟩
    have HF3 := hid (HF2.out.trans' hf3)
    have HR3 := hid (hf3.heap HR2.out not_false)
    clear hf3 HF2 HR2
    by_cases hrl : rightL l = true
    · rw [hrl]
      have z0 : w3.cell? ⟨w.heap.size, 0, none⟩ = some (.int .i64 x.k) := by rw [cell_of_row _ _ 0 _ _ _ HR3.out]; rfl
      have z1 : w3.cell? ⟨w.heap.size, 1, none⟩ = some (.int .i64 x.n) := by rw [cell_of_row _ _ 1 _ _ _ HR3.out]; rfl
      have z2 : w3.cell? ⟨w.heap.size, 2, none⟩ = some (.string x.s) := by rw [cell_of_row _ _ 2 _ _ _ HR3.out]; rfl
      have z3 : w3.cell? ⟨w.heap.size, 3, none⟩ = some (.slice a9 x.l.length c9) := by rw [cell_of_row _ _ 3 _ _ _ HR3.out]; rfl
      go_wp2_with fail
      refine (rright_any x (by have := HXS.out; omega) T _ _ (HX.out.fr HF3.out)).mono ?_
      rintro e w4 ⟨rfl, hf4⟩
      have HF4 := hid (HF3.out.trans' hf4)
      have HR4 := hid (hf4.heap HR3.out not_false)
      clear hf4 HF3 HR3 z0 z1 z2 z3
      by_cases hrx : x.right = true
      · rw [hrx]
        have HRL := hid hrl; have HRX := hid hrx
        have h40 : l.length ≤ 40 := by
          simp only [Bool.and_eq_true, decide_eq_true_eq] at hsm
          exact hsm.1
        clear hrl hrx hsm
        have HK := hid (right_krL HRL.out)
        have HWS := hid (pWith_says HRL.out x)
        have HWL := hid (pWith_le l x)
        have z0 : w4.cell? ⟨w.heap.size, 0, none⟩ = some (.int .i64 x.k) := by rw [cell_of_row _ _ 0 _ _ _ HR4.out]; rfl
        have z1 : w4.cell? ⟨w.heap.size, 1, none⟩ = some (.int .i64 x.n) := by rw [cell_of_row _ _ 1 _ _ _ HR4.out]; rfl
        have z2 : w4.cell? ⟨w.heap.size, 2, none⟩ = some (.string x.s) := by rw [cell_of_row _ _ 2 _ _ _ HR4.out]; rfl
        have z3 : w4.cell? ⟨w.heap.size, 3, none⟩ = some (.slice a9 x.l.length c9) := by rw [cell_of_row _ _ 3 _ _ _ HR4.out]; rfl
        go_wp2_with fail
        refine (with_any l x _ _ _ (HV.out.fr HF4.out) (HX.out.fr HF4.out) (by have := HL.out; omega) (by have := HXS.out; omega)).mono ?_
        rintro e w5 ⟨v5, rfl, hf5, hv5⟩
        generalize pWith l x = pw at *
        obtain ⟨al, ac⟩ := pw
        have hv5' : VL T w5 al v5 := hv5
        obtain ⟨a5, c5, us5, rfl, -⟩ := id hv5'
        have HF5 := hid (HF4.out.trans' hf5)
        have HR5 := hid (hf5.heap HR4.out not_false)
        have HV5 := hid hv5'
        clear hf5 hv5 hv5' HF4 HR4 z0 z1 z2 z3
        obtain ⟨r0, hr0⟩ : ∃ r0, fidx x l 0 = r0 := ⟨_, rfl⟩
        obtain ⟨r1, hr1⟩ : ∃ r1, fidx x al 0 = r1 := ⟨_, rfl⟩
        have hw3 : ac = 0 → r1 ≠ -1 ∧ al.length ≤ l.length + 1 ∧ (r0 ≠ -1 → al.length = l.length) := by
          have h1 := HWS.out
          rw [hr0] at h1
          rw [← hr1]
          exact h1
        have hwl : al.length ≤ l.length + 1 ∧ sizeL al ≤ sizeL l + x.size := HWL.out
        have hr0b : -1 ≤ r0 ∧ r0 ≤ 1048576 := by have := fidx_ge x l 0; omega
        have hr1b : -1 ≤ r1 ∧ r1 ≤ 1048578 := by have := fidx_ge x al 0; omega
        have hWLn := pWithout_len l x
        rw [hr0] at hWLn
        have hpos : r0 ≠ -1 → 0 < l.length := fun h => fidx_pos (by rw [hr0]; exact h)
        have HW3 := hid hw3; have HAL := hid hwl; have HR0 := hid hr0; have HR1 := hid hr1; have HWN := hid hWLn; have HPOS := hid hpos
        clear hw3 hwl hr0 hr1 hWLn hpos HWS HWL
        go_upto_region 7 with fail
        go_cut [69] from 41 to 69 (fun b wx => b = .bool false ∧ Hid (Fr (fun _ => False) w5 wx))
        case first =>
          by_cases hac : ac = 0
          · obtain ⟨q1, q2, q3⟩ := HW3.out hac
            subst hac
            have y1 : (r1 + 1 == 0) = false := by rw [beq_eq_false_iff_ne]; omega
            have y2 : IntKind.i64.wrap ((al.length : Int) - l.length) = (al.length : Int) - l.length := IntWalk.i64_in _ (by omega)
            have y3 : ¬ (1 : Int) < (al.length : Int) - l.length := by omega
            have z0 : w5.cell? ⟨w.heap.size, 0, none⟩ = some (.int .i64 x.k) := by rw [cell_of_row _ _ 0 _ _ _ HR5.out]; rfl
            have z1 : w5.cell? ⟨w.heap.size, 1, none⟩ = some (.int .i64 x.n) := by rw [cell_of_row _ _ 1 _ _ _ HR5.out]; rfl
            have z2 : w5.cell? ⟨w.heap.size, 2, none⟩ = some (.string x.s) := by rw [cell_of_row _ _ 2 _ _ _ HR5.out]; rfl
            have z3 : w5.cell? ⟨w.heap.size, 3, none⟩ = some (.slice a9 x.l.length c9) := by rw [cell_of_row _ _ 3 _ _ _ HR5.out]; rfl
            have HQ3 := hid q3
            clear q3 q2
            go_wp2_with fail
            refine (find_any al x _ _ _ HV5.out (HX.out.fr HF5.out) (by have := HAL.out; have := HL.out; have := HXS.out; omega)).mono ?_
            rintro e w6 ⟨rfl, hf6⟩
            rw [HR1.out]
            have HG6 := hid hf6
            have HR6 := hid (hf6.heap HR5.out not_false)
            clear hf6 z0 z1 z2 z3
            have z0 : w6.cell? ⟨w.heap.size, 0, none⟩ = some (.int .i64 x.k) := by rw [cell_of_row _ _ 0 _ _ _ HR6.out]; rfl
            have z1 : w6.cell? ⟨w.heap.size, 1, none⟩ = some (.int .i64 x.n) := by rw [cell_of_row _ _ 1 _ _ _ HR6.out]; rfl
            have z2 : w6.cell? ⟨w.heap.size, 2, none⟩ = some (.string x.s) := by rw [cell_of_row _ _ 2 _ _ _ HR6.out]; rfl
            have z3 : w6.cell? ⟨w.heap.size, 3, none⟩ = some (.slice a9 x.l.length c9) := by rw [cell_of_row _ _ 3 _ _ _ HR6.out]; rfl
            go_wp2_with fail
            refine (find_any l x _ _ _ (HV.out.fr (HF5.out.trans' HG6.out)) (HX.out.fr (HF5.out.trans' HG6.out)) (by have := HL.out; omega)).mono ?_
            rintro e w7 ⟨rfl, hf7⟩
            rw [HR0.out]
            have HG7 := hid (HG6.out.trans' hf7)
            clear hf7 z0 z1 z2 z3
            by_cases hr : r0 = -1
            · have y4 : ¬ (0 : Int) < r0 + 1 := by omega
              clear hr
              go_wp2_with fail
              go_meet
              exact ⟨by first | rfl | (rw [decide_eq_false (show ¬ (1 : Int) < (al.length : Int) - l.length by omega)]), HG7⟩
            · have y4 : (0 : Int) < r0 + 1 := by omega
              have y5 := HQ3.out hr
              have y6 : ((al.length : Int) != l.length) = false := by rw [y5]; simp
              clear hr y5
              go_wp2_with fail
              go_meet
              exact ⟨by first | rfl | (rw [decide_eq_false (show ¬ (1 : Int) < (al.length : Int) - l.length by omega)]), HG7⟩
          · have y1 : (ac == 0) = false := by rw [beq_eq_false_iff_ne]; exact hac
            clear hac
            go_wp2_with fail
            go_meet
            exact ⟨rfl, hid (Fr.refl _ _)⟩
        case rest =>
        obtain ⟨rfl, HG⟩ := hcut
        have HF6 := hid (HF5.out.trans' HG.out)
        have HR6 := hid (HG.out.heap HR5.out not_false)
        clear HG HF5 HR5 HV5 HW3 HAL HR1 hr1b
        generalize wc = w6 at *
        have z0 : w6.cell? ⟨w.heap.size, 0, none⟩ = some (.int .i64 x.k) := by rw [cell_of_row _ _ 0 _ _ _ HR6.out]; rfl
        have z1 : w6.cell? ⟨w.heap.size, 1, none⟩ = some (.int .i64 x.n) := by rw [cell_of_row _ _ 1 _ _ _ HR6.out]; rfl
        have z2 : w6.cell? ⟨w.heap.size, 2, none⟩ = some (.string x.s) := by rw [cell_of_row _ _ 2 _ _ _ HR6.out]; rfl
        have z3 : w6.cell? ⟨w.heap.size, 3, none⟩ = some (.slice a9 x.l.length c9) := by rw [cell_of_row _ _ 3 _ _ _ HR6.out]; rfl
        go_wp2_with fail
        refine (without_any l x _ _ _ (HV.out.fr HF6.out) (HX.out.fr HF6.out) (by have := HL.out; omega)).mono ?_
        rintro e w7 ⟨v7, rfl, hf7, hv7⟩
        generalize pWithout l x = bl at *
        obtain ⟨a7, c7, us7, rfl, -⟩ := id hv7
        have HF7 := hid (HF6.out.trans' hf7)
        have HR7 := hid (hf7.heap HR6.out not_false)
        clear hf7 hv7 HF6 HR6 z0 z1 z2 z3
        go_upto_region 10 with fail
        go_cut [82] from 73 to 82 (fun b wx => b = .bool false ∧ Hid (Fr (fun _ => False) w7 wx))
        case first =>
          have z0 : w7.cell? ⟨w.heap.size, 0, none⟩ = some (.int .i64 x.k) := by rw [cell_of_row _ _ 0 _ _ _ HR7.out]; rfl
          have z1 : w7.cell? ⟨w.heap.size, 1, none⟩ = some (.int .i64 x.n) := by rw [cell_of_row _ _ 1 _ _ _ HR7.out]; rfl
          have z2 : w7.cell? ⟨w.heap.size, 2, none⟩ = some (.string x.s) := by rw [cell_of_row _ _ 2 _ _ _ HR7.out]; rfl
          have z3 : w7.cell? ⟨w.heap.size, 3, none⟩ = some (.slice a9 x.l.length c9) := by rw [cell_of_row _ _ 3 _ _ _ HR7.out]; rfl
          obtain ⟨t1, ht1⟩ : ∃ t, ((bl.length : Int) == (l.length : Int)) = t := ⟨_, rfl⟩
          obtain ⟨t2, ht2⟩ : ∃ t, (r0 + 1 == 0) = t := ⟨_, rfl⟩
          have ht : t1 = t2 := by
            have h1 := HWN.out
            have h2 := HPOS.out
            rw [← ht1, ← ht2]
            by_cases hr : r0 = -1
            · rw [if_pos hr] at h1
              rw [h1, hr]
              simp
            · rw [if_neg hr] at h1
              have h3 := h2 hr
              rw [(beq_eq_false_iff_ne).2 (show (bl.length : Int) ≠ (l.length : Int) by omega), (beq_eq_false_iff_ne).2 (show r0 + 1 ≠ 0 by omega)]
          subst ht
          go_wp2_with fail
          refine (find_any l x _ _ _ (HV.out.fr HF7.out) (HX.out.fr HF7.out) (by have := HL.out; omega)).mono ?_
          rintro e w8 ⟨rfl, hf8⟩
          rw [HR0.out]
          have HG8 := hid hf8
          clear hf8 z0 z1 z2 z3
          go_wp2_with fail
          go_meet
          exact ⟨by simp, HG8⟩
        case rest =>
        obtain ⟨rfl, HG⟩ := hcut
        have HF8 := hid (HF7.out.trans' HG.out)
        clear HG HF7 HR7 HWN HPOS HR0 hr0b
        generalize wc = w8 at *
        go_wp2_with fail
        refine (sort_any l HK.out h40 (by have := HL.out; omega) _ _ (HV.out.fr HF8.out)).mono ?_
        rintro e w9 ⟨sl, ⟨v9, rfl, hf9, hv9⟩, hpm, hso⟩
        obtain ⟨a10, c10, us10, rfl, -⟩ := id hv9
        have hsl : sl.length = l.length := hpm.length_eq.symm
        have HF9 := hid (HF8.out.trans' hf9)
        have HS9 := hid hv9; have HPM := hid hpm; have HSO := hid hso
        have HKS := hid (krL_perm HK.out hpm)
        clear hf9 hv9 hpm hso HF8
        rw [hsl]
        have HSL := hid hsl
        clear hsl
        have HV9 := hid (HV.out.fr HF9.out)
        have HSV9 := hid (show VL T w9 sl (.slice a10 l.length c10) by have := HS9.out; rwa [HSL.out] at this)
        clear HS9
        go_wp2_with fail
        go_loopw [10] (fun iv wr => ∃ i : Nat, 1 ≤ i ∧ i ≤ l.length + 1 ∧ iv = .int .i64 i ∧ Hid (Fr (fun _ => False) w9 wr)) (fun iv _ => l.length + 1 - (intOf iv).toNat)
        case atStart => exact ⟨1, by omega, by omega, rfl, hid (Fr.refl _ _)⟩
        case round =>
          obtain ⟨i, hi1, hi2, rfl, HF⟩ := hrel
          by_cases hlt : i < l.length
          · have hlt' : (i : Int) < l.length := by omega
            obtain ⟨p, rfl⟩ : ∃ p, i = p + 1 := ⟨i - 1, by omega⟩
            obtain ⟨b1, o1, y1, ay, cy, rfl, hy1, hvy, y0c, y1c, y2c, y3c⟩ := (HSV9.out.fr HF.out).at (k := p + 1) (by have := HSL.out; omega)
            obtain ⟨b2, o2, x1, ax, cx, e2, hx1, hvx, x0c, x1c, x2c, x3c⟩ := (HSV9.out.fr HF.out).at (k := p) (by have := HSL.out; omega)
            simp only [Option.some.injEq, Addr.mk.injEq] at e2
            obtain ⟨rfl, rfl, -⟩ := e2
            have hw1 : IntKind.i64.wrap (p : Int) = (p : Int) := IntWalk.i64_in _ (by omega)
            have hp0 : (0 : Int) ≤ (p : Int) + 1 := by omega
            have hp1 : ((p : Int) + 1).toNat = p + 1 := by omega
            have hp2 : (p : Int) < l.length := by omega
            have hl := (List.pairwise_iff_getElem.1 HSO.out) p (p + 1) (by have := HSL.out; omega) (by have := HSL.out; omega) (by omega)
            have hgy : sl[p + 1]'(by have := HSL.out; omega) = y1 := by have := (List.getElem?_eq_some_iff.1 hy1).2; exact this
            have hgx : sl[p]'(by have := HSL.out; omega) = x1 := by have := (List.getElem?_eq_some_iff.1 hx1).2; exact this
            rw [hgy, hgx] at hl
            have HCL := hid (fun (wz : World) (hz : Fr (fun _ => False) wr wz) => vless_any y1 x1 (krL_mem HKS.out hy1) (krL_mem HKS.out hx1) T T wz _ _ (hvy.fr hz) (hvx.fr hz))
            have hd : decide (cmpV y1 x1 < 0) = false := hl
            rw [hd] at HCL
            have X0 := hid x0c; have X1 := hid x1c; have X2 := hid x2c; have X3 := hid x3c; have Y0 := hid y0c; have Y1 := hid y1c; have Y2 := hid y2c; have Y3 := hid y3c
            clear hl hgy hgx hd hvy hvx x0c x1c x2c x3c y0c y1c y2c y3c hx1 hy1
            go_upto_region 16 with fail
            refine wp_region_cls (fun w' => Fr (fun _ => False) wr w') (by kernel_rfl) (by kernel_rfl) (Fr.refl _ _).drew ?_
            iterate 3 (refine q_take ?_ (by kernel_rfl) ?_ ?_; rotate_left; (· intro w' hS; go_simp; try with_reducible rfl); (try simp only [Act.put, List.setIfInBounds_toArray, List.set_cons_zero, List.set_cons_succ]))
            (refine q_take ?_ (by kernel_rfl) ?_ ?_; rotate_left; (· intro w' hS; have d0 := hS.cell Y0.out not_false; have d1 := hS.cell Y1.out not_false; have d2 := hS.cell Y2.out not_false; have d3 := hS.cell Y3.out not_false; go_simp; try with_reducible rfl); try simp only [Act.put, List.setIfInBounds_toArray, List.set_cons_zero, List.set_cons_succ])
            iterate 4 (refine q_take ?_ (by kernel_rfl) ?_ ?_; rotate_left; (· intro w' hS; go_simp; try with_reducible rfl); (try simp only [Act.put, List.setIfInBounds_toArray, List.set_cons_zero, List.set_cons_succ]))
            (refine q_take ?_ (by kernel_rfl) ?_ ?_; rotate_left; (· intro w' hS; have d0 := hS.cell X0.out not_false; have d1 := hS.cell X1.out not_false; have d2 := hS.cell X2.out not_false; have d3 := hS.cell X3.out not_false; go_simp; try with_reducible rfl); try simp only [Act.put, List.setIfInBounds_toArray, List.set_cons_zero, List.set_cons_succ])
            (refine q_call ?_ ?_ (by kernel_rfl) ?_ ?_; rotate_left 2; (· intro w' hS; go_simp; first | with_reducible rfl | (constructor <;> with_reducible rfl)); (refine ⟨_, fun w' hw => (HCL.out w' hw).mono fun _ _ h => ⟨h.1, hw.trans' h.2⟩, ?_⟩); (try simp only [Act.put, List.setIfInBounds_toArray, List.set_cons_zero, List.set_cons_succ]))
            refine q_end (fun wy hw => ?_)
            have HFy := hid hw
            clear hw
            go_wp2_with fail
            go_roundw
            case rel => exact ⟨p + 1 + 1, by omega, by omega, by go_num, hid (HF.out.trans' HFy.out)⟩
            case measure => simp [intOf]; omega
          · have hlt' : ¬ (i : Int) < l.length := by omega
            have HF10 := hid (HF.out)
            have HV10 := hid (HV9.out.fr HF.out)
            have HSV10 := hid (HSV9.out.fr HF.out)
            generalize wr = w10 at *
            go_wp2_with fail
            go_loopw [11] (fun iv wr => ∃ i : Nat, i ≤ l.length ∧ iv = .int .i64 i ∧ Hid (Fr (fun _ => False) w10 wr)) (fun iv _ => l.length - (intOf iv).toNat)
            case atStart => exact ⟨0, by omega, rfl, hid (Fr.refl _ _)⟩
            case round =>
              clear HF hlt' hlt
              obtain ⟨i, hi2, rfl, HF⟩ := hrel
              by_cases hlt : i < l.length
              · have hlt' : (i : Int) < l.length := by omega
                obtain ⟨b1, o1, z, az, cz, rfl, hz, hvz, z0c, z1c, z2c, z3c⟩ := (HV10.out.fr HF.out).at hlt
                have HVZ := hid hvz; have HZI := hid hz
                have HZ0 := hid z0c; have HZ1 := hid z1c; have HZ2 := hid z2c; have HZ3 := hid z3c
                clear hvz hz z0c z1c z2c z3c
                generalize wr = w11 at *
                go_wp2_with fail
                go_loopw [12, 13] (fun nv kv wr => ∃ (k : Nat) (m : Int), k ≤ l.length ∧ -1000 ≤ m ∧ m ≤ 1000 ∧ kv = .int .i64 k ∧ nv = .int .i64 m ∧ Hid (m = (cnt l z k : Int) - cnt sl z k) ∧ Hid (Fr (fun _ => False) w11 wr)) (fun nv kv _ => l.length - (intOf kv).toNat)
                case atStart => exact ⟨0, 0, by omega, by omega, by omega, rfl, rfl, hid (by rw [cnt_zero, cnt_zero]; rfl), hid (Fr.refl _ _)⟩
                case round =>
                  obtain ⟨k, m, hk, hm1, hm2, rfl, rfl, HM, HFk⟩ := hrel
                  by_cases hkl : k < l.length
                  · have hkl' : (k : Int) < l.length := by omega
                    obtain ⟨b2, o2, y, ay, cy, e2, hy, hvy, y0c, y1c, y2c, y3c⟩ := (HV10.out.fr (HF.out.trans' HFk.out)).at hkl
                    simp only [Option.some.injEq, Addr.mk.injEq] at e2
                    obtain ⟨rfl, rfl, -⟩ := e2
                    obtain ⟨b3, o3, t, at', ct, rfl, ht, hvt, t0c, t1c, t2c, t3c⟩ := (HSV10.out.fr (HF.out.trans' HFk.out)).at (k := k) (by have := HSL.out; omega)
                    have X0 := hid y0c; have X1 := hid y1c; have X2 := hid y2c; have X3 := hid y3c; have T0 := hid t0c; have T1 := hid t1c; have T2 := hid t2c; have T3 := hid t3c
                    have Y0 := hid (HFk.out.cell HZ0.out not_false); have Y1 := hid (HFk.out.cell HZ1.out not_false); have Y2 := hid (HFk.out.cell HZ2.out not_false); have Y3 := hid (HFk.out.cell HZ3.out not_false)
                    have HC1 := hid (fun (wz : World) (hzf : Fr (fun _ => False) wr wz) => vsame_any y.size y z (Nat.le_refl _) T T wz _ _ (hvy.fr hzf) (HVZ.out.fr (HFk.out.trans' hzf)))
                    have HC2 := hid (fun (wz : World) (hzf : Fr (fun _ => False) wr wz) => vsame_any t.size t z (Nat.le_refl _) T T wz _ _ (hvt.fr hzf) (HVZ.out.fr (HFk.out.trans' hzf)))
                    have hc1 := cnt_succ (x := z) hy
                    have hc2 := cnt_succ (x := z) ht
                    have hb1 := cnt_le l z k
                    have hb2 := cnt_le sl z k
                    obtain ⟨s1, hs1⟩ : ∃ s1, V.same y z = s1 := ⟨_, rfl⟩
                    obtain ⟨s2, hs2⟩ : ∃ s2, V.same t z = s2 := ⟨_, rfl⟩
                    rw [hs1] at hc1 HC1
                    rw [hs2] at hc2 HC2
                    obtain ⟨d1, hd1⟩ : ∃ d1 : Int, d1 = if s1 = true then 1 else 0 := ⟨_, rfl⟩
                    obtain ⟨d2, hd2⟩ : ∃ d2 : Int, d2 = if s2 = true then 1 else 0 := ⟨_, rfl⟩
                    have hM := HM.out
                    have hbd : -100 ≤ m ∧ m ≤ 100 := by omega
                    have hmm : m + d1 - d2 = (cnt l z (k + 1) : Int) - cnt sl z (k + 1) := by
                      rw [hc1, hc2, hd1, hd2, hM]
                      cases s1 <;> cases s2 <;> simp <;> omega
                    obtain ⟨hbd1, hbd2⟩ := hbd
                    have HMM := hid hmm
                    have HD1 := hid hd1; have HD2 := hid hd2
                    clear hy hvy y0c y1c y2c y3c ht hvt t0c t1c t2c t3c hc1 hc2 hb1 hb2 hs1 hs2 hM hmm hd1 hd2 HM
                    go_upto_region 25 with fail
                    refine wp_region_cls (fun w' => Fr (fun _ => False) wr w') (by kernel_rfl) (by kernel_rfl) (Fr.refl _ _).drew ?_
                    iterate 3 (refine q_take ?_ (by kernel_rfl) ?_ ?_; rotate_left; (· intro w' hS; go_simp; try with_reducible rfl); (try simp only [Act.put, List.setIfInBounds_toArray, List.set_cons_zero, List.set_cons_succ]))
                    (refine q_take ?_ (by kernel_rfl) ?_ ?_; rotate_left; (· intro w' hS; have d0 := hS.cell X0.out not_false; have d1 := hS.cell X1.out not_false; have d2 := hS.cell X2.out not_false; have d3 := hS.cell X3.out not_false; go_simp; try with_reducible rfl); try simp only [Act.put, List.setIfInBounds_toArray, List.set_cons_zero, List.set_cons_succ])
                    iterate 3 (refine q_take ?_ (by kernel_rfl) ?_ ?_; rotate_left; (· intro w' hS; go_simp; try with_reducible rfl); (try simp only [Act.put, List.setIfInBounds_toArray, List.set_cons_zero, List.set_cons_succ]))
                    (refine q_take ?_ (by kernel_rfl) ?_ ?_; rotate_left; (· intro w' hS; have d0 := hS.cell Y0.out not_false; have d1 := hS.cell Y1.out not_false; have d2 := hS.cell Y2.out not_false; have d3 := hS.cell Y3.out not_false; go_simp; try with_reducible rfl); try simp only [Act.put, List.setIfInBounds_toArray, List.set_cons_zero, List.set_cons_succ])
                    (refine q_call ?_ ?_ (by kernel_rfl) ?_ ?_; rotate_left 2; (· intro w' hS; go_simp; first | with_reducible rfl | (constructor <;> with_reducible rfl)); (refine ⟨_, fun w' hw => (HC1.out w' hw).mono fun _ _ h => ⟨h.1, hw.trans' h.2⟩, ?_⟩); (try simp only [Act.put, List.setIfInBounds_toArray, List.set_cons_zero, List.set_cons_succ]))
                    refine q_end (fun wy hw => ?_)
                    have HFy := hid hw
                    clear hw
                    go_upto_if 121 with fail
                    go_cut [12] from 122 to 123 (fun nv wx => nv = .int .i64 (m + d1) ∧ wy = wx)
                    case first =>
                      cases s1
                      · have hd := HD1.out
                        simp at hd
                        subst hd
                        go_wp2_with fail
                        go_meet
                        exact ⟨by simp, rfl⟩
                      · have hd := HD1.out
                        simp at hd
                        subst hd
                        have hw1 : IntKind.i64.wrap (m + 1) = m + 1 := IntWalk.i64_in _ (by omega)
                        go_wp2_with fail
                        go_meet
                        exact ⟨by simp, rfl⟩
                    case rest =>
                    obtain ⟨rfl, rfl⟩ := hcut
                    have HG := hid HFy.out
                    clear HFy
                    have hd1b : 0 ≤ d1 ∧ d1 ≤ 1 := by have := HD1.out; cases s1 <;> simp at this <;> omega
                    obtain ⟨hd1b1, hd1b2⟩ := hd1b
                    have HT0 := hid (HG.out.cell T0.out not_false); have HT1 := hid (HG.out.cell T1.out not_false); have HT2 := hid (HG.out.cell T2.out not_false); have HT3 := hid (HG.out.cell T3.out not_false)
                    have HY0 := hid (HG.out.cell Y0.out not_false); have HY1 := hid (HG.out.cell Y1.out not_false); have HY2 := hid (HG.out.cell Y2.out not_false); have HY3 := hid (HG.out.cell Y3.out not_false)
                    have HC3 := hid (fun (wz : World) (hzf : Fr (fun _ => False) wy wz) => HC2.out wz (HG.out.trans' hzf))
                    have HFk2 := hid (HFk.out.trans' HG.out)
                    clear HG HC1 HC2 X0 X1 X2 X3 Y0 Y1 Y2 Y3 T0 T1 T2 T3 HFk HD1
                    obtain ⟨wr, hwr⟩ : ∃ W, W = wy := ⟨_, rfl⟩
                    rw [← hwr] at HT0 HT1 HT2 HT3 HY0 HY1 HY2 HY3 HC3 HFk2 ⊢
                    clear hwr
                    go_upto_region 27 with fail
                    refine wp_region_cls (fun w' => Fr (fun _ => False) wr w') (by kernel_rfl) (by kernel_rfl) (Fr.refl _ _).drew ?_
                    iterate 3 (refine q_take ?_ (by kernel_rfl) ?_ ?_; rotate_left; (· intro w' hS; go_simp; try with_reducible rfl); (try simp only [Act.put, List.setIfInBounds_toArray, List.set_cons_zero, List.set_cons_succ]))
                    (refine q_take ?_ (by kernel_rfl) ?_ ?_; rotate_left; (· intro w' hS; have d0 := hS.cell HT0.out not_false; have d1 := hS.cell HT1.out not_false; have d2 := hS.cell HT2.out not_false; have d3 := hS.cell HT3.out not_false; go_simp; try with_reducible rfl); try simp only [Act.put, List.setIfInBounds_toArray, List.set_cons_zero, List.set_cons_succ])
                    iterate 3 (refine q_take ?_ (by kernel_rfl) ?_ ?_; rotate_left; (· intro w' hS; go_simp; try with_reducible rfl); (try simp only [Act.put, List.setIfInBounds_toArray, List.set_cons_zero, List.set_cons_succ]))
                    (refine q_take ?_ (by kernel_rfl) ?_ ?_; rotate_left; (· intro w' hS; have d0 := hS.cell HY0.out not_false; have d1 := hS.cell HY1.out not_false; have d2 := hS.cell HY2.out not_false; have d3 := hS.cell HY3.out not_false; go_simp; try with_reducible rfl); try simp only [Act.put, List.setIfInBounds_toArray, List.set_cons_zero, List.set_cons_succ])
                    (refine q_call ?_ ?_ (by kernel_rfl) ?_ ?_; rotate_left 2; (· intro w' hS; go_simp; first | with_reducible rfl | (constructor <;> with_reducible rfl)); (refine ⟨_, fun w' hw => (HC3.out w' hw).mono fun _ _ h => ⟨h.1, hw.trans' h.2⟩, ?_⟩); (try simp only [Act.put, List.setIfInBounds_toArray, List.set_cons_zero, List.set_cons_succ]))
                    refine q_end (fun wy hw => ?_)
                    have HFy := hid hw
                    clear hw
                    cases s2
                    · have hd := HD2.out
                      simp at hd
                      subst hd
                      have hmm := HMM.out
                      go_wp2_with fail
                      go_roundw
                      case rel => exact ⟨k + 1, m + d1, by omega, by omega, by omega, by go_num, rfl, hid (by have := HMM.out; omega), hid (HFk2.out.trans' HFy.out)⟩
                      case measure => simp [intOf]; omega
                    · have hd := HD2.out
                      simp at hd
                      subst hd
                      have hw1 : IntKind.i64.wrap (m + d1 - 1) = m + d1 - 1 := IntWalk.i64_in _ (by omega)
                      go_wp2_with fail
                      go_roundw
                      case rel => exact ⟨k + 1, m + d1 - 1, by omega, by omega, by omega, by go_num, rfl, hid (by have := HMM.out; omega), hid (HFk2.out.trans' HFy.out)⟩
                      case measure => simp [intOf]; omega
                  · have hkl' : ¬ (k : Int) < l.length := by omega
                    have hm0 : m = 0 := by
                      have h1 := HM.out
                      have h2 := cnt_perm HPM.out z
                      have h3 : k = l.length := by omega
                      rw [h3, h2] at h1
                      omega
                    subst hm0
                    go_wp2_with fail
                    go_roundw
                    case rel => exact ⟨i + 1, by omega, by go_num, hid (HF.out.trans' HFk.out)⟩
                    case measure => simp [intOf]; omega
              · have hlt' : ¬ (i : Int) < l.length := by omega
                have HV11 := hid (HV10.out.fr HF.out)
                have HSV11 := hid (HSV10.out.fr HF.out)
                have HF11 := hid ((HF9.out.trans' HF10.out).trans' HF.out)
                have hll := HL.out
                have HSZ := hid (show sizeL sl ≤ 1048576 by rw [← sizeL_perm HPM.out]; exact hll)
                clear hll
                go_wp2_with fail
                refine (turn_any l HK.out (by have := HL.out; omega) _ _ HV11.out).mono ?_
                rintro e w12 ⟨v12, rfl, hf12, hv12⟩
                obtain ⟨a12, c12, us12, rfl, -⟩ := id hv12
                rw [List.length_reverse] at hv12 ⊢
                have HF12 := hid hf12; have HV12 := hid hv12
                clear hf12 hv12
                go_wp2_with fail
                refine (turn_any l.reverse (krL_rev HK.out) (by rw [sizeL_perm (List.reverse_perm l)]; have := HL.out; omega) _ _ HV12.out).mono ?_
                rintro e w13 ⟨v13, rfl, hf13, hv13⟩
                rw [List.reverse_reverse] at hv13
                obtain ⟨a13, c13, us13, rfl, -⟩ := id hv13
                have HF13 := hid (HF12.out.trans' hf13); have HV13 := hid hv13
                clear hf13 hv13
                go_wp2_with fail
                refine (rsames_of (sizeL l) (rsame_refl (sizeL l)) l (Nat.le_refl _) T T _ _ _ HV13.out (HV11.out.fr HF13.out)).mono ?_
                rintro e w14 ⟨rfl, hf14⟩
                have HF14 := hid (HF13.out.trans' hf14)
                clear hf14
                go_wp2_with fail
                refine (sort_any sl HKS.out (by rw [HSL.out]; exact h40) (by have := HSZ.out; omega) _ _ (HSV11.out.fr HF14.out)).mono ?_
                rintro e w15 ⟨sl2, ⟨v15, rfl, hf15, hv15⟩, hpm2, hso2⟩
                obtain rfl : sl = sl2 := sorted_same hpm2 HSO.out hso2
                obtain ⟨a15, c15, us15, rfl, -⟩ := id hv15
                rw [HSL.out] at hv15 ⊢
                have HF15 := hid (HF14.out.trans' hf15); have HV15 := hid hv15
                clear hf15 hv15 hpm2 hso2
                go_wp2_with fail
                refine (rsames_of (sizeL sl) (rsame_refl (sizeL sl)) sl (Nat.le_refl _) T T _ _ _ HV15.out (HSV11.out.fr HF15.out)).mono ?_
                rintro e w16 ⟨rfl, hf16⟩
                have HF16 := hid (HF15.out.trans' hf16)
                clear hf16
                go_wp2_with fail
                go_ret
                exact ⟨rfl, HF11.out.trans' HF16.out⟩
      · rw [Bool.eq_false_iff.2 hrx]
        go_wp2_with fail
        go_ret
        exact ⟨rfl, HF4.out⟩
    · rw [Bool.eq_false_iff.2 hrl]
      go_wp2_with fail
      go_ret
      exact ⟨rfl, HF3.out⟩
  · rw [Bool.eq_false_iff.2 hsm]
    go_wp2_with fail
    go_ret
    exact ⟨rfl, HF2.out⟩
end Go.Proofs.Ytebanmigaikhhaa
