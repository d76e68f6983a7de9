/- ValSizes: true, whatever comes in. -/
import Derived.Test.YteadegaclnibhaaDoorValFirstD
import Derived.Test.YteadegaclnibhaaDoorSeeIs2
import Derived.Test.YteadegaclnibhaaDoorNest
import Derived.Test.YteadegaclnibhaaDoorNumber
namespace Go.Proofs.YteadegaclnibhaaDoor
open Go.RowKit

/-- A list of one item, laid last. -/
theorem vl_one {D E : Nat → Prop} {w : World} {x : V} {k n : Int} {s : ByteArray} {v : Value} (h : VIn D w x #[.int .i64 k, .int .i64 n, .string s, v]) (hD : ∀ b, b < w.heap.size → D b → E b) (hE : E w.heap.size) :
    VL E (w.alloc (.cells #[.int .i64 k, .int .i64 n, .string s, v] 24)) [x] (.slice (some ⟨w.heap.size, 0, none⟩) 1 1) := by
  refine ⟨some ⟨w.heap.size, 0, none⟩, 1, fun _ => #[.int .i64 k, .int .i64 n, .string s, v], rfl, by simp, by simp [maxLen], (fun h => by cases h), fun i hi => ?_, fun i y hy => ?_⟩
  · have h0 := heap_alloc_new w (.cells #[.int .i64 k, .int .i64 n, .string s, v] 24)
    have hi0 : i = 0 := by simpa using hi
    subst hi0
    refine ⟨w.heap.size, 0, rfl, hE, rfl, fun j hj => ?_⟩
    rw [cell_of_row _ _ _ _ _ _ h0]
    match j, hj with
    | 0, _ | 1, _ | 2, _ | 3, _ => rfl
  · cases i with
    | zero =>
      simp at hy
      subst hy
      exact (h.mono hD).frame ((Fr.refl (fun _ => False) w).alloc _) (fun _ _ => id)
    | succ i => simp at hy

theorem Tryd.info_u8 : (Tryd.prog.info? 5).map (fun i => (i.zero, i.size, i.bytes)) = some (some (.int .u8 0), 1, 1) := by kernel_rfl

set_option maxHeartbeats 3200000 in
theorem valSizes_any (n t : Int) (hn1 : -9223372036854775808 ≤ n) (hn2 : n ≤ 9223372036854775807) (ht1 : -9223372036854775808 ≤ t) (ht2 : t ≤ 9223372036854775807) (w : World) (pa : Nat → Addr) (hs : Sent17 w pa) :
    Calls Tryd.prog 4 #[.int .i64 n, .int .i64 t] w fun e w' => e = .returned (.bool true) ∧ Fr (fun _ => False) w w' := by
  have h4 : 4 ≤ w.heap.size := World.block_lt_of_cell? w ⟨3, 0, none⟩ (errs_of hs).s
  have HS := hid hs
  clear hs
  go_enter Tryd.func4, Tryd.ntmps4
  go_wp2_with fail
  refine (first_any _).mono ?_
  rintro e w1 ⟨rfl, hf1⟩
  have HF1 := hid hf1
  clear hf1
  go_wp2_with fail
  refine (number_any n 60 w1 (by decide) (by decide) hn1 hn2).mono ?_
  rintro e w2 ⟨rfl, rfl⟩
  have k0 := Int.emod_nonneg n (show (60 : Int) ≠ 0 by decide)
  have k1 := Int.emod_lt_of_pos n (show (0 : Int) < 60 by decide)
  obtain ⟨m, hm⟩ : ∃ m : Nat, n % 60 = m := ⟨(n % 60).toNat, by omega⟩
  rw [hm] at k0 k1 ⊢
  clear hm
  go_wp2_with fail
  refine (number_any t 6000 w1 (by decide) (by decide) ht1 ht2).mono ?_
  rintro e w2 ⟨rfl, rfl⟩
  have q0 := Int.emod_nonneg t (show (6000 : Int) ≠ 0 by decide)
  have q1 := Int.emod_lt_of_pos t (show (0 : Int) < 6000 by decide)
  obtain ⟨q, hq⟩ : ∃ q : Nat, t % 6000 = q := ⟨(t % 6000).toNat, by omega⟩
  rw [hq] at q0 q1 ⊢
  clear hq
  have hm60 : m < 60 := by omega
  have hq6 : q < 6000 := by omega
  go_wp2_with fail
  refine (vI_any 3 w1).mono ?_
  rintro e w3 ⟨rfl, hf3⟩
  have hF3 := HF1.out.trans' hf3
  have hF4 := hF3.alloc (.cells #[.int .i64 0, .int .i64 3, .string ⟨#[]⟩, .slice none 0 0] 24)
  have hb4 := heap_alloc_new w3 (.cells #[.int .i64 0, .int .i64 3, .string ⟨#[]⟩, .slice none 0 0] 24)
  have hle3 := hF3.size
  have HF4 := hid hF4; have HB4 := hid hb4
  clear hf3 hF3 hF4 hb4
  go_wp2_with fail
  go_loopw [7] (fun i wr => ∃ (k : Nat) (kk nn : Int) (ss : ByteArray) (a : Option Addr) (len c : Nat), k ≤ m ∧ i = .int .i64 k ∧ wr.heap[w3.heap.size]? = some (.cells #[.int .i64 kk, .int .i64 nn, .string ss, .slice a len c] 24) ∧
    VIn (fun b => b ≠ w3.heap.size) wr (nest k) #[.int .i64 kk, .int .i64 nn, .string ss, .slice a len c] ∧ Fr (fun _ => False) w wr) (fun i _ => m - (intOf i).toNat)
  case atStart => exact ⟨0, 0, 3, ⟨#[]⟩, none, 0, 0, Nat.zero_le _, rfl, HB4.out, (VL.nil _ _).close 0 3 ⟨#[]⟩, HF4.out⟩
  case round =>
    obtain ⟨k, kk, nn, ss, a, len, c, hk, rfl, hb, hv, hf⟩ := hrel
    have x0 : wr.cell? ⟨w3.heap.size, 0, none⟩ = some (.int .i64 kk) := by rw [cell_of_row _ _ 0 _ _ _ hb]; rfl
    have x1 : wr.cell? ⟨w3.heap.size, 1, none⟩ = some (.int .i64 nn) := by rw [cell_of_row _ _ 1 _ _ _ hb]; rfl
    have x2 : wr.cell? ⟨w3.heap.size, 2, none⟩ = some (.string ss) := by rw [cell_of_row _ _ 2 _ _ _ hb]; rfl
    have x3 : wr.cell? ⟨w3.heap.size, 3, none⟩ = some (.slice a len c) := by rw [cell_of_row _ _ 3 _ _ _ hb]; rfl
    have hbl : w3.heap.size < wr.heap.size := (Array.getElem?_eq_some_iff.1 hb).1
    have HB := hid hb; have HV := hid hv; have HFr := hid hf
    clear hb hv hf
    by_cases hlt : k < m
    · have hvl := vL_any [nest k] (by simp [sizeL, nest_size]; omega) _ _ _ (vl_one (E := fun b => b ≠ w3.heap.size) HV.out (fun _ _ h => h) (by omega))
      have HL := hid hvl
      clear hvl
      go_wp2_with fail
      refine HL.out.mono ?_
      rintro e w5 ⟨u5, rfl, hf5, hv5, -⟩
      obtain ⟨v5, rfl, a5, c5, us5, rfl, -⟩ := hv5.open
      simp only [V.k, V.n, V.s, V.l] at hv5 ⊢
      have hA : ∀ o : Obj, Fr (fun _ => False) wr (wr.alloc o) := fun o => (Fr.refl _ _).alloc _
      have hB5 := hf5.heap ((hA _).heap HB.out not_false) not_false
      have f5 : ∀ i, w5.frozen? ⟨w3.heap.size, i, none⟩ = false := fun i => frozen_of_row _ _ i _ _ hB5
      clear x0 x1 x2 x3
      have x0 : w5.cell? ⟨w3.heap.size, 0, none⟩ = some (.int .i64 kk) := by rw [cell_of_row _ _ 0 _ _ _ hB5]; rfl
      have x1 : w5.cell? ⟨w3.heap.size, 1, none⟩ = some (.int .i64 nn) := by rw [cell_of_row _ _ 1 _ _ _ hB5]; rfl
      have x2 : w5.cell? ⟨w3.heap.size, 2, none⟩ = some (.string ss) := by rw [cell_of_row _ _ 2 _ _ _ hB5]; rfl
      have x3 : w5.cell? ⟨w3.heap.size, 3, none⟩ = some (.slice a len c) := by rw [cell_of_row _ _ 3 _ _ _ hB5]; rfl
      have hf6 : Fr (fun q => q = w3.heap.size) w5 ((((w5.setCell ⟨w3.heap.size, 0, none⟩ (.int .i64 4)).setCell ⟨w3.heap.size, 1, none⟩ (.int .i64 0)).setCell ⟨w3.heap.size, 2, none⟩ (.string ⟨#[]⟩)).setCell ⟨w3.heap.size, 3, none⟩ (.slice a5 1 c5)) := (((((Fr.refl (fun q => q = w3.heap.size) w5).setCell (p := ⟨w3.heap.size, 0, none⟩) (.inl rfl) (.int .i64 4)).setCell (p := ⟨w3.heap.size, 1, none⟩) (.inl rfl) (.int .i64 0)).setCell (p := ⟨w3.heap.size, 2, none⟩) (.inl rfl) (.string ⟨#[]⟩)).setCell (p := ⟨w3.heap.size, 3, none⟩) (.inl rfl) (.slice a5 1 c5))
      have hR6 := (setCell_row 3 (.slice a5 1 c5) (setCell_row 2 (.string ⟨#[]⟩) (setCell_row 1 (.int .i64 0) (setCell_row 0 (.int .i64 4) hB5))))
      simp only [List.setIfInBounds_toArray, List.set_cons_zero, List.set_cons_succ] at hR6
      have hsz := (hA (.cells #[.int .i64 kk, .int .i64 nn, .string ss, .slice a len c] 24)).size
      have hV6 : VIn (fun b => b ≠ w3.heap.size) ((((w5.setCell ⟨w3.heap.size, 0, none⟩ (.int .i64 4)).setCell ⟨w3.heap.size, 1, none⟩ (.int .i64 0)).setCell ⟨w3.heap.size, 2, none⟩ (.string ⟨#[]⟩)).setCell ⟨w3.heap.size, 3, none⟩ (.slice a5 1 c5)) (nest (k + 1)) #[.int .i64 4, .int .i64 0, .string ⟨#[]⟩, .slice a5 1 c5] := (hv5.mono (E := fun b => b ≠ w3.heap.size) fun b _ hd => by have := hd.1; omega).frame hf6 (fun _ h => h)
      have hF6 := (HFr.out.trans' ((hA _).trans' hf5)).trans hf6 (fun _ _ => id) (fun q hq e => by omega)
      have HR6 := hid hR6; have HV6 := hid hV6; have HF6 := hid hF6
      clear hR6 hV6 hF6 hf6 hv5 hf5 hA hB5 hsz
      simp only [List.length_cons, List.length_nil, Nat.zero_add]
      go_wp2
      go_roundw
      case rel => exact ⟨k + 1, 4, 0, ⟨#[]⟩, a5, 1, c5, by omega, by go_num, HR6.out, HV6.out, HF6.out⟩
      case measure => simp [intOf]; omega
    · obtain rfl : k = m := by omega
      obtain ⟨i0, hi, hz0, hz1, hz2⟩ := info_parts Tryd.info_u8
      have hmk : ∀ u : World, (Instr.makeSlice 35 (.int .i64 q) (.int .i64 q)).run Tryd.prog u = .ok (.slice (some ⟨u.heap.size, 0, none⟩) q q) (u.alloc (.cells (madeCells #[.int .u8 0] q) 5)) := fun u => by
        have h := run_make (P := Tryd.prog) u 35 5 i0 (.int .u8 0) Tryd.underlying35 hi hz0 .i64 .i64 q q (by omega) (Int.le_refl _) (by rw [hz2]; omega) (by omega)
        simpa [hz1, Value.cells] using h
      clear hi hz0 hz1 hz2 x0 x1 x2 x3
      go_wp2_with fail
      have hb11 := heap_alloc_new wr (.cells (madeCells #[.int .u8 0] q) 5)
      have hA11 := (Fr.refl (fun _ => False) wr).alloc (.cells (madeCells #[.int .u8 0] q) 5)
      have hB6' := hA11.heap HB.out not_false
      have hV6' := (HV.out.mono (E := fun b => b < wr.heap.size) fun b hb _ => hb).frame hA11 fun _ _ => id
      have hF11 := HFr.out.trans' hA11
      have hwl := HFr.out.size
      generalize wr.alloc (.cells (madeCells #[.int .u8 0] q) 5) = W11 at *
      have HB11 := hid hb11; have HB6' := hid hB6'; have HV6' := hid hV6'; have HF11 := hid hF11
      clear hb11 hA11 hB6' hV6' hF11 HB HV HFr hmk
      generalize wr.heap.size = G at *
      go_loopw [9] (fun i wx => ∃ (j : Nat) (cur : Array Value), j ≤ q ∧ i = .int .i64 j ∧ cur.size = q ∧ (∀ p, p < j → cur[p]? = some (.int .u8 120)) ∧ wx.heap[G]? = some (.cells cur 5) ∧ Fr (fun b => b = G) W11 wx) (fun i _ => q - (intOf i).toNat)
      case atStart => exact ⟨0, _, Nat.zero_le _, rfl, size_madeCells _ _, fun p hp => by omega, HB11.out, Fr.refl _ _⟩
      case round =>
        obtain ⟨j, cur, hj, rfl, hcs, hcur, hbx, hfx⟩ := hrel
        by_cases hjq : j < q
        · have xj : wr.cell? ⟨G, j, none⟩ = some cur[j] := by rw [cell_of_row _ _ _ _ _ _ hbx, Array.getElem?_eq_getElem (by omega)]
          have fj : ∀ i, wr.frozen? ⟨G, i, none⟩ = false := fun i => frozen_of_row _ _ i _ _ hbx
          have hR := setCell_row j (.int .u8 120) hbx
          have hF := hfx.setCell (p := ⟨G, j, none⟩) (.inl rfl) (.int .u8 120)
          have hcur2 : ∀ p, p < j + 1 → (cur.setIfInBounds j (.int .u8 120))[p]? = some (.int .u8 120) := by
            intro p hp
            by_cases hpj : p = j
            · subst hpj
              rw [Array.getElem?_setIfInBounds_self_of_lt (by omega)]
            · rw [Array.getElem?_setIfInBounds_ne (by omega)]
              exact hcur p (by omega)
          have HR := hid hR; have HF := hid hF; have HC2 := hid hcur2
          clear hR hF hcur2 hbx hfx hcur
          go_wp2
          go_roundw
          case rel => exact ⟨j + 1, _, by omega, by go_num, by simpa using hcs, HC2.out, HR.out, HF.out⟩
          case measure => simp [intOf]; omega
        · obtain rfl : j = q := by omega
          have hbs : Bs (fun _ => True) wr (.slice (some ⟨G, 0, none⟩) j j) (List.replicate j 120) := by
            refine ⟨some ⟨G, 0, none⟩, j, by simp, by simp, by unfold maxLen; omega, fun p hp => ⟨G, 0, rfl, trivial, ?_⟩⟩
            have hp' : p < j := by simpa using hp
            rw [Nat.zero_add, cell_of_row _ _ _ _ _ _ hbx, hcur p hp']
            simp [List.getD, hp']
          have hcv := conv_bytes (P := Tryd.prog) hbs 35 5 9 Tryd.underlying35 Tryd.underlying5 Tryd.underlying9
          have hcv : (convert 35 9 (.slice (some ⟨G, 0, none⟩) j j)).run Tryd.prog wr = .ok (.string (xs j)) wr := hcv
          have hB6x := hfx.heap (k := w3.heap.size) HB6'.out (by omega)
          have hV6x := HV6'.out.frame hfx (fun b hb e => by omega)
          have hFx := HF11.out.trans hfx (fun _ _ => id) (fun b hb e => by omega)
          have HB6x := hid hB6x; have HV6x := hid hV6x; have HFx := hid hFx
          clear hbs hB6x hV6x hFx hbx hfx hcur HB6' HV6' HF11 HB11
          go_wp2_with fail
          refine (vS_any (xs j) _).mono ?_
          rintro e w13 ⟨rfl, hf13⟩
          have hA14 := (Fr.refl (fun _ => False) w13).alloc (.cells #[.int .i64 2, .int .i64 0, .string (xs j), .slice none 0 0] 24)
          have hb10 := heap_alloc_new w13 (.cells #[.int .i64 2, .int .i64 0, .string (xs j), .slice none 0 0] 24)
          have hg := hf13.trans' hA14
          have hb6 := hg.heap HB6x.out not_false
          have hv6 := HV6x.out.frame hg fun _ _ => id
          have hf14 := HFx.out.trans' hg
          go_upto_region 17 with fail
          generalize w13.alloc (.cells #[.int .i64 2, .int .i64 0, .string (xs j), .slice none 0 0] 24) = W14 at *
          have hs14 := HS.out.frame hf14
          have h414 : 4 ≤ W14.heap.size := Nat.le_trans h4 hf14.size
          have hvs : VIn (fun _ => True) W14 (.mk 2 0 (xs j) []) #[.int .i64 2, .int .i64 0, .string (xs j), .slice none 0 0] := (VL.nil _ _).close 2 0 (xs j)
          have hvn := fun (c : Int) (hc : (if 40 < k + 1 then (112 : Int) else 0) = c) (w' : World) (hw : Fr (fun _ => False) W14 w') => show Calls Tryd.prog 8 _ w' (fun e w'' => e = .returned (evA pa c) ∧ Fr (fun _ => False) w' w'') from by
            have := vvalid_any _ _ _ _ ⟨_, _, rfl⟩ ⟨_, _, rfl⟩ ⟨_, _, rfl⟩ ⟨_, _, rfl⟩ (nest k) (nest_wf_size k (by omega)) _ w' _ (hv6.frame hw fun _ _ => id) (errs_of (hs14.frame hw)) (Nat.le_trans h414 hw.size)
            rw [nest_valid k (by omega), hc] at this
            exact this
          have hvt := fun (c : Int) (hc : (if 4096 < j + 1 then (104 : Int) else 0) = c) (w' : World) (hw : Fr (fun _ => False) W14 w') => show Calls Tryd.prog 8 _ w' (fun e w'' => e = .returned (evA pa c) ∧ Fr (fun _ => False) w' w'') from by
            have := vvalid_any _ _ _ _ ⟨_, _, rfl⟩ ⟨_, _, rfl⟩ ⟨_, _, rfl⟩ ⟨_, _, rfl⟩ (.mk 2 0 (xs j) []) (by simp [V.size, sizeL, xs_size]; omega) _ w' _ (hvs.frame hw fun _ _ => id) (errs_of (hs14.frame hw)) (Nat.le_trans h414 hw.size)
            rw [xs_valid j, hc] at this
            exact this
          have his := fun (w' : World) (hw : Fr (fun _ => False) W14 w') (c : Int) (hc : c = 0 ∨ c = 103 ∨ c = 104 ∨ c = 105 ∨ c = 112) => is_any w' pa (hs14.frame hw) c hc
          have hsz := fun (w' : World) (hw : Fr (fun _ => False) W14 w') => show Calls Tryd.prog 15 _ w' (fun e w'' => e = .returned (.int .i64 ((k : Int) + 1)) ∧ Fr (fun _ => False) w' w'') from by
            have := vsize_any (nest k).size (nest k) (Nat.le_refl _) (by rw [nest_size]; omega) _ w' _ (hv6.frame hw fun _ _ => id)
            rw [nest_size] at this
            exact this
          have hdp := fun (w' : World) (hw : Fr (fun _ => False) W14 w') => show Calls Tryd.prog 16 _ w' (fun e w'' => e = .returned (.int .i64 ((k : Int) + 1)) ∧ Fr (fun _ => False) w' w'') from by
            have := vdeep_any (nest k).size (nest k) (Nat.le_refl _) (by rw [nest_size]; omega) _ w' _ (hv6.frame hw fun _ _ => id)
            rw [nest_deep] at this
            exact this
          have hst := fun (w' : World) (hw : Fr (fun _ => False) W14 w') => show Calls Tryd.prog 15 _ w' (fun e w'' => e = .returned (.int .i64 ((j : Int) + 1)) ∧ Fr (fun _ => False) w' w'') from by
            have := vsize_any (j + 1) (.mk 2 0 (xs j) []) (by simp [V.size, sizeL, xs_size]; omega) (by simp [V.size, sizeL, xs_size]; omega) _ w' _ (hvs.frame hw fun _ _ => id)
            have e : ((V.mk 2 0 (xs j) []).size : Int) = (j : Int) + 1 := by simp [V.size, sizeL, xs_size]; omega
            rw [e] at this
            exact this
          have HVN := hid hvn; have HVT := hid hvt; have HIS := hid his; have HSZ := hid hsz; have HDP := hid hdp; have HST := hid hst; have HB6 := hid hb6; have HB10 := hid hb10; have HF14 := hid hf14
          clear hvn hvt his hsz hdp hst hvs hs14 hf13 hA14 hb10 hg hb6 hv6 hf14 hcv
          have c1 : ((j : Int) + 1 == (j : Int) + 1) = true := by simp
          have c2 : ((k : Int) + 1 == (k : Int) + 1) = true := by simp
          by_cases hd : (40 : Int) < (k : Int) + 1
          · by_cases hg : (4096 : Int) < (j : Int) + 1
            · skip
              have hvn := HVN.out (112) (by rw [if_pos (by omega)])
              have hvt := HVT.out (104) (by rw [if_pos (by omega)])
              have HVN1 := hid hvn; have HVT1 := hid hvt
              clear hvn hvt
              have hb6 := HB6.out; have hb10 := HB10.out
              go_upto_region 23 with fail
              refine wp_region_cls0 (fun w' => Fr (fun _ => False) W14 w') (Fr.refl _ _) ?_
              (refine q_load (by kernel_rfl) rfl rfl (fun w' hw => Fr.heap hw hb6 not_false) (by kernel_rfl) (by kernel_rfl) ?_; (try simp only [Act.put, List.setIfInBounds_toArray, List.set_cons_zero, List.set_cons_succ]))
              (refine q_call ?_ ?_ (by kernel_rfl) ?_ ?_; rotate_left 2; (· intro w' hS; go_simp; first | with_reducible rfl | (constructor <;> with_reducible rfl)); (refine ⟨_, fun w' hw => (HVN1.out w' hw).mono fun _ _ h => ⟨h.1, hw.trans' h.2⟩, ?_⟩); (try simp only [Act.put, List.setIfInBounds_toArray, List.set_cons_zero, List.set_cons_succ]))
              (refine q_take ?_ (by kernel_rfl) ?_ ?_; rotate_left; (· intro w' hS; go_simp; try with_reducible rfl); (try simp only [Act.put, List.setIfInBounds_toArray, List.set_cons_zero, List.set_cons_succ]))
              (refine q_call ?_ ?_ (by kernel_rfl) ?_ ?_; rotate_left 2; (· intro w' hS; go_simp; first | with_reducible rfl | (constructor <;> with_reducible rfl)); (refine ⟨_, fun w' hw => (HIS.out w' hw (112) (by decide)).mono fun _ _ h => ⟨h.1, hw.trans' h.2⟩, ?_⟩); (try simp only [Act.put, List.setIfInBounds_toArray, List.set_cons_zero, List.set_cons_succ]))
              (refine q_take ?_ (by kernel_rfl) ?_ ?_; rotate_left; (· intro w' hS; go_simp; try with_reducible rfl); (try simp only [Act.put, List.setIfInBounds_toArray, List.set_cons_zero, List.set_cons_succ]))
              (refine q_take ?_ (by kernel_rfl) ?_ ?_; rotate_left; (· intro w' hS; go_simp; try with_reducible rfl); (try simp only [Act.put, List.setIfInBounds_toArray, List.set_cons_zero, List.set_cons_succ]))
              (refine q_load (by kernel_rfl) rfl rfl (fun w' hw => Fr.heap hw hb10 not_false) (by kernel_rfl) (by kernel_rfl) ?_; (try simp only [Act.put, List.setIfInBounds_toArray, List.set_cons_zero, List.set_cons_succ]))
              (refine q_call ?_ ?_ (by kernel_rfl) ?_ ?_; rotate_left 2; (· intro w' hS; go_simp; first | with_reducible rfl | (constructor <;> with_reducible rfl)); (refine ⟨_, fun w' hw => (HVT1.out w' hw).mono fun _ _ h => ⟨h.1, hw.trans' h.2⟩, ?_⟩); (try simp only [Act.put, List.setIfInBounds_toArray, List.set_cons_zero, List.set_cons_succ]))
              (refine q_take ?_ (by kernel_rfl) ?_ ?_; rotate_left; (· intro w' hS; go_simp; try with_reducible rfl); (try simp only [Act.put, List.setIfInBounds_toArray, List.set_cons_zero, List.set_cons_succ]))
              (refine q_call ?_ ?_ (by kernel_rfl) ?_ ?_; rotate_left 2; (· intro w' hS; go_simp; first | with_reducible rfl | (constructor <;> with_reducible rfl)); (refine ⟨_, fun w' hw => (HIS.out w' hw (104) (by decide)).mono fun _ _ h => ⟨h.1, hw.trans' h.2⟩, ?_⟩); (try simp only [Act.put, List.setIfInBounds_toArray, List.set_cons_zero, List.set_cons_succ]))
              (refine q_take ?_ (by kernel_rfl) ?_ ?_; rotate_left; (· intro w' hS; go_simp; try with_reducible rfl); (try simp only [Act.put, List.setIfInBounds_toArray, List.set_cons_zero, List.set_cons_succ]))
              (refine q_take ?_ (by kernel_rfl) ?_ ?_; rotate_left; (· intro w' hS; go_simp; try with_reducible rfl); (try simp only [Act.put, List.setIfInBounds_toArray, List.set_cons_zero, List.set_cons_succ]))
              refine q_end (fun W15 hw15 => ?_)
              replace hb6 := hw15.heap hb6 not_false
              replace hb10 := hw15.heap hb10 not_false
              have H15 := hid hw15
              clear hw15
              clear hb6 hb10
              go_wp2
              go_ret
              exact ⟨rfl, HF14.out.trans' H15.out⟩
            · skip
              have hvn := HVN.out (112) (by rw [if_pos (by omega)])
              have hvt := HVT.out (0) (by rw [if_neg (by omega)])
              have HVN1 := hid hvn; have HVT1 := hid hvt
              clear hvn hvt
              have hb6 := HB6.out; have hb10 := HB10.out
              go_upto_region 23 with fail
              refine wp_region_cls0 (fun w' => Fr (fun _ => False) W14 w') (Fr.refl _ _) ?_
              (refine q_load (by kernel_rfl) rfl rfl (fun w' hw => Fr.heap hw hb6 not_false) (by kernel_rfl) (by kernel_rfl) ?_; (try simp only [Act.put, List.setIfInBounds_toArray, List.set_cons_zero, List.set_cons_succ]))
              (refine q_call ?_ ?_ (by kernel_rfl) ?_ ?_; rotate_left 2; (· intro w' hS; go_simp; first | with_reducible rfl | (constructor <;> with_reducible rfl)); (refine ⟨_, fun w' hw => (HVN1.out w' hw).mono fun _ _ h => ⟨h.1, hw.trans' h.2⟩, ?_⟩); (try simp only [Act.put, List.setIfInBounds_toArray, List.set_cons_zero, List.set_cons_succ]))
              (refine q_take ?_ (by kernel_rfl) ?_ ?_; rotate_left; (· intro w' hS; go_simp; try with_reducible rfl); (try simp only [Act.put, List.setIfInBounds_toArray, List.set_cons_zero, List.set_cons_succ]))
              (refine q_call ?_ ?_ (by kernel_rfl) ?_ ?_; rotate_left 2; (· intro w' hS; go_simp; first | with_reducible rfl | (constructor <;> with_reducible rfl)); (refine ⟨_, fun w' hw => (HIS.out w' hw (112) (by decide)).mono fun _ _ h => ⟨h.1, hw.trans' h.2⟩, ?_⟩); (try simp only [Act.put, List.setIfInBounds_toArray, List.set_cons_zero, List.set_cons_succ]))
              (refine q_take ?_ (by kernel_rfl) ?_ ?_; rotate_left; (· intro w' hS; go_simp; try with_reducible rfl); (try simp only [Act.put, List.setIfInBounds_toArray, List.set_cons_zero, List.set_cons_succ]))
              (refine q_take ?_ (by kernel_rfl) ?_ ?_; rotate_left; (· intro w' hS; go_simp; try with_reducible rfl); (try simp only [Act.put, List.setIfInBounds_toArray, List.set_cons_zero, List.set_cons_succ]))
              (refine q_load (by kernel_rfl) rfl rfl (fun w' hw => Fr.heap hw hb10 not_false) (by kernel_rfl) (by kernel_rfl) ?_; (try simp only [Act.put, List.setIfInBounds_toArray, List.set_cons_zero, List.set_cons_succ]))
              (refine q_call ?_ ?_ (by kernel_rfl) ?_ ?_; rotate_left 2; (· intro w' hS; go_simp; first | with_reducible rfl | (constructor <;> with_reducible rfl)); (refine ⟨_, fun w' hw => (HVT1.out w' hw).mono fun _ _ h => ⟨h.1, hw.trans' h.2⟩, ?_⟩); (try simp only [Act.put, List.setIfInBounds_toArray, List.set_cons_zero, List.set_cons_succ]))
              (refine q_take ?_ (by kernel_rfl) ?_ ?_; rotate_left; (· intro w' hS; go_simp; try with_reducible rfl); (try simp only [Act.put, List.setIfInBounds_toArray, List.set_cons_zero, List.set_cons_succ]))
              (refine q_call ?_ ?_ (by kernel_rfl) ?_ ?_; rotate_left 2; (· intro w' hS; go_simp; first | with_reducible rfl | (constructor <;> with_reducible rfl)); (refine ⟨_, fun w' hw => (HIS.out w' hw (0) (by decide)).mono fun _ _ h => ⟨h.1, hw.trans' h.2⟩, ?_⟩); (try simp only [Act.put, List.setIfInBounds_toArray, List.set_cons_zero, List.set_cons_succ]))
              (refine q_take ?_ (by kernel_rfl) ?_ ?_; rotate_left; (· intro w' hS; go_simp; try with_reducible rfl); (try simp only [Act.put, List.setIfInBounds_toArray, List.set_cons_zero, List.set_cons_succ]))
              (refine q_take ?_ (by kernel_rfl) ?_ ?_; rotate_left; (· intro w' hS; go_simp; try with_reducible rfl); (try simp only [Act.put, List.setIfInBounds_toArray, List.set_cons_zero, List.set_cons_succ]))
              refine q_end (fun W15 hw15 => ?_)
              replace hb6 := hw15.heap hb6 not_false
              replace hb10 := hw15.heap hb10 not_false
              have H15 := hid hw15
              clear hw15
              have y10 : W15.cell? ⟨w13.heap.size, 0, none⟩ = some (.int .i64 2) := by rw [cell_of_row _ _ 0 _ _ _ hb10]; rfl
              have y11 : W15.cell? ⟨w13.heap.size, 1, none⟩ = some (.int .i64 0) := by rw [cell_of_row _ _ 1 _ _ _ hb10]; rfl
              have y12 : W15.cell? ⟨w13.heap.size, 2, none⟩ = some (.string (xs j)) := by rw [cell_of_row _ _ 2 _ _ _ hb10]; rfl
              have y13 : W15.cell? ⟨w13.heap.size, 3, none⟩ = some (.slice none 0 0) := by rw [cell_of_row _ _ 3 _ _ _ hb10]; rfl
              have K6 := hid hb6; have K10 := hid hb10
              clear hb6 hb10
              go_wp2_with fail
              refine (HST.out W15 H15.out).mono ?_
              rintro e V1 ⟨rfl, hv1⟩
              have h6_1 := hv1.heap K6.out not_false
              have h10_1 := hv1.heap K10.out not_false
              have HV1 := hid (H15.out.trans' hv1)
              clear hv1 K6 K10 y10 y11 y12 y13
              clear h6_1 h10_1
              go_wp2
              go_ret
              exact ⟨rfl, HF14.out.trans' HV1.out⟩
          · by_cases hg : (4096 : Int) < (j : Int) + 1
            · skip
              have hvn := HVN.out (0) (by rw [if_neg (by omega)])
              have hvt := HVT.out (104) (by rw [if_pos (by omega)])
              have HVN1 := hid hvn; have HVT1 := hid hvt
              clear hvn hvt
              have hb6 := HB6.out; have hb10 := HB10.out
              go_upto_region 23 with fail
              refine wp_region_cls0 (fun w' => Fr (fun _ => False) W14 w') (Fr.refl _ _) ?_
              (refine q_load (by kernel_rfl) rfl rfl (fun w' hw => Fr.heap hw hb6 not_false) (by kernel_rfl) (by kernel_rfl) ?_; (try simp only [Act.put, List.setIfInBounds_toArray, List.set_cons_zero, List.set_cons_succ]))
              (refine q_call ?_ ?_ (by kernel_rfl) ?_ ?_; rotate_left 2; (· intro w' hS; go_simp; first | with_reducible rfl | (constructor <;> with_reducible rfl)); (refine ⟨_, fun w' hw => (HVN1.out w' hw).mono fun _ _ h => ⟨h.1, hw.trans' h.2⟩, ?_⟩); (try simp only [Act.put, List.setIfInBounds_toArray, List.set_cons_zero, List.set_cons_succ]))
              (refine q_take ?_ (by kernel_rfl) ?_ ?_; rotate_left; (· intro w' hS; go_simp; try with_reducible rfl); (try simp only [Act.put, List.setIfInBounds_toArray, List.set_cons_zero, List.set_cons_succ]))
              (refine q_call ?_ ?_ (by kernel_rfl) ?_ ?_; rotate_left 2; (· intro w' hS; go_simp; first | with_reducible rfl | (constructor <;> with_reducible rfl)); (refine ⟨_, fun w' hw => (HIS.out w' hw (0) (by decide)).mono fun _ _ h => ⟨h.1, hw.trans' h.2⟩, ?_⟩); (try simp only [Act.put, List.setIfInBounds_toArray, List.set_cons_zero, List.set_cons_succ]))
              (refine q_take ?_ (by kernel_rfl) ?_ ?_; rotate_left; (· intro w' hS; go_simp; try with_reducible rfl); (try simp only [Act.put, List.setIfInBounds_toArray, List.set_cons_zero, List.set_cons_succ]))
              (refine q_take ?_ (by kernel_rfl) ?_ ?_; rotate_left; (· intro w' hS; go_simp; try with_reducible rfl); (try simp only [Act.put, List.setIfInBounds_toArray, List.set_cons_zero, List.set_cons_succ]))
              (refine q_load (by kernel_rfl) rfl rfl (fun w' hw => Fr.heap hw hb10 not_false) (by kernel_rfl) (by kernel_rfl) ?_; (try simp only [Act.put, List.setIfInBounds_toArray, List.set_cons_zero, List.set_cons_succ]))
              (refine q_call ?_ ?_ (by kernel_rfl) ?_ ?_; rotate_left 2; (· intro w' hS; go_simp; first | with_reducible rfl | (constructor <;> with_reducible rfl)); (refine ⟨_, fun w' hw => (HVT1.out w' hw).mono fun _ _ h => ⟨h.1, hw.trans' h.2⟩, ?_⟩); (try simp only [Act.put, List.setIfInBounds_toArray, List.set_cons_zero, List.set_cons_succ]))
              (refine q_take ?_ (by kernel_rfl) ?_ ?_; rotate_left; (· intro w' hS; go_simp; try with_reducible rfl); (try simp only [Act.put, List.setIfInBounds_toArray, List.set_cons_zero, List.set_cons_succ]))
              (refine q_call ?_ ?_ (by kernel_rfl) ?_ ?_; rotate_left 2; (· intro w' hS; go_simp; first | with_reducible rfl | (constructor <;> with_reducible rfl)); (refine ⟨_, fun w' hw => (HIS.out w' hw (104) (by decide)).mono fun _ _ h => ⟨h.1, hw.trans' h.2⟩, ?_⟩); (try simp only [Act.put, List.setIfInBounds_toArray, List.set_cons_zero, List.set_cons_succ]))
              (refine q_take ?_ (by kernel_rfl) ?_ ?_; rotate_left; (· intro w' hS; go_simp; try with_reducible rfl); (try simp only [Act.put, List.setIfInBounds_toArray, List.set_cons_zero, List.set_cons_succ]))
              (refine q_take ?_ (by kernel_rfl) ?_ ?_; rotate_left; (· intro w' hS; go_simp; try with_reducible rfl); (try simp only [Act.put, List.setIfInBounds_toArray, List.set_cons_zero, List.set_cons_succ]))
              refine q_end (fun W15 hw15 => ?_)
              replace hb6 := hw15.heap hb6 not_false
              replace hb10 := hw15.heap hb10 not_false
              have H15 := hid hw15
              clear hw15
              have y10 : W15.cell? ⟨w3.heap.size, 0, none⟩ = some (.int .i64 kk) := by rw [cell_of_row _ _ 0 _ _ _ hb6]; rfl
              have y11 : W15.cell? ⟨w3.heap.size, 1, none⟩ = some (.int .i64 nn) := by rw [cell_of_row _ _ 1 _ _ _ hb6]; rfl
              have y12 : W15.cell? ⟨w3.heap.size, 2, none⟩ = some (.string ss) := by rw [cell_of_row _ _ 2 _ _ _ hb6]; rfl
              have y13 : W15.cell? ⟨w3.heap.size, 3, none⟩ = some (.slice a len c) := by rw [cell_of_row _ _ 3 _ _ _ hb6]; rfl
              have K6 := hid hb6; have K10 := hid hb10
              clear hb6 hb10
              go_wp2_with fail
              refine (HSZ.out W15 H15.out).mono ?_
              rintro e V1 ⟨rfl, hv1⟩
              have h6_1 := hv1.heap K6.out not_false
              have h10_1 := hv1.heap K10.out not_false
              have HV1 := hid (H15.out.trans' hv1)
              clear hv1 K6 K10 y10 y11 y12 y13
              have y20 : V1.cell? ⟨w3.heap.size, 0, none⟩ = some (.int .i64 kk) := by rw [cell_of_row _ _ 0 _ _ _ h6_1]; rfl
              have y21 : V1.cell? ⟨w3.heap.size, 1, none⟩ = some (.int .i64 nn) := by rw [cell_of_row _ _ 1 _ _ _ h6_1]; rfl
              have y22 : V1.cell? ⟨w3.heap.size, 2, none⟩ = some (.string ss) := by rw [cell_of_row _ _ 2 _ _ _ h6_1]; rfl
              have y23 : V1.cell? ⟨w3.heap.size, 3, none⟩ = some (.slice a len c) := by rw [cell_of_row _ _ 3 _ _ _ h6_1]; rfl
              have K6 := hid h6_1; have K10 := hid h10_1
              clear h6_1 h10_1
              go_wp2_with fail
              refine (HDP.out V1 HV1.out).mono ?_
              rintro e V2 ⟨rfl, hv2⟩
              have h6_2 := hv2.heap K6.out not_false
              have h10_2 := hv2.heap K10.out not_false
              have HV2 := hid (HV1.out.trans' hv2)
              clear hv2 K6 K10 y20 y21 y22 y23
              clear h6_2 h10_2
              go_wp2
              go_ret
              exact ⟨rfl, HF14.out.trans' HV2.out⟩
            · skip
              have hvn := HVN.out (0) (by rw [if_neg (by omega)])
              have hvt := HVT.out (0) (by rw [if_neg (by omega)])
              have HVN1 := hid hvn; have HVT1 := hid hvt
              clear hvn hvt
              have hb6 := HB6.out; have hb10 := HB10.out
              go_upto_region 23 with fail
              refine wp_region_cls0 (fun w' => Fr (fun _ => False) W14 w') (Fr.refl _ _) ?_
              (refine q_load (by kernel_rfl) rfl rfl (fun w' hw => Fr.heap hw hb6 not_false) (by kernel_rfl) (by kernel_rfl) ?_; (try simp only [Act.put, List.setIfInBounds_toArray, List.set_cons_zero, List.set_cons_succ]))
              (refine q_call ?_ ?_ (by kernel_rfl) ?_ ?_; rotate_left 2; (· intro w' hS; go_simp; first | with_reducible rfl | (constructor <;> with_reducible rfl)); (refine ⟨_, fun w' hw => (HVN1.out w' hw).mono fun _ _ h => ⟨h.1, hw.trans' h.2⟩, ?_⟩); (try simp only [Act.put, List.setIfInBounds_toArray, List.set_cons_zero, List.set_cons_succ]))
              (refine q_take ?_ (by kernel_rfl) ?_ ?_; rotate_left; (· intro w' hS; go_simp; try with_reducible rfl); (try simp only [Act.put, List.setIfInBounds_toArray, List.set_cons_zero, List.set_cons_succ]))
              (refine q_call ?_ ?_ (by kernel_rfl) ?_ ?_; rotate_left 2; (· intro w' hS; go_simp; first | with_reducible rfl | (constructor <;> with_reducible rfl)); (refine ⟨_, fun w' hw => (HIS.out w' hw (0) (by decide)).mono fun _ _ h => ⟨h.1, hw.trans' h.2⟩, ?_⟩); (try simp only [Act.put, List.setIfInBounds_toArray, List.set_cons_zero, List.set_cons_succ]))
              (refine q_take ?_ (by kernel_rfl) ?_ ?_; rotate_left; (· intro w' hS; go_simp; try with_reducible rfl); (try simp only [Act.put, List.setIfInBounds_toArray, List.set_cons_zero, List.set_cons_succ]))
              (refine q_take ?_ (by kernel_rfl) ?_ ?_; rotate_left; (· intro w' hS; go_simp; try with_reducible rfl); (try simp only [Act.put, List.setIfInBounds_toArray, List.set_cons_zero, List.set_cons_succ]))
              (refine q_load (by kernel_rfl) rfl rfl (fun w' hw => Fr.heap hw hb10 not_false) (by kernel_rfl) (by kernel_rfl) ?_; (try simp only [Act.put, List.setIfInBounds_toArray, List.set_cons_zero, List.set_cons_succ]))
              (refine q_call ?_ ?_ (by kernel_rfl) ?_ ?_; rotate_left 2; (· intro w' hS; go_simp; first | with_reducible rfl | (constructor <;> with_reducible rfl)); (refine ⟨_, fun w' hw => (HVT1.out w' hw).mono fun _ _ h => ⟨h.1, hw.trans' h.2⟩, ?_⟩); (try simp only [Act.put, List.setIfInBounds_toArray, List.set_cons_zero, List.set_cons_succ]))
              (refine q_take ?_ (by kernel_rfl) ?_ ?_; rotate_left; (· intro w' hS; go_simp; try with_reducible rfl); (try simp only [Act.put, List.setIfInBounds_toArray, List.set_cons_zero, List.set_cons_succ]))
              (refine q_call ?_ ?_ (by kernel_rfl) ?_ ?_; rotate_left 2; (· intro w' hS; go_simp; first | with_reducible rfl | (constructor <;> with_reducible rfl)); (refine ⟨_, fun w' hw => (HIS.out w' hw (0) (by decide)).mono fun _ _ h => ⟨h.1, hw.trans' h.2⟩, ?_⟩); (try simp only [Act.put, List.setIfInBounds_toArray, List.set_cons_zero, List.set_cons_succ]))
              (refine q_take ?_ (by kernel_rfl) ?_ ?_; rotate_left; (· intro w' hS; go_simp; try with_reducible rfl); (try simp only [Act.put, List.setIfInBounds_toArray, List.set_cons_zero, List.set_cons_succ]))
              (refine q_take ?_ (by kernel_rfl) ?_ ?_; rotate_left; (· intro w' hS; go_simp; try with_reducible rfl); (try simp only [Act.put, List.setIfInBounds_toArray, List.set_cons_zero, List.set_cons_succ]))
              refine q_end (fun W15 hw15 => ?_)
              replace hb6 := hw15.heap hb6 not_false
              replace hb10 := hw15.heap hb10 not_false
              have H15 := hid hw15
              clear hw15
              have y10 : W15.cell? ⟨w3.heap.size, 0, none⟩ = some (.int .i64 kk) := by rw [cell_of_row _ _ 0 _ _ _ hb6]; rfl
              have y11 : W15.cell? ⟨w3.heap.size, 1, none⟩ = some (.int .i64 nn) := by rw [cell_of_row _ _ 1 _ _ _ hb6]; rfl
              have y12 : W15.cell? ⟨w3.heap.size, 2, none⟩ = some (.string ss) := by rw [cell_of_row _ _ 2 _ _ _ hb6]; rfl
              have y13 : W15.cell? ⟨w3.heap.size, 3, none⟩ = some (.slice a len c) := by rw [cell_of_row _ _ 3 _ _ _ hb6]; rfl
              have K6 := hid hb6; have K10 := hid hb10
              clear hb6 hb10
              go_wp2_with fail
              refine (HSZ.out W15 H15.out).mono ?_
              rintro e V1 ⟨rfl, hv1⟩
              have h6_1 := hv1.heap K6.out not_false
              have h10_1 := hv1.heap K10.out not_false
              have HV1 := hid (H15.out.trans' hv1)
              clear hv1 K6 K10 y10 y11 y12 y13
              have y20 : V1.cell? ⟨w3.heap.size, 0, none⟩ = some (.int .i64 kk) := by rw [cell_of_row _ _ 0 _ _ _ h6_1]; rfl
              have y21 : V1.cell? ⟨w3.heap.size, 1, none⟩ = some (.int .i64 nn) := by rw [cell_of_row _ _ 1 _ _ _ h6_1]; rfl
              have y22 : V1.cell? ⟨w3.heap.size, 2, none⟩ = some (.string ss) := by rw [cell_of_row _ _ 2 _ _ _ h6_1]; rfl
              have y23 : V1.cell? ⟨w3.heap.size, 3, none⟩ = some (.slice a len c) := by rw [cell_of_row _ _ 3 _ _ _ h6_1]; rfl
              have K6 := hid h6_1; have K10 := hid h10_1
              clear h6_1 h10_1
              go_wp2_with fail
              refine (HDP.out V1 HV1.out).mono ?_
              rintro e V2 ⟨rfl, hv2⟩
              have h6_2 := hv2.heap K6.out not_false
              have h10_2 := hv2.heap K10.out not_false
              have HV2 := hid (HV1.out.trans' hv2)
              clear hv2 K6 K10 y20 y21 y22 y23
              have y30 : V2.cell? ⟨w13.heap.size, 0, none⟩ = some (.int .i64 2) := by rw [cell_of_row _ _ 0 _ _ _ h10_2]; rfl
              have y31 : V2.cell? ⟨w13.heap.size, 1, none⟩ = some (.int .i64 0) := by rw [cell_of_row _ _ 1 _ _ _ h10_2]; rfl
              have y32 : V2.cell? ⟨w13.heap.size, 2, none⟩ = some (.string (xs j)) := by rw [cell_of_row _ _ 2 _ _ _ h10_2]; rfl
              have y33 : V2.cell? ⟨w13.heap.size, 3, none⟩ = some (.slice none 0 0) := by rw [cell_of_row _ _ 3 _ _ _ h10_2]; rfl
              have K6 := hid h6_2; have K10 := hid h10_2
              clear h6_2 h10_2
              go_wp2_with fail
              refine (HST.out V2 HV2.out).mono ?_
              rintro e V3 ⟨rfl, hv3⟩
              have h6_3 := hv3.heap K6.out not_false
              have h10_3 := hv3.heap K10.out not_false
              have HV3 := hid (HV2.out.trans' hv3)
              clear hv3 K6 K10 y30 y31 y32 y33
              clear h6_3 h10_3
              go_wp2
              go_ret
              exact ⟨rfl, HF14.out.trans' HV3.out⟩
end Go.Proofs.YteadegaclnibhaaDoor
