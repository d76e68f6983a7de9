/- ValMakes: true, whatever comes in (of at most 2^20 in all). -/
import Derived.Test.YteadegaclnibhaaDoorValFirstD
import Derived.Test.YteadegaclnibhaaDoorVFlat
import Derived.Test.YteadegaclnibhaaDoorValSame
import Derived.Test.YteadegaclnibhaaDoorGuard
import Derived.Test.YteadegaclnibhaaDoorLexL
import Derived.Deep.CutRange
import Derived.Deep.CutBlock
namespace Go.Proofs.YteadegaclnibhaaDoor
open Go.RowKit

theorem fr_size {S : Nat → Prop} {w w' : World} (h : Fr S w w') {n : Nat} (hn : n ≤ w.heap.size) : n ≤ w'.heap.size := Nat.le_trans hn h.size

theorem Tryd.field0 (a b c d : Value) (ha : a.oneCell' = true) (w : World) : (Instr.field 24 (.agg #[a, b, c, d]) 0).run Tryd.prog w = .ok a w := by
  cases a <;> first | (cases ha; done) | kernel_rfl
theorem Tryd.field1 (a b c d : Value) (ha : b.oneCell' = true) (w : World) : (Instr.field 24 (.agg #[a, b, c, d]) 1).run Tryd.prog w = .ok b w := by
  cases b <;> first | (cases ha; done) | kernel_rfl
theorem Tryd.field2 (a b c d : Value) (ha : c.oneCell' = true) (w : World) : (Instr.field 24 (.agg #[a, b, c, d]) 2).run Tryd.prog w = .ok c w := by
  cases c <;> first | (cases ha; done) | kernel_rfl

set_option maxRecDepth 20000 in
set_option maxHeartbeats 3200000 in
theorem valMakes_any (n o : Int) (s : ByteArray) (code : Int) (l : List V) (hM : sizeL l ≤ 1048576) (hsm : s.size ≤ 1048576) (ho1 : -9223372036854775808 ≤ o) (ho2 : o ≤ 9223372036854775807) (hc1 : -9223372036854775808 ≤ code) (hc2 : code ≤ 9223372036854775807)
    (D : Nat → Prop) (w : World) (v : Value) (h : VL D w l v)
    (eD eM eR eS : Value) (tR tS : TypeId) (vR vS : Value) (i1 : IsErr eD) (i2 : IsErr eM) (i3 : eR = .iface tR vR) (i4 : eS = .iface tS vS) (hE : Errs w eD eM eR eS) (h4 : 4 ≤ w.heap.size) :
    Calls Tryd.prog 5 #[.int .i64 n, .int .i64 o, .string s, .int .i64 code, v] w fun e w' => e = .returned (.bool true) ∧ Fr (fun _ => False) w w' := by
  have hM' : sizeL l ≤ 1099511627776 := by omega
  obtain ⟨a, cap, us, rfl, hc, hm, -⟩ := id h
  have hlm : l.length ≤ 9223372036854775807 := Nat.le_trans hc hm
  have HV := hid h; have HM := hid hM'; have HW := hid hE; have HI := hid (⟨i1, i2, i3, i4⟩ : IsErr eD ∧ IsErr eM ∧ eR = .iface tR vR ∧ eS = .iface tS vS)
  have HX := hid (show (V.mk 4 0 ⟨#[]⟩ l).size ≤ 1099511627776 by simp [V.size, ByteArray.size]; omega)
  have HSM := hid hsm
  clear h hM hM' hE i1 i2 i3 i4 hsm
  go_enter Tryd.func5, Tryd.ntmps5
  go_wp2_with fail
  refine (first_any _).mono ?_
  rintro e w1 ⟨rfl, hf1⟩
  have HF1 := hid hf1; have HV1 := hid (HV.out.frame hf1 fun _ _ => id)
  clear hf1
  by_cases hs2 : (200 : Int) < s.size
  · go_wp2
    go_ret
    exact ⟨rfl, HF1.out⟩
  go_wp2_with fail
  refine (rights_any 20 l HM.out D w1 _ HV1.out).mono ?_
  rintro e w2 ⟨rfl, hf2⟩
  have HF2 := hid (HF1.out.trans' hf2); have HV2 := hid (HV1.out.frame hf2 fun _ _ => id)
  clear hf2 HF1 HV1
  cases hr : (decide (l.length ≤ 20) && l.all V.right)
  case false =>
    go_wp2
    go_ret
    exact ⟨rfl, HF2.out⟩
  clear hr
  go_wp2_with fail
  refine (vL_any l HM.out D w2 _ HV2.out).mono ?_
  rintro e w5 ⟨u5, rfl, hf5, hv5, -⟩
  obtain ⟨v5, rfl, a5, c5, us5, rfl, -⟩ := hv5.open
  simp only [V.k, V.n, V.s, V.l] at hv5 ⊢
  have hl2 := (HV2.out.mono (E := fun b => b < w2.heap.size) fun k hk _ => hk).frame hf5 fun _ _ => id
  have hA5 : Fr (fun _ => False) w5 (w5.alloc (.cells #[.int .i64 4, .int .i64 0, .string ⟨#[]⟩, .slice a5 l.length c5] 24)) := (Fr.refl (fun _ => False) w5).alloc _
  have hb5 : (w5.alloc (.cells #[.int .i64 4, .int .i64 0, .string ⟨#[]⟩, .slice a5 l.length c5] 24)).heap[w5.heap.size]? = some (.cells #[.int .i64 4, .int .i64 0, .string ⟨#[]⟩, .slice a5 l.length c5] 24) := heap_alloc_new w5 _
  have hF5 := (HF2.out.trans' hf5).trans' hA5
  have hV5 := (hv5.mono (E := fun b => (w2.heap.size ≤ b ∧ b < w5.heap.size) ∧ Soft w5 b) fun k hk hd => ⟨⟨hd.1, hk⟩, hd.2⟩).soft hA5 fun _ _ => id
  have hL5 := hl2.frame hA5 fun _ _ => id
  have hsz5 : (w5.alloc (.cells #[.int .i64 4, .int .i64 0, .string ⟨#[]⟩, .slice a5 l.length c5] 24)).heap.size = w5.heap.size + 1 := by simp
  have hle5 := hf5.size
  have HWW := hid (HF2.out.size)
  clear hf5 hv5 hl2 HF2 HV2 hA5
  go_upto_if 35 with fail
  generalize w5.alloc (.cells #[.int .i64 4, .int .i64 0, .string ⟨#[]⟩, .slice a5 l.length c5] 24) = W5 at *
  have HF5 := hid hF5; have HV5 := hid hV5; have HL5 := hid hL5; have HB5 := hid hb5
  clear hF5 hV5 hL5 hb5
  go_cut [] from 35 to 50 (fun wx => ∃ a6 c6, wx.heap[w5.heap.size]? = some (.cells #[.int .i64 4, .int .i64 0, .string ⟨#[]⟩, .slice a6 l.length c6] 24) ∧ VIn (fun b => b ≠ w5.heap.size) wx (.mk 4 0 ⟨#[]⟩ l) #[.int .i64 4, .int .i64 0, .string ⟨#[]⟩, .slice a6 l.length c6] ∧
      VL (fun b => b < w2.heap.size) wx l (.slice a l.length cap) ∧ Fr (fun _ => False) w wx)
  case first =>
    by_cases h0 : 0 < l.length
    · obtain ⟨vv, ev, a5', c5', us5', rfl, hc5, hm5, hn5, hb5', hi5'⟩ := HV5.out.open
      simp only [V.k, V.n, V.s, V.l, Array.mk.injEq, List.cons.injEq, true_and, and_true, Value.slice.injEq] at ev hb5' hi5'
      obtain ⟨rfl, rfl⟩ := ev
      obtain ⟨b, o, y, ay, cy, rfl, ⟨⟨hbl, hbu⟩, hsoft⟩, hy, hvy, e0, e1, e2, e3⟩ := VL.elem hb5' hi5' 0 h0
      obtain ⟨al, cl, ul, el, -, -, -, hbl', hil'⟩ := HL5.out
      simp only [Value.slice.injEq] at el
      obtain ⟨rfl, -, rfl⟩ := el
      obtain ⟨bz, oz, z, az, cz, rfl, hbz, hz, hvz, z0, z1, z2, z3⟩ := VL.elem hbl' hil' 0 h0
      obtain rfl : z = y := Option.some.inj (hz.symm.trans hy)
      simp only [Nat.zero_mul, Nat.add_zero] at e0 e1 e2 e3 z0 z1 z2 z3
      have dv : W5.cell? ⟨w5.heap.size, 3, none⟩ = some (.slice (some ⟨b, o, none⟩) l.length c5) := by rw [cell_of_row _ _ 3 _ _ _ HB5.out]; rfl
      have hsame := fun (w' : World) (hS : Fr (fun _ => False) W5 w') => vsame_refl z.size z (Nat.le_refl _) _ _ w' _ _ (hvy.frame hS fun _ _ => id) (hvz.frame hS fun _ _ => id)
      have HSM2 := hid hsame; have HSO := hid hsoft
      clear hsame hb5' hi5' hbl' hil' hvy hvz hsoft hy hz hn5
      go_wp2_with fail
      refine wp_region_cls (fun w' => Fr (fun _ => False) W5 w') (by kernel_rfl) (by kernel_rfl) (Fr.refl _ _).drew ?_
      (refine q_take ?_ (by kernel_rfl) ?_ ?_; rotate_left; (· intro w' hS; go_simp; try with_reducible rfl); (try simp only [Act.put, List.setIfInBounds_toArray, List.set_cons_zero, List.set_cons_succ]))
      (refine q_take ?_ (by kernel_rfl) ?_ ?_; rotate_left; (· intro w' hS; have d0 := hS.cell dv not_false; go_simp; try with_reducible rfl); (try simp only [Act.put, List.setIfInBounds_toArray, List.set_cons_zero, List.set_cons_succ]))
      (refine q_take ?_ (by kernel_rfl) ?_ ?_; rotate_left; (· intro w' hS; go_simp; try with_reducible rfl); (try simp only [Act.put, List.setIfInBounds_toArray, List.set_cons_zero, List.set_cons_succ]))
      (refine q_take ?_ (by kernel_rfl) ?_ ?_; rotate_left; (· intro w' hS; have d0 := hS.cell e0 not_false; have d1 := hS.cell e1 not_false; have d2 := hS.cell e2 not_false; have d3 := hS.cell e3 not_false; go_simp; try with_reducible rfl); (try simp only [Act.put, List.setIfInBounds_toArray, List.set_cons_zero, List.set_cons_succ]))
      (refine q_take ?_ (by kernel_rfl) ?_ ?_; rotate_left; (· intro w' hS; go_simp; try with_reducible rfl); (try simp only [Act.put, List.setIfInBounds_toArray, List.set_cons_zero, List.set_cons_succ]))
      (refine q_take ?_ (by kernel_rfl) ?_ ?_; rotate_left; (· intro w' hS; go_simp; try with_reducible rfl); (try simp only [Act.put, List.setIfInBounds_toArray, List.set_cons_zero, List.set_cons_succ]))
      (refine q_take ?_ (by kernel_rfl) ?_ ?_; rotate_left; (· intro w' hS; have d0 := hS.cell z0 not_false; have d1 := hS.cell z1 not_false; have d2 := hS.cell z2 not_false; have d3 := hS.cell z3 not_false; go_simp; try with_reducible rfl); (try simp only [Act.put, List.setIfInBounds_toArray, List.set_cons_zero, List.set_cons_succ]))
      (refine q_call ?_ ?_ (by kernel_rfl) ?_ ?_; rotate_left 2; (· intro w' hS; go_simp; first | with_reducible rfl | (constructor <;> with_reducible rfl)); (refine ⟨_, fun w' hw => (HSM2.out w' hw).mono fun _ _ h => ⟨h.1, hw.trans' h.2⟩, ?_⟩); (try simp only [Act.put, List.setIfInBounds_toArray, List.set_cons_zero, List.set_cons_succ]))
      (refine q_take ?_ (by kernel_rfl) ?_ ?_; rotate_left; (· intro w' hS; go_simp; try with_reducible rfl); (try simp only [Act.put, List.setIfInBounds_toArray, List.set_cons_zero, List.set_cons_succ]))
      refine q_end (fun W6 hw => ?_)
      have dv6 := hw.cell dv not_false
      have HW6 := hid hw
      clear dv HSM2
      go_upto_region 10 with fail
      replace e0 := HW6.out.cell e0 not_false
      replace e1 := HW6.out.cell e1 not_false
      replace e2 := HW6.out.cell e2 not_false
      replace e3 := HW6.out.cell e3 not_false
      clear z0 z1 z2 z3 hw
      refine wp_region_ord [(0, 0), (1, 0), (2, 1), (3, 1), (4, 1)] (fun w' => w'.cell? ⟨w5.heap.size, 3, none⟩ = some (.slice (some ⟨b, o, none⟩) l.length c5)) (by kernel_rfl) (by kernel_rfl) (by kernel_rfl) rfl (fun _ _ d _ _ h => by cases d <;> exact h) dv6 ?_
      iterate 2 (refine wpO_take ?_ rfl (by kernel_rfl) ?_ ?_; rotate_left; (· intro w' hS; go_simp; try with_reducible rfl); try simp only [Act.put, List.setIfInBounds_toArray, List.set_cons_zero, List.set_cons_succ])
      refine wpO_run rfl (by kernel_rfl) (fun K hK => ?_); go_simp
      refine (vI_any _ _).mono ?_
      rintro e w7 ⟨rfl, hf7⟩
      have d7 : w7.cell? ⟨w5.heap.size, 3, none⟩ = some (.slice (some ⟨b, o, none⟩) l.length c5) := hf7.cell dv6 not_false
      replace e0 : w7.cell? ⟨b, o, none⟩ = some _ := hf7.cell e0 not_false
      replace e1 : w7.cell? ⟨b, o + 1, none⟩ = some _ := hf7.cell e1 not_false
      replace e2 : w7.cell? ⟨b, o + 2, none⟩ = some _ := hf7.cell e2 not_false
      replace e3 : w7.cell? ⟨b, o + 3, none⟩ = some _ := hf7.cell e3 not_false
      have hf57 : Fr (fun _ => False) W5 w7 := HW6.out.drew.trans' hf7
      have f7 : ∀ i, w7.frozen? ⟨b, i, none⟩ = false := hf57.soft (by omega) not_false HSO.out
      have HF57 := hid hf57
      clear hf7 hf57 dv6 HW6
      refine hK _ _ (fun _ => d7) ?_
      clear hK K
      try simp only [Act.put, List.setIfInBounds_toArray, List.set_cons_zero, List.set_cons_succ]
      (refine wpO_run rfl (by kernel_rfl) (fun K hK => ?_); go_simp; refine hK _ _ (fun _ => d7) ?_; clear hK K; try simp only [Act.put, List.setIfInBounds_toArray, List.set_cons_zero, List.set_cons_succ])
      refine wpO_run rfl (by kernel_rfl) (fun K hK => ?_)
      go_simp
      refine hK _ _ (last_skip (by kernel_rfl)) ?_
      clear hK K
      try simp only [Act.put, List.setIfInBounds_toArray, List.set_cons_zero, List.set_cons_succ]
      refine wpO_end ?_
      have hf8 : Fr (fun q => w2.heap.size ≤ q ∧ q < w5.heap.size) W5 ((((w7.setCell ⟨b, o, none⟩ (.int .i64 0)).setCell ⟨b, o + 1, none⟩ (.int .i64 77)).setCell ⟨b, o + 2, none⟩ (.string ⟨#[]⟩)).setCell ⟨b, o + 3, none⟩ (.slice none 0 0)) :=
        ((((HF57.out.mono (T := fun q => w2.heap.size ≤ q ∧ q < w5.heap.size) (fun _ _ h => h.elim)).setCell (p := ⟨b, o, none⟩) (.inl ⟨hbl, hbu⟩) _).setCell (p := ⟨b, o + 1, none⟩) (.inl ⟨hbl, hbu⟩) _).setCell (p := ⟨b, o + 2, none⟩) (.inl ⟨hbl, hbu⟩) _).setCell (p := ⟨b, o + 3, none⟩) (.inl ⟨hbl, hbu⟩) _
      clear e0 e1 e2 e3 f7 d7 HF57 HSO
      go_upto_region 11 with fail
      generalize ((((w7.setCell ⟨b, o, none⟩ (.int .i64 0)).setCell ⟨b, o + 1, none⟩ (.int .i64 77)).setCell ⟨b, o + 2, none⟩ (.string ⟨#[]⟩)).setCell ⟨b, o + 3, none⟩ (.slice none 0 0)) = W8 at *
      have hB8 := hf8.heap HB5.out (by omega)
      have hL8 := HL5.out.frame hf8 (fun q hq e => by omega)
      have hF8 := HF5.out.trans hf8 (fun _ _ => id) (fun q hq e => by have := HWW.out; omega)
      have hle8 := hf8.size
      have hvl := vL_any l HM.out _ W8 _ hL8
      have HVL := hid hvl; have HF8 := hid hF8; have HB8 := hid hB8; have HL8 := hid hL8
      clear hvl hF8 hB8 hL8 hf8
      go_wp2_with fail
      refine HVL.out.mono ?_
      rintro e w9 ⟨u9, rfl, hf9, hv9, -⟩
      obtain ⟨v9, rfl, a9, c9, us9, rfl, -⟩ := hv9.open
      simp only [V.k, V.n, V.s, V.l] at hv9 ⊢
      have hB9 := hf9.heap HB8.out not_false
      have f9 : ∀ i, w9.frozen? ⟨w5.heap.size, i, none⟩ = false := fun i => frozen_of_row _ _ i _ _ hB9
      have x0 : w9.cell? ⟨w5.heap.size, 0, none⟩ = some (.int .i64 4) := by rw [cell_of_row _ _ 0 _ _ _ hB9]; rfl
      have x1 : w9.cell? ⟨w5.heap.size, 1, none⟩ = some (.int .i64 0) := by rw [cell_of_row _ _ 1 _ _ _ hB9]; rfl
      have x2 : w9.cell? ⟨w5.heap.size, 2, none⟩ = some (.string ⟨#[]⟩) := by rw [cell_of_row _ _ 2 _ _ _ hB9]; rfl
      have x3 : w9.cell? ⟨w5.heap.size, 3, none⟩ = some (.slice (some ⟨b, o, none⟩) l.length c5) := by rw [cell_of_row _ _ 3 _ _ _ hB9]; rfl
      have hf10 : Fr (fun q => q = w5.heap.size) w9 ((((w9.setCell ⟨w5.heap.size, 0, none⟩ (.int .i64 4)).setCell ⟨w5.heap.size, 1, none⟩ (.int .i64 0)).setCell ⟨w5.heap.size, 2, none⟩ (.string ⟨#[]⟩)).setCell ⟨w5.heap.size, 3, none⟩ (.slice a9 l.length c9)) :=
        ((((Fr.refl (fun q => q = w5.heap.size) w9).setCell (p := ⟨w5.heap.size, 0, none⟩) (.inl rfl) _).setCell (p := ⟨w5.heap.size, 1, none⟩) (.inl rfl) _).setCell (p := ⟨w5.heap.size, 2, none⟩) (.inl rfl) _).setCell (p := ⟨w5.heap.size, 3, none⟩) (.inl rfl) _
      have hR10 := setCell_row 3 (.slice a9 l.length c9) (setCell_row 2 (.string ⟨#[]⟩) (setCell_row 1 (.int .i64 0) (setCell_row 0 (.int .i64 4) hB9)))
      simp only [List.setIfInBounds_toArray, List.set_cons_zero, List.set_cons_succ] at hR10
      have hV10 := (hv9.mono (E := fun b => b ≠ w5.heap.size) fun k _ hd => by have := hd.1; omega).frame hf10 (fun _ h => h)
      have hL10 := (HL8.out.frame hf9 fun _ _ => id).frame hf10 (fun q hq e => by omega)
      have hF10 := (HF8.out.trans' hf9).trans hf10 (fun _ _ => id) (fun q hq e => by have := HWW.out; omega)
      have HR10 := hid hR10; have HV10 := hid hV10; have HL10 := hid hL10; have HF10 := hid hF10
      clear hR10 hV10 hL10 hF10 hf10 hf9 hv9 hB9
      go_wp2_with fail
      go_meet
      exact ⟨a9, c9, HR10.out, HV10.out, HL10.out, HF10.out⟩
    · go_wp2_with fail
      go_meet
      exact ⟨a5, c5, HB5.out, HV5.out.mono fun k hk hd => by omega, HL5.out, HF5.out⟩
  case rest =>
  obtain ⟨a6, c6, hb6, hv6, hl6, hf6⟩ := hcut
  have d3 : wc.cell? ⟨w5.heap.size, 3, none⟩ = some (.slice a6 l.length c6) := by rw [cell_of_row _ _ 3 _ _ _ hb6]; rfl
  have d0 : wc.cell? ⟨w5.heap.size, 0, none⟩ = some (.int .i64 4) := by rw [cell_of_row _ _ 0 _ _ _ hb6]; rfl
  have hl0 : ((l.length : Int) == (l.length : Int)) = true := by simp
  have HB6 := hid hb6; have HV6 := hid hv6; have HL6 := hid hl6; have HF6 := hid hf6; have HD3 := hid d3; have HD0 := hid d0
  clear hb6 hv6 hl6 hf6 d0 HF5 HV5 HL5 HB5
  go_wp2_with fail
  go_loopw [13, 14] (fun sm i wr => sm = .bool true ∧ (∃ k : Nat, k ≤ l.length ∧ i = .int .i64 k) ∧ Fr (fun _ => False) wc wr) (fun _ i _ => l.length - (intOf i).toNat)
  case atStart => exact ⟨rfl, ⟨0, Nat.zero_le _, rfl⟩, Fr.refl _ _⟩
  case round =>
    obtain ⟨rfl, ⟨k, hk, rfl⟩, hf⟩ := hrel
    have d3r := hf.cell HD3.out not_false
    by_cases hlt : k < l.length
    · obtain ⟨vv, ev, a6', c6', us6', rfl, hc6, hm6, hn6, hb6', hi6'⟩ := HV6.out.open
      simp only [V.k, V.n, V.s, V.l, Array.mk.injEq, List.cons.injEq, true_and, and_true, Value.slice.injEq] at ev hb6' hi6'
      obtain ⟨rfl, rfl⟩ := ev
      obtain ⟨b, o, y, ay, cy, rfl, -, hy, hvy, e0, e1, e2, e3⟩ := VL.elem hb6' hi6' k hlt
      obtain ⟨al, cl, ul, el, -, -, -, hbl', hil'⟩ := HL6.out
      simp only [Value.slice.injEq] at el
      obtain ⟨rfl, -, rfl⟩ := el
      obtain ⟨bz, oz, z, az, cz, rfl, -, hz, hvz, z0, z1, z2, z3⟩ := VL.elem hbl' hil' k hlt
      obtain rfl : z = y := Option.some.inj (hz.symm.trans hy)
      replace e0 := hf.cell e0 not_false
      replace e1 := hf.cell e1 not_false
      replace e2 := hf.cell e2 not_false
      replace e3 := hf.cell e3 not_false
      replace z0 := hf.cell z0 not_false
      replace z1 := hf.cell z1 not_false
      replace z2 := hf.cell z2 not_false
      replace z3 := hf.cell z3 not_false
      have hsame := fun (w' : World) (hS : Fr (fun _ => False) wr w') => vsame_refl z.size z (Nat.le_refl _) _ _ w' _ _ ((hvy.frame hf fun _ _ => id).frame hS fun _ _ => id) ((hvz.frame hf fun _ _ => id).frame hS fun _ _ => id)
      have HSM2 := hid hsame; have HFr := hid hf
      clear hsame hb6' hi6' hbl' hil' hvy hvz hy hz hn6 hf
      go_wp2_with fail
      refine wp_region_cls (fun w' => Fr (fun _ => False) wr w') (by kernel_rfl) (by kernel_rfl) (Fr.refl _ _).drew ?_
      (refine q_take ?_ (by kernel_rfl) ?_ ?_; rotate_left; (· intro w' hS; go_simp; try with_reducible rfl); (try simp only [Act.put, List.setIfInBounds_toArray, List.set_cons_zero, List.set_cons_succ]))
      (refine q_take ?_ (by kernel_rfl) ?_ ?_; rotate_left; (· intro w' hS; have d0 := hS.cell d3r not_false; go_simp; try with_reducible rfl); (try simp only [Act.put, List.setIfInBounds_toArray, List.set_cons_zero, List.set_cons_succ]))
      (refine q_take ?_ (by kernel_rfl) ?_ ?_; rotate_left; (· intro w' hS; go_simp; try with_reducible rfl); (try simp only [Act.put, List.setIfInBounds_toArray, List.set_cons_zero, List.set_cons_succ]))
      (refine q_take ?_ (by kernel_rfl) ?_ ?_; rotate_left; (· intro w' hS; go_simp; try with_reducible rfl); (try simp only [Act.put, List.setIfInBounds_toArray, List.set_cons_zero, List.set_cons_succ]))
      (refine q_take ?_ (by kernel_rfl) ?_ ?_; rotate_left; (· intro w' hS; have d0 := hS.cell e0 not_false; have d1 := hS.cell e1 not_false; have d2 := hS.cell e2 not_false; have d3 := hS.cell e3 not_false; go_simp; try with_reducible rfl); (try simp only [Act.put, List.setIfInBounds_toArray, List.set_cons_zero, List.set_cons_succ]))
      (refine q_take ?_ (by kernel_rfl) ?_ ?_; rotate_left; (· intro w' hS; go_simp; try with_reducible rfl); (try simp only [Act.put, List.setIfInBounds_toArray, List.set_cons_zero, List.set_cons_succ]))
      (refine q_take ?_ (by kernel_rfl) ?_ ?_; rotate_left; (· intro w' hS; go_simp; try with_reducible rfl); (try simp only [Act.put, List.setIfInBounds_toArray, List.set_cons_zero, List.set_cons_succ]))
      (refine q_take ?_ (by kernel_rfl) ?_ ?_; rotate_left; (· intro w' hS; go_simp; try with_reducible rfl); (try simp only [Act.put, List.setIfInBounds_toArray, List.set_cons_zero, List.set_cons_succ]))
      (refine q_take ?_ (by kernel_rfl) ?_ ?_; rotate_left; (· intro w' hS; have d0 := hS.cell z0 not_false; have d1 := hS.cell z1 not_false; have d2 := hS.cell z2 not_false; have d3 := hS.cell z3 not_false; go_simp; try with_reducible rfl); (try simp only [Act.put, List.setIfInBounds_toArray, List.set_cons_zero, List.set_cons_succ]))
      (refine q_call ?_ ?_ (by kernel_rfl) ?_ ?_; rotate_left 2; (· intro w' hS; go_simp; first | with_reducible rfl | (constructor <;> with_reducible rfl)); (refine ⟨_, fun w' hw => (HSM2.out w' hw).mono fun _ _ h => ⟨h.1, hw.trans' h.2⟩, ?_⟩); (try simp only [Act.put, List.setIfInBounds_toArray, List.set_cons_zero, List.set_cons_succ]))
      (refine q_take ?_ (by kernel_rfl) ?_ ?_; rotate_left; (· intro w' hS; go_simp; try with_reducible rfl); (try simp only [Act.put, List.setIfInBounds_toArray, List.set_cons_zero, List.set_cons_succ]))
      refine q_end (fun W6 hw => ?_)
      have HW6 := hid (HFr.out.trans' hw)
      clear hw
      go_wp2
      go_roundw
      case rel => exact ⟨rfl, ⟨k + 1, by omega, by go_num⟩, HW6.out⟩
      case measure => simp [intOf]; omega
    · have HFr := hid hf
      clear hf
      go_wp2_with fail
      have hE9 := HW.out.frame (HF6.out.trans' HFr.out) (fun _ _ => id)
      have hz9 : 4 ≤ wr.heap.size := fr_size (HF6.out.trans' HFr.out) h4
      have hvi := fun (w' : World) (hw : Fr (fun _ => False) wr w') => validI_any eD eM eR eS tR tS vR vS HI.out.1 HI.out.2.1 HI.out.2.2.1 HI.out.2.2.2 w' (hE9.frame hw fun _ _ => id) (fr_size hw hz9) n
      have hvo := fun (w' : World) (hw : Fr (fun _ => False) wr w') => validO_any eD eM eR eS tR tS vR vS HI.out.1 HI.out.2.1 HI.out.2.2.1 HI.out.2.2.2 w' (hE9.frame hw fun _ _ => id) (fr_size hw hz9) o
      have hve := fun (w' : World) (hw : Fr (fun _ => False) wr w') => validE_any eD eM eR eS tR tS vR vS HI.out.1 HI.out.2.1 HI.out.2.2.1 HI.out.2.2.2 w' (hE9.frame hw fun _ _ => id) (fr_size hw hz9) code
      have hvs := fun (w' : World) (hw : Fr (fun _ => False) wr w') => validS_any eD eM eR eS tR tS vR vS HI.out.1 HI.out.2.1 HI.out.2.2.1 HI.out.2.2.2 w' (hE9.frame hw fun _ _ => id) (fr_size hw hz9) s (by omega)
      have HVI := hid hvi; have HVO := hid hvo; have HVE := hid hve; have HVS := hid hvs; have hd0r := HFr.out.cell HD0.out not_false
      clear hE9 hz9 hvi hvo hve hvs
      have fd0 : ∀ (k m : Int) (t : ByteArray) (w' : World), (Instr.field 24 (.agg #[.int .i64 k, .int .i64 m, .string t, .slice none 0 0]) 0).run Tryd.prog w' = .ok (.int .i64 k) w' := fun _ _ _ _ => Tryd.field0 _ _ _ _ rfl _
      have fd1 : ∀ (k m : Int) (t : ByteArray) (w' : World), (Instr.field 24 (.agg #[.int .i64 k, .int .i64 m, .string t, .slice none 0 0]) 1).run Tryd.prog w' = .ok (.int .i64 m) w' := fun _ _ _ _ => Tryd.field1 _ _ _ _ rfl _
      have fd2 : ∀ (k m : Int) (t : ByteArray) (w' : World), (Instr.field 24 (.agg #[.int .i64 k, .int .i64 m, .string t, .slice none 0 0]) 2).run Tryd.prog w' = .ok (.string t) w' := fun _ _ _ _ => Tryd.field2 _ _ _ _ rfl _
      simp only [List.append]
      refine wp_region_cls (fun w' => Fr (fun _ => False) wr w') (by kernel_rfl) (lexB_of _ (by kernel_rfl) (by kernel_rfl)) (Fr.refl _ _).drew ?_
      (refine q_take ?_ (by kernel_rfl) ?_ ?_; rotate_left; (· intro w' hS; go_simp; try with_reducible rfl); (try simp only [Act.put, List.setIfInBounds_toArray, List.set_cons_zero, List.set_cons_succ]))
      (refine q_take ?_ (by kernel_rfl) ?_ ?_; rotate_left; (· intro w' hS; go_simp; try with_reducible rfl); (try simp only [Act.put, List.setIfInBounds_toArray, List.set_cons_zero, List.set_cons_succ]))
      (refine q_take ?_ (by kernel_rfl) ?_ ?_; rotate_left; (· intro w' hS; go_simp; try with_reducible rfl); (try simp only [Act.put, List.setIfInBounds_toArray, List.set_cons_zero, List.set_cons_succ]))
      (refine q_call ?_ ?_ (by kernel_rfl) ?_ ?_; rotate_left 2; (· intro w' hS; go_simp; first | with_reducible rfl | (constructor <;> with_reducible rfl)); (refine ⟨_, fun w' hw => (vI_any _ w').mono fun _ _ h => ⟨h.1, hw.trans' h.2⟩, ?_⟩); (try simp only [Act.put, List.setIfInBounds_toArray, List.set_cons_zero, List.set_cons_succ]))
      (refine q_take ?_ (by kernel_rfl) ?_ ?_; rotate_left; (· intro w' hS; go_simp; try with_reducible rfl); (try simp only [Act.put, List.setIfInBounds_toArray, List.set_cons_zero, List.set_cons_succ]))
      (refine q_take ?_ (by kernel_rfl) ?_ ?_; rotate_left; (· intro w' hS; go_simp; try with_reducible rfl); (try simp only [Act.put, List.setIfInBounds_toArray, List.set_cons_zero, List.set_cons_succ]))
      (refine q_take ?_ (by kernel_rfl) ?_ ?_; rotate_left; (· intro w' hS; go_simp; try with_reducible rfl); (try simp only [Act.put, List.setIfInBounds_toArray, List.set_cons_zero, List.set_cons_succ]))
      (refine q_take ?_ (by kernel_rfl) ?_ ?_; rotate_left; (· intro w' hS; go_simp; try with_reducible rfl); (try simp only [Act.put, List.setIfInBounds_toArray, List.set_cons_zero, List.set_cons_succ]))
      (refine q_take ?_ (by kernel_rfl) ?_ ?_; rotate_left; (· intro w' hS; go_simp; try with_reducible rfl); (try simp only [Act.put, List.setIfInBounds_toArray, List.set_cons_zero, List.set_cons_succ]))
      (refine q_take ?_ (by kernel_rfl) ?_ ?_; rotate_left; (· intro w' hS; go_simp; try with_reducible rfl); (try simp only [Act.put, List.setIfInBounds_toArray, List.set_cons_zero, List.set_cons_succ]))
      (refine q_call ?_ ?_ (by kernel_rfl) ?_ ?_; rotate_left 2; (· intro w' hS; go_simp; first | with_reducible rfl | (constructor <;> with_reducible rfl)); (refine ⟨_, fun w' hw => (vI_any _ w').mono fun _ _ h => ⟨h.1, hw.trans' h.2⟩, ?_⟩); (try simp only [Act.put, List.setIfInBounds_toArray, List.set_cons_zero, List.set_cons_succ]))
      (refine q_take ?_ (by kernel_rfl) ?_ ?_; rotate_left; (· intro w' hS; go_simp; try with_reducible rfl); (try simp only [Act.put, List.setIfInBounds_toArray, List.set_cons_zero, List.set_cons_succ]))
      (refine q_take ?_ (by kernel_rfl) ?_ ?_; rotate_left; (· intro w' hS; go_simp; try with_reducible rfl); (try simp only [Act.put, List.setIfInBounds_toArray, List.set_cons_zero, List.set_cons_succ]))
      (refine q_take ?_ (by kernel_rfl) ?_ ?_; rotate_left; (· intro w' hS; go_simp; try with_reducible rfl); (try simp only [Act.put, List.setIfInBounds_toArray, List.set_cons_zero, List.set_cons_succ]))
      (refine q_take ?_ (by kernel_rfl) ?_ ?_; rotate_left; (· intro w' hS; go_simp; try with_reducible rfl); (try simp only [Act.put, List.setIfInBounds_toArray, List.set_cons_zero, List.set_cons_succ]))
      (refine q_take ?_ (by kernel_rfl) ?_ ?_; rotate_left; (· intro w' hS; go_simp; try with_reducible rfl); (try simp only [Act.put, List.setIfInBounds_toArray, List.set_cons_zero, List.set_cons_succ]))
      as_aux_lemma =>
        (refine q_call ?_ ?_ (by kernel_rfl) ?_ ?_; rotate_left 2; (· intro w' hS; go_simp; first | with_reducible rfl | (constructor <;> with_reducible rfl)); (refine ⟨_, fun w' hw => (vO_any _ ho1 ho2 w').mono fun _ _ h => ⟨h.1, hw.trans' h.2⟩, ?_⟩); (try simp only [Act.put, List.setIfInBounds_toArray, List.set_cons_zero, List.set_cons_succ]))
        (refine q_take ?_ (by kernel_rfl) ?_ ?_; rotate_left; (· intro w' hS; go_simp; try with_reducible rfl); (try simp only [Act.put, List.setIfInBounds_toArray, List.set_cons_zero, List.set_cons_succ]))
        (refine q_take ?_ (by kernel_rfl) ?_ ?_; rotate_left; (· intro w' hS; go_simp; try with_reducible rfl); (try simp only [Act.put, List.setIfInBounds_toArray, List.set_cons_zero, List.set_cons_succ]))
        (refine q_take ?_ (by kernel_rfl) ?_ ?_; rotate_left; (· intro w' hS; go_simp; try with_reducible rfl); (try simp only [Act.put, List.setIfInBounds_toArray, List.set_cons_zero, List.set_cons_succ]))
        (refine q_take ?_ (by kernel_rfl) ?_ ?_; rotate_left; (· intro w' hS; go_simp; try with_reducible rfl); (try simp only [Act.put, List.setIfInBounds_toArray, List.set_cons_zero, List.set_cons_succ]))
        (refine q_take ?_ (by kernel_rfl) ?_ ?_; rotate_left; (· intro w' hS; go_simp; try with_reducible rfl); (try simp only [Act.put, List.setIfInBounds_toArray, List.set_cons_zero, List.set_cons_succ]))
        (refine q_take ?_ (by kernel_rfl) ?_ ?_; rotate_left; (· intro w' hS; go_simp; try with_reducible rfl); (try simp only [Act.put, List.setIfInBounds_toArray, List.set_cons_zero, List.set_cons_succ]))
        (refine q_call ?_ ?_ (by kernel_rfl) ?_ ?_; rotate_left 2; (· intro w' hS; go_simp; first | with_reducible rfl | (constructor <;> with_reducible rfl)); (refine ⟨_, fun w' hw => (vO_any _ ho1 ho2 w').mono fun _ _ h => ⟨h.1, hw.trans' h.2⟩, ?_⟩); (try simp only [Act.put, List.setIfInBounds_toArray, List.set_cons_zero, List.set_cons_succ]))
        (refine q_take ?_ (by kernel_rfl) ?_ ?_; rotate_left; (· intro w' hS; go_simp; try with_reducible rfl); (try simp only [Act.put, List.setIfInBounds_toArray, List.set_cons_zero, List.set_cons_succ]))
        (refine q_take ?_ (by kernel_rfl) ?_ ?_; rotate_left; (· intro w' hS; go_simp; try with_reducible rfl); (try simp only [Act.put, List.setIfInBounds_toArray, List.set_cons_zero, List.set_cons_succ]))
        (refine q_take ?_ (by kernel_rfl) ?_ ?_; rotate_left; (· intro w' hS; go_simp; try with_reducible rfl); (try simp only [Act.put, List.setIfInBounds_toArray, List.set_cons_zero, List.set_cons_succ]))
        (refine q_take ?_ (by kernel_rfl) ?_ ?_; rotate_left; (· intro w' hS; go_simp; try with_reducible rfl); (try simp only [Act.put, List.setIfInBounds_toArray, List.set_cons_zero, List.set_cons_succ]))
        (refine q_take ?_ (by kernel_rfl) ?_ ?_; rotate_left; (· intro w' hS; go_simp; try with_reducible rfl); (try simp only [Act.put, List.setIfInBounds_toArray, List.set_cons_zero, List.set_cons_succ]))
        (refine q_call ?_ ?_ (by kernel_rfl) ?_ ?_; rotate_left 2; (· intro w' hS; go_simp; first | with_reducible rfl | (constructor <;> with_reducible rfl)); (refine ⟨_, fun w' hw => (vS_any _ w').mono fun _ _ h => ⟨h.1, hw.trans' h.2⟩, ?_⟩); (try simp only [Act.put, List.setIfInBounds_toArray, List.set_cons_zero, List.set_cons_succ]))
        (refine q_take ?_ (by kernel_rfl) ?_ ?_; rotate_left; (· intro w' hS; go_simp; try with_reducible rfl); (try simp only [Act.put, List.setIfInBounds_toArray, List.set_cons_zero, List.set_cons_succ]))
        (refine q_take ?_ (by kernel_rfl) ?_ ?_; rotate_left; (· intro w' hS; go_simp; try with_reducible rfl); (try simp only [Act.put, List.setIfInBounds_toArray, List.set_cons_zero, List.set_cons_succ]))
        as_aux_lemma =>
          (refine q_take ?_ (by kernel_rfl) ?_ ?_; rotate_left; (· intro w' hS; go_simp; try with_reducible rfl); (try simp only [Act.put, List.setIfInBounds_toArray, List.set_cons_zero, List.set_cons_succ]))
          (refine q_take ?_ (by kernel_rfl) ?_ ?_; rotate_left; (· intro w' hS; go_simp; try with_reducible rfl); (try simp only [Act.put, List.setIfInBounds_toArray, List.set_cons_zero, List.set_cons_succ]))
          (refine q_take ?_ (by kernel_rfl) ?_ ?_; rotate_left; (· intro w' hS; go_simp; try with_reducible rfl); (try simp only [Act.put, List.setIfInBounds_toArray, List.set_cons_zero, List.set_cons_succ]))
          (refine q_take ?_ (by kernel_rfl) ?_ ?_; rotate_left; (· intro w' hS; go_simp; try with_reducible rfl); (try simp only [Act.put, List.setIfInBounds_toArray, List.set_cons_zero, List.set_cons_succ]))
          (refine q_call ?_ ?_ (by kernel_rfl) ?_ ?_; rotate_left 2; (· intro w' hS; go_simp; first | with_reducible rfl | (constructor <;> with_reducible rfl)); (refine ⟨_, fun w' hw => (vS_any _ w').mono fun _ _ h => ⟨h.1, hw.trans' h.2⟩, ?_⟩); (try simp only [Act.put, List.setIfInBounds_toArray, List.set_cons_zero, List.set_cons_succ]))
          (refine q_take ?_ (by kernel_rfl) ?_ ?_; rotate_left; (· intro w' hS; go_simp; try with_reducible rfl); (try simp only [Act.put, List.setIfInBounds_toArray, List.set_cons_zero, List.set_cons_succ]))
          (refine q_take ?_ (by kernel_rfl) ?_ ?_; rotate_left; (· intro w' hS; go_simp; try with_reducible rfl); (try simp only [Act.put, List.setIfInBounds_toArray, List.set_cons_zero, List.set_cons_succ]))
          (refine q_take ?_ (by kernel_rfl) ?_ ?_; rotate_left; (· intro w' hS; go_simp; try with_reducible rfl); (try simp only [Act.put, List.setIfInBounds_toArray, List.set_cons_zero, List.set_cons_succ]))
          (refine q_take ?_ (by kernel_rfl) ?_ ?_; rotate_left; (· intro w' hS; go_simp; try with_reducible rfl); (try simp only [Act.put, List.setIfInBounds_toArray, List.set_cons_zero, List.set_cons_succ]))
          (refine q_take ?_ (by kernel_rfl) ?_ ?_; rotate_left; (· intro w' hS; go_simp; try with_reducible rfl); (try simp only [Act.put, List.setIfInBounds_toArray, List.set_cons_zero, List.set_cons_succ]))
          (refine q_call ?_ ?_ (by kernel_rfl) ?_ ?_; rotate_left 2; (· intro w' hS; go_simp; first | with_reducible rfl | (constructor <;> with_reducible rfl)); (refine ⟨_, fun w' hw => (vE_any _ hc1 hc2 w').mono fun _ _ h => ⟨h.1, hw.trans' h.2⟩, ?_⟩); (try simp only [Act.put, List.setIfInBounds_toArray, List.set_cons_zero, List.set_cons_succ]))
          (refine q_take ?_ (by kernel_rfl) ?_ ?_; rotate_left; (· intro w' hS; go_simp; try with_reducible rfl); (try simp only [Act.put, List.setIfInBounds_toArray, List.set_cons_zero, List.set_cons_succ]))
          (refine q_take ?_ (by kernel_rfl) ?_ ?_; rotate_left; (· intro w' hS; go_simp; try with_reducible rfl); (try simp only [Act.put, List.setIfInBounds_toArray, List.set_cons_zero, List.set_cons_succ]))
          (refine q_take ?_ (by kernel_rfl) ?_ ?_; rotate_left; (· intro w' hS; go_simp; try with_reducible rfl); (try simp only [Act.put, List.setIfInBounds_toArray, List.set_cons_zero, List.set_cons_succ]))
          (refine q_take ?_ (by kernel_rfl) ?_ ?_; rotate_left; (· intro w' hS; go_simp; try with_reducible rfl); (try simp only [Act.put, List.setIfInBounds_toArray, List.set_cons_zero, List.set_cons_succ]))
          (refine q_take ?_ (by kernel_rfl) ?_ ?_; rotate_left; (· intro w' hS; go_simp; try with_reducible rfl); (try simp only [Act.put, List.setIfInBounds_toArray, List.set_cons_zero, List.set_cons_succ]))
          as_aux_lemma =>
            (refine q_take ?_ (by kernel_rfl) ?_ ?_; rotate_left; (· intro w' hS; go_simp; try with_reducible rfl); (try simp only [Act.put, List.setIfInBounds_toArray, List.set_cons_zero, List.set_cons_succ]))
            (refine q_call ?_ ?_ (by kernel_rfl) ?_ ?_; rotate_left 2; (· intro w' hS; go_simp; first | with_reducible rfl | (constructor <;> with_reducible rfl)); (refine ⟨_, fun w' hw => (vE_any _ hc1 hc2 w').mono fun _ _ h => ⟨h.1, hw.trans' h.2⟩, ?_⟩); (try simp only [Act.put, List.setIfInBounds_toArray, List.set_cons_zero, List.set_cons_succ]))
            (refine q_take ?_ (by kernel_rfl) ?_ ?_; rotate_left; (· intro w' hS; go_simp; try with_reducible rfl); (try simp only [Act.put, List.setIfInBounds_toArray, List.set_cons_zero, List.set_cons_succ]))
            (refine q_take ?_ (by kernel_rfl) ?_ ?_; rotate_left; (· intro w' hS; go_simp; try with_reducible rfl); (try simp only [Act.put, List.setIfInBounds_toArray, List.set_cons_zero, List.set_cons_succ]))
            (refine q_take ?_ (by kernel_rfl) ?_ ?_; rotate_left; (· intro w' hS; go_simp; try with_reducible rfl); (try simp only [Act.put, List.setIfInBounds_toArray, List.set_cons_zero, List.set_cons_succ]))
            (refine q_take ?_ (by kernel_rfl) ?_ ?_; rotate_left; (· intro w' hS; go_simp; try with_reducible rfl); (try simp only [Act.put, List.setIfInBounds_toArray, List.set_cons_zero, List.set_cons_succ]))
            (refine q_take ?_ (by kernel_rfl) ?_ ?_; rotate_left; (· intro w' hS; go_simp; try with_reducible rfl); (try simp only [Act.put, List.setIfInBounds_toArray, List.set_cons_zero, List.set_cons_succ]))
            (refine q_take ?_ (by kernel_rfl) ?_ ?_; rotate_left; (· intro w' hS; have d0 := hS.cell hd0r not_false; go_simp; try with_reducible rfl); (try simp only [Act.put, List.setIfInBounds_toArray, List.set_cons_zero, List.set_cons_succ]))
            (refine q_take ?_ (by kernel_rfl) ?_ ?_; rotate_left; (· intro w' hS; go_simp; try with_reducible rfl); (try simp only [Act.put, List.setIfInBounds_toArray, List.set_cons_zero, List.set_cons_succ]))
            (refine q_take ?_ (by kernel_rfl) ?_ ?_; rotate_left; (· intro w' hS; go_simp; try with_reducible rfl); (try simp only [Act.put, List.setIfInBounds_toArray, List.set_cons_zero, List.set_cons_succ]))
            (refine q_take ?_ (by kernel_rfl) ?_ ?_; rotate_left; (· intro w' hS; go_simp; try with_reducible rfl); (try simp only [Act.put, List.setIfInBounds_toArray, List.set_cons_zero, List.set_cons_succ]))
            (refine q_take ?_ (by kernel_rfl) ?_ ?_; rotate_left; (· intro w' hS; go_simp; try with_reducible rfl); (try simp only [Act.put, List.setIfInBounds_toArray, List.set_cons_zero, List.set_cons_succ]))
            (refine q_call ?_ ?_ (by kernel_rfl) ?_ ?_; rotate_left 2; (· intro w' hS; go_simp; first | with_reducible rfl | (constructor <;> with_reducible rfl)); (refine ⟨_, fun w' hw => (vI_any _ w').mono fun _ _ h => ⟨h.1, hw.trans' h.2⟩, ?_⟩); (try simp only [Act.put, List.setIfInBounds_toArray, List.set_cons_zero, List.set_cons_succ]))
            (refine q_call ?_ ?_ (by kernel_rfl) ?_ ?_; rotate_left 2; (· intro w' hS; go_simp; first | with_reducible rfl | (constructor <;> with_reducible rfl)); (refine ⟨_, fun w' hw => (HVI.out w' hw).mono fun _ _ h => ⟨h.1, hw.trans' h.2⟩, ?_⟩); (try simp only [Act.put, List.setIfInBounds_toArray, List.set_cons_zero, List.set_cons_succ]))
            (refine q_take ?_ (by kernel_rfl) ?_ ?_; rotate_left; (· intro w' hS; go_simp; try with_reducible rfl); (try simp only [Act.put, List.setIfInBounds_toArray, List.set_cons_zero, List.set_cons_succ]))
            (refine q_take ?_ (by kernel_rfl) ?_ ?_; rotate_left; (· intro w' hS; go_simp; try with_reducible rfl); (try simp only [Act.put, List.setIfInBounds_toArray, List.set_cons_zero, List.set_cons_succ]))
            as_aux_lemma =>
              (refine q_take ?_ (by kernel_rfl) ?_ ?_; rotate_left; (· intro w' hS; go_simp; try with_reducible rfl); (try simp only [Act.put, List.setIfInBounds_toArray, List.set_cons_zero, List.set_cons_succ]))
              (refine q_take ?_ (by kernel_rfl) ?_ ?_; rotate_left; (· intro w' hS; go_simp; try with_reducible rfl); (try simp only [Act.put, List.setIfInBounds_toArray, List.set_cons_zero, List.set_cons_succ]))
              (refine q_call ?_ ?_ (by kernel_rfl) ?_ ?_; rotate_left 2; (· intro w' hS; go_simp; first | with_reducible rfl | (constructor <;> with_reducible rfl)); (refine ⟨_, fun w' hw => (vE_any _ hc1 hc2 w').mono fun _ _ h => ⟨h.1, hw.trans' h.2⟩, ?_⟩); (try simp only [Act.put, List.setIfInBounds_toArray, List.set_cons_zero, List.set_cons_succ]))
              (refine q_call ?_ ?_ (by kernel_rfl) ?_ ?_; rotate_left 2; (· intro w' hS; go_simp; first | with_reducible rfl | (constructor <;> with_reducible rfl)); (refine ⟨_, fun w' hw => (HVE.out w' hw).mono fun _ _ h => ⟨h.1, hw.trans' h.2⟩, ?_⟩); (try simp only [Act.put, List.setIfInBounds_toArray, List.set_cons_zero, List.set_cons_succ]))
              (refine q_take (.bool (decide (0 ≤ code) && decide (code ≤ 14))) (by kernel_rfl) ?_ ?_; (· intro w' hS; clear hS; generalize (decide (0 ≤ code) && decide (code ≤ 14)) = cx; cases cx <;> go_simp <;> try rfl); (try simp only [Act.put, List.setIfInBounds_toArray, List.set_cons_zero, List.set_cons_succ]))
              (refine q_take ?_ (by kernel_rfl) ?_ ?_; rotate_left; (· intro w' hS; go_simp; try with_reducible rfl); (try simp only [Act.put, List.setIfInBounds_toArray, List.set_cons_zero, List.set_cons_succ]))
              (refine q_take ?_ (by kernel_rfl) ?_ ?_; rotate_left; (· intro w' hS; go_simp; try with_reducible rfl); (try simp only [Act.put, List.setIfInBounds_toArray, List.set_cons_zero, List.set_cons_succ]))
              generalize decide (0 ≤ code) = g0
              (refine q_take ?_ (by kernel_rfl) ?_ ?_; rotate_left; (· intro w' hS; go_simp; try with_reducible rfl); (try simp only [Act.put, List.setIfInBounds_toArray, List.set_cons_zero, List.set_cons_succ]))
              (refine q_sym g0 (.int .i64 code) (by cases g0 <;> rfl) ?_ ?_; (· intro hc w' hS; clear hS; revert hc; cases g0 <;> intro hc <;> first | (cases hc; done) | (go_simp; try rfl)); (try simp only [Act.put, List.setIfInBounds_toArray, List.set_cons_zero, List.set_cons_succ]))
              (refine q_sym g0 (.bool (decide (code ≤ 14))) (by cases g0 <;> rfl) ?_ ?_; (· intro hc w' hS; clear hS; revert hc; cases g0 <;> intro hc <;> first | (cases hc; done) | (go_simp; try rfl)); (try simp only [Act.put, List.setIfInBounds_toArray, List.set_cons_zero, List.set_cons_succ]))
              generalize decide (code ≤ 14) = g1
              (refine q_take (.bool (g0 && g1)) (by rfl) ?_ ?_; (· intro w' hS; clear hS; cases g0 <;> cases g1 <;> (go_simp; try rfl)); (try simp only [Act.put, List.setIfInBounds_toArray, List.set_cons_zero, List.set_cons_succ]))
              (refine q_take (.bool true) (by rfl) ?_ ?_; (· intro w' hS; clear hS; cases g0 <;> cases g1 <;> (go_simp; try rfl)); (try simp only [Act.put, List.setIfInBounds_toArray, List.set_cons_zero, List.set_cons_succ]))
              (refine q_take ?_ (by kernel_rfl) ?_ ?_; rotate_left; (· intro w' hS; go_simp; try with_reducible rfl); (try simp only [Act.put, List.setIfInBounds_toArray, List.set_cons_zero, List.set_cons_succ]))
              (refine q_take ?_ (by kernel_rfl) ?_ ?_; rotate_left; (· intro w' hS; go_simp; try with_reducible rfl); (try simp only [Act.put, List.setIfInBounds_toArray, List.set_cons_zero, List.set_cons_succ]))
              as_aux_lemma =>
                (refine q_take ?_ (by kernel_rfl) ?_ ?_; rotate_left; (· intro w' hS; go_simp; try with_reducible rfl); (try simp only [Act.put, List.setIfInBounds_toArray, List.set_cons_zero, List.set_cons_succ]))
                (refine q_call ?_ ?_ (by kernel_rfl) ?_ ?_; rotate_left 2; (· intro w' hS; go_simp; first | with_reducible rfl | (constructor <;> with_reducible rfl)); (refine ⟨_, fun w' hw => (vO_any _ ho1 ho2 w').mono fun _ _ h => ⟨h.1, hw.trans' h.2⟩, ?_⟩); (try simp only [Act.put, List.setIfInBounds_toArray, List.set_cons_zero, List.set_cons_succ]))
                (refine q_call ?_ ?_ (by kernel_rfl) ?_ ?_; rotate_left 2; (· intro w' hS; go_simp; first | with_reducible rfl | (constructor <;> with_reducible rfl)); (refine ⟨_, fun w' hw => (HVO.out w' hw).mono fun _ _ h => ⟨h.1, hw.trans' h.2⟩, ?_⟩); (try simp only [Act.put, List.setIfInBounds_toArray, List.set_cons_zero, List.set_cons_succ]))
                (refine q_take (.bool (decide (-2147483648 ≤ o) && decide (o ≤ 2147483647))) (by kernel_rfl) ?_ ?_; (· intro w' hS; clear hS; generalize (decide (-2147483648 ≤ o) && decide (o ≤ 2147483647)) = cx; cases cx <;> go_simp <;> try rfl); (try simp only [Act.put, List.setIfInBounds_toArray, List.set_cons_zero, List.set_cons_succ]))
                (refine q_take ?_ (by kernel_rfl) ?_ ?_; rotate_left; (· intro w' hS; go_simp; try with_reducible rfl); (try simp only [Act.put, List.setIfInBounds_toArray, List.set_cons_zero, List.set_cons_succ]))
                (refine q_take ?_ (by kernel_rfl) ?_ ?_; rotate_left; (· intro w' hS; go_simp; try with_reducible rfl); (try simp only [Act.put, List.setIfInBounds_toArray, List.set_cons_zero, List.set_cons_succ]))
                generalize decide (-2147483648 ≤ o) = g2
                (refine q_take ?_ (by kernel_rfl) ?_ ?_; rotate_left; (· intro w' hS; go_simp; try with_reducible rfl); (try simp only [Act.put, List.setIfInBounds_toArray, List.set_cons_zero, List.set_cons_succ]))
                (refine q_sym g2 (.int .i64 o) (by cases g2 <;> rfl) ?_ ?_; (· intro hc w' hS; clear hS; revert hc; cases g2 <;> intro hc <;> first | (cases hc; done) | (go_simp; try rfl)); (try simp only [Act.put, List.setIfInBounds_toArray, List.set_cons_zero, List.set_cons_succ]))
                (refine q_sym g2 (.bool (decide (o ≤ 2147483647))) (by cases g2 <;> rfl) ?_ ?_; (· intro hc w' hS; clear hS; revert hc; cases g2 <;> intro hc <;> first | (cases hc; done) | (go_simp; try rfl)); (try simp only [Act.put, List.setIfInBounds_toArray, List.set_cons_zero, List.set_cons_succ]))
                generalize decide (o ≤ 2147483647) = g3
                (refine q_take (.bool (g2 && g3)) (by rfl) ?_ ?_; (· intro w' hS; clear hS; cases g2 <;> cases g3 <;> (go_simp; try rfl)); (try simp only [Act.put, List.setIfInBounds_toArray, List.set_cons_zero, List.set_cons_succ]))
                (refine q_take (.bool true) (by rfl) ?_ ?_; (· intro w' hS; clear hS; cases g2 <;> cases g3 <;> (go_simp; try rfl)); (try simp only [Act.put, List.setIfInBounds_toArray, List.set_cons_zero, List.set_cons_succ]))
                (refine q_take ?_ (by kernel_rfl) ?_ ?_; rotate_left; (· intro w' hS; go_simp; try with_reducible rfl); (try simp only [Act.put, List.setIfInBounds_toArray, List.set_cons_zero, List.set_cons_succ]))
                (refine q_take ?_ (by kernel_rfl) ?_ ?_; rotate_left; (· intro w' hS; go_simp; try with_reducible rfl); (try simp only [Act.put, List.setIfInBounds_toArray, List.set_cons_zero, List.set_cons_succ]))
                (refine q_take ?_ (by kernel_rfl) ?_ ?_; rotate_left; (· intro w' hS; go_simp; try with_reducible rfl); (try simp only [Act.put, List.setIfInBounds_toArray, List.set_cons_zero, List.set_cons_succ]))
                as_aux_lemma =>
                  (refine q_call ?_ ?_ (by kernel_rfl) ?_ ?_; rotate_left 2; (· intro w' hS; go_simp; first | with_reducible rfl | (constructor <;> with_reducible rfl)); (refine ⟨_, fun w' hw => (vS_any _ w').mono fun _ _ h => ⟨h.1, hw.trans' h.2⟩, ?_⟩); (try simp only [Act.put, List.setIfInBounds_toArray, List.set_cons_zero, List.set_cons_succ]))
                  (refine q_call ?_ ?_ (by kernel_rfl) ?_ ?_; rotate_left 2; (· intro w' hS; go_simp; first | with_reducible rfl | (constructor <;> with_reducible rfl)); (refine ⟨_, fun w' hw => (HVS.out w' hw).mono fun _ _ h => ⟨h.1, hw.trans' h.2⟩, ?_⟩); (try simp only [Act.put, List.setIfInBounds_toArray, List.set_cons_zero, List.set_cons_succ]))
                  (refine q_take (.bool (printed s)) (by kernel_rfl) ?_ ?_; (· intro w' hS; clear hS; generalize (printed s) = cx; cases cx <;> go_simp <;> try rfl); (try simp only [Act.put, List.setIfInBounds_toArray, List.set_cons_zero, List.set_cons_succ]))
                  (refine q_take ?_ (by kernel_rfl) ?_ ?_; rotate_left; (· intro w' hS; go_simp; try with_reducible rfl); (try simp only [Act.put, List.setIfInBounds_toArray, List.set_cons_zero, List.set_cons_succ]))
                  (refine q_call ?_ ?_ (by kernel_rfl) ?_ ?_; rotate_left 2; (· intro w' hS; go_simp; first | with_reducible rfl | (constructor <;> with_reducible rfl)); (refine ⟨_, fun w' hw => (printed_any s (by have := HSM.out; omega) w').mono fun _ _ h => ⟨h.1, h.2 ▸ hw⟩, ?_⟩); (try simp only [Act.put, List.setIfInBounds_toArray, List.set_cons_zero, List.set_cons_succ]))
                  generalize printed s = g4
                  (refine q_take (.bool true) (by rfl) ?_ ?_; (· intro w' hS; clear hS; cases g4 <;> (go_simp; try rfl)); (try simp only [Act.put, List.setIfInBounds_toArray, List.set_cons_zero, List.set_cons_succ]))
                  (refine q_take ?_ (by kernel_rfl) ?_ ?_; rotate_left; (· intro w' hS; go_simp; try with_reducible rfl); (try simp only [Act.put, List.setIfInBounds_toArray, List.set_cons_zero, List.set_cons_succ]))
                  (refine q_take ?_ (by kernel_rfl) ?_ ?_; rotate_left; (· intro w' hS; go_simp; try with_reducible rfl); (try simp only [Act.put, List.setIfInBounds_toArray, List.set_cons_zero, List.set_cons_succ]))
                  refine q_end (fun W6 hw => ?_)
                  have HW6 := hid ((HF6.out.trans' HFr.out).trans' hw)
                  clear hw
                  go_wp2
                  go_ret
                  exact ⟨rfl, HW6.out⟩
end Go.Proofs.YteadegaclnibhaaDoor
