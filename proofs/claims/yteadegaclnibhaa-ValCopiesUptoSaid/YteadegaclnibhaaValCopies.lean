/- ValCopies: true, whatever comes in (of at most 2^20 in all). -/
import Derived.Test.YteadegaclnibhaaValFirst
import Derived.Test.YteadegaclnibhaaRefRight
import Derived.Test.YteadegaclnibhaaRefL
import Derived.Test.YteadegaclnibhaaRefFits
import Derived.Test.YteadegaclnibhaaRefSame
import Derived.Test.YteadegaclnibhaaValSame
import Derived.Test.YteadegaclnibhaaNumber
import Derived.Deep.CutRange
namespace Go.Proofs.Yteadegaclnibhaa
open Go.RowKit

theorem own_of_row {w : World} {g base e n cap : Nat} {cur : Array Value} (h : w.heap[g]? = some (.cells cur e)) (hb : base ≤ g) (hn : n ≤ cap) (hc : cap ≤ maxLen) (hs : cur.size = cap * 4) :
    w.ownsRow base e 4 (.slice (some ⟨g, 0, none⟩) n cap) n (cur.toList.take (n * 4)) :=
  ⟨by simp; omega, .inr ⟨g, cap, cur, rfl, hb, h, hn, hc, hs, rfl⟩⟩

set_option maxHeartbeats 3200000 in
theorem valCopies_any (l : List V) (n : Int) (hM : sizeL l ≤ 1048576) (hn1 : -9223372036854775808 ≤ n) (hn2 : n ≤ 9223372036854775807) (D : Nat → Prop) (w : World) (v : Value) (h : VL D w l v) :
    Calls Try.prog 3 #[v, .int .i64 n] w fun e w' => e = .returned (.bool true) ∧ Fr (fun _ => False) w w' := by
  have hM' : sizeL l ≤ 1099511627776 := by omega
  obtain ⟨a, cap, us, rfl, hc, hm, -⟩ := id h
  have hlm : l.length ≤ 9223372036854775807 := Nat.le_trans hc hm
  have HV := hid h; have HM := hid hM'; have HLL := hid (Nat.le_trans (len_le_sizeL l) hM)
  have HX := hid (show (V.mk 4 0 ⟨#[]⟩ l).size ≤ 1099511627776 by simp [V.size, ByteArray.size]; omega)
  clear h hM hM'
  go_enter Try.func3, Try.ntmps3
  go_wp2_with fail
  refine (first_any _).mono ?_
  rintro e w1 ⟨rfl, hf1⟩
  have HF1 := hid hf1; have HV1 := hid (HV.out.frame hf1 fun _ _ => id)
  clear hf1
  go_wp2_with fail
  refine (rights_any 20 l HM.out D w1 _ HV1.out).mono ?_
  rintro e w2 ⟨rfl, hf2⟩
  have HF2 := hid (HF1.out.trans' hf2); have HV2 := hid (HV1.out.frame hf2 fun _ _ => id)
  clear hf2 HF1 HV1
  cases hr : (decide (l.length ≤ 20) && l.all V.right)
  case false =>
    go_wp2
    go_ret
    exact ⟨rfl, HF2.out⟩
  clear hr
  by_cases h0 : l.length = 0
  · have q0 : ((l.length : Int) == 0) = true := by simp [h0]
    go_wp2
    go_ret
    exact ⟨rfl, HF2.out⟩
  have q0 : ((l.length : Int) == 0) = false := by simp; intro e; subst e; simp at h0
  go_wp2_with fail
  refine (rL_any l HM.out D w2 _ HV2.out).mono ?_
  rintro e w3 ⟨u3, rfl, hf3, hv3⟩
  have hfit := rfits_any _ HX.out _ _ _ hv3
  have HF3 := hid (HF2.out.trans' hf3); have HV3 := hid (HV2.out.frame hf3 fun _ _ => id); have HT := hid hfit
  clear hf3 hv3 hfit HF2 HV2
  go_wp2_with fail
  refine HT.out.mono ?_
  rintro e w4 ⟨nf, rfl, hf4⟩
  have HF4 := hid (HF3.out.trans' hf4); have HV4 := hid (HV3.out.frame hf4 fun _ _ => id)
  clear hf4 HF3 HV3 HT
  by_cases hnf : nf = 0
  case neg =>
    have q1 : (nf == 0) = false := by simpa using hnf
    go_wp2
    go_ret
    exact ⟨rfl, HF4.out⟩
  subst hnf
  have hx : (V.mk 4 0 ⟨#[]⟩ l).size ≤ 1099511627776 := HX.out
  go_wp2_with fail
  refine (vL_any l HM.out D w4 _ HV4.out).mono ?_
  rintro e w5 ⟨u5, rfl, hf5, hv5, -⟩
  obtain ⟨v5, rfl, a5, c5, us5, rfl, -⟩ := hv5.open
  simp only [V.k, V.n, V.s, V.l] at hv5 ⊢
  have hsz5 : (w5.alloc (.cells #[.int .i64 4, .int .i64 0, .string ⟨#[]⟩, .slice a5 l.length c5] 27)).heap.size = w5.heap.size + 1 := by simp
  have hb6 : (w5.alloc (.cells #[.int .i64 4, .int .i64 0, .string ⟨#[]⟩, .slice a5 l.length c5] 27)).heap[w5.heap.size]? = some (.cells #[.int .i64 4, .int .i64 0, .string ⟨#[]⟩, .slice a5 l.length c5] 27) := heap_alloc_new w5 _
  have HWW := hid (HF4.out.trans' hf5).size
  have hF5 := (HF4.out.trans' hf5).alloc (.cells #[.int .i64 4, .int .i64 0, .string ⟨#[]⟩, .slice a5 l.length c5] 27)
  have hV5 := (hv5.mono (E := fun b => b < w5.heap.size) fun k hk _ => hk).frame ((Fr.refl (fun _ => False) w5).alloc (.cells #[.int .i64 4, .int .i64 0, .string ⟨#[]⟩, .slice a5 l.length c5] 27)) fun _ _ => id
  clear hf5 hv5 HF4 HV4
  go_wp2_with fail
  generalize w5.alloc (.cells #[.int .i64 4, .int .i64 0, .string ⟨#[]⟩, .slice a5 l.length c5] 27) = W5 at *
  have hcl := vclone_any _ _ (Nat.le_refl _) hx _ _ _ hV5
  have HB6 := hid hb6; have HF5 := hid hF5; have HV5 := hid hV5; have HS5 := hid hsz5
  clear hb6 hF5 hV5 hsz5
  refine hcl.mono ?_
  clear hcl
  rintro e w6 ⟨u6, rfl, hf6, hv6, xs6, ho6⟩
  obtain ⟨v6, rfl, a6, c6, us6, rfl, -⟩ := hv6.open
  simp only [V.k, V.n, V.s, V.l] at hv6 ho6 ⊢
  have ho6 : w6.ownsRow W5.heap.size 27 4 (.slice a6 l.length c6) l.length xs6 := ho6
  rcases id ho6.2 with ⟨_, he⟩ | ⟨g6, c6', cur6, he, hg6, hrow6, hcap6, hmx6, hcs6, -⟩
  · exact absurd he h0
  simp only [Value.slice.injEq, true_and] at he
  obtain ⟨rfl, rfl⟩ := he
  have hg6' : g6 < w6.heap.size := (Array.getElem?_eq_some_iff.1 hrow6).1
  have hsz6 : (w6.alloc (.cells #[.int .i64 4, .int .i64 0, .string ⟨#[]⟩, .slice (some ⟨g6, 0, none⟩) l.length c6] 27)).heap.size = w6.heap.size + 1 := by simp
  have hb7 : (w6.alloc (.cells #[.int .i64 4, .int .i64 0, .string ⟨#[]⟩, .slice (some ⟨g6, 0, none⟩) l.length c6] 27)).heap[w6.heap.size]? = some (.cells #[.int .i64 4, .int .i64 0, .string ⟨#[]⟩, .slice (some ⟨g6, 0, none⟩) l.length c6] 27) := heap_alloc_new w6 _
  have hA6 : Fr (fun _ => False) w6 (w6.alloc (.cells #[.int .i64 4, .int .i64 0, .string ⟨#[]⟩, .slice (some ⟨g6, 0, none⟩) l.length c6] 27)) := (Fr.refl (fun _ => False) w6).alloc _
  have hB6 := hA6.heap (hf6.heap HB6.out not_false) not_false
  have hB6' := hf6.heap HB6.out not_false
  have hV6 := (HV5.out.frame hf6 fun _ _ => id).frame hA6 fun _ _ => id
  have hR6 := hA6.heap hrow6 not_false
  have hF6 := (HF5.out.trans' hf6).trans' hA6
  have hle6 := hf6.size
  have v0 : (w6.alloc (.cells #[.int .i64 4, .int .i64 0, .string ⟨#[]⟩, .slice (some ⟨g6, 0, none⟩) l.length c6] 27)).cell? ⟨w5.heap.size, 0, none⟩ = some (.int .i64 4) := by rw [cell_of_row _ _ 0 _ _ _ hB6]; rfl
  have v1 : (w6.alloc (.cells #[.int .i64 4, .int .i64 0, .string ⟨#[]⟩, .slice (some ⟨g6, 0, none⟩) l.length c6] 27)).cell? ⟨w5.heap.size, 1, none⟩ = some (.int .i64 0) := by rw [cell_of_row _ _ 1 _ _ _ hB6]; rfl
  have v2 : (w6.alloc (.cells #[.int .i64 4, .int .i64 0, .string ⟨#[]⟩, .slice (some ⟨g6, 0, none⟩) l.length c6] 27)).cell? ⟨w5.heap.size, 2, none⟩ = some (.string ⟨#[]⟩) := by rw [cell_of_row _ _ 2 _ _ _ hB6]; rfl
  have v3 : (w6.alloc (.cells #[.int .i64 4, .int .i64 0, .string ⟨#[]⟩, .slice (some ⟨g6, 0, none⟩) l.length c6] 27)).cell? ⟨w5.heap.size, 3, none⟩ = some (.slice a5 l.length c5) := by rw [cell_of_row _ _ 3 _ _ _ hB6]; rfl
  clear hf6 hv6 ho6 hrow6 hA6 hB6' HB6 HF5 HV5
  go_wp2_with fail
  clear v0 v1 v2 v3
  generalize w6.alloc (.cells #[.int .i64 4, .int .i64 0, .string ⟨#[]⟩, .slice (some ⟨g6, 0, none⟩) l.length c6] 27) = W6 at *
  have hrv := rvalue_any _ _ (Nat.le_refl _) hx _ _ _ hV6
  have HB6 := hid hB6; have HF6 := hid hF6; have HV6 := hid hV6; have HR6 := hid hR6; have HB7 := hid hb7
  clear hB6 hF6 hV6 hR6 hb7
  refine hrv.mono ?_
  clear hrv
  rintro e w7 ⟨u7, rfl, hf7, hv7⟩
  obtain ⟨v7, rfl, a7, c7, us7, rfl, -⟩ := hv7.open
  simp only [V.k, V.n, V.s, V.l] at hv7 ⊢
  have hsz7 : (w7.alloc (.cells #[.int .i64 4, .int .i64 0, .string ⟨#[]⟩, .slice a7 l.length c7] 27)).heap.size = w7.heap.size + 1 := by simp
  have hb8 : (w7.alloc (.cells #[.int .i64 4, .int .i64 0, .string ⟨#[]⟩, .slice a7 l.length c7] 27)).heap[w7.heap.size]? = some (.cells #[.int .i64 4, .int .i64 0, .string ⟨#[]⟩, .slice a7 l.length c7] 27) := heap_alloc_new w7 _
  have hA7 : Fr (fun _ => False) w7 (w7.alloc (.cells #[.int .i64 4, .int .i64 0, .string ⟨#[]⟩, .slice a7 l.length c7] 27)) := (Fr.refl (fun _ => False) w7).alloc _
  have hG7 := hf7.trans' hA7
  have hB6 := hG7.heap HB6.out not_false
  have hB7 := hG7.heap HB7.out not_false
  have hR6 := hG7.heap HR6.out not_false
  have hV6 := HV6.out.frame hG7 fun _ _ => id
  have hU7 := (hv7.mono (E := fun b => W6.heap.size ≤ b ∧ b < w7.heap.size) fun k hk hd => ⟨hd.1, hk⟩).frame hA7 fun _ _ => id
  have hF7 := HF6.out.trans' hG7
  have hle7 := hf7.size
  clear hf7 hv7 hA7 hG7 HB6 HF6 HV6 HR6 HB7
  go_wp2_with fail
  generalize w7.alloc (.cells #[.int .i64 4, .int .i64 0, .string ⟨#[]⟩, .slice a7 l.length c7] 27) = W7 at *
  have hk0 := Int.emod_nonneg n (show (l.length : Int) ≠ 0 by omega)
  have hk1 := Int.emod_lt_of_pos n (show (0 : Int) < l.length by omega)
  refine (number_any n l.length W7 (by omega) (by have := HM.out; have := HLL.out; omega) hn1 hn2).mono ?_
  rintro e w8 ⟨rfl, rfl⟩
  obtain ⟨k, hk⟩ : ∃ k : Nat, n % l.length = k := ⟨(n % l.length).toNat, by omega⟩
  rw [hk] at hk0 hk1 ⊢
  have hkl : k < l.length := by omega
  clear hk0 hk1 hk
  have d3 : W7.cell? ⟨w6.heap.size, 3, none⟩ = some (.slice (some ⟨g6, 0, none⟩) l.length c6) := by rw [cell_of_row _ _ 3 _ _ _ hB7]; rfl
  have HB6 := hid hB6; have HB7 := hid hB7; have HB8 := hid hb8; have HR6 := hid hR6; have HV6 := hid hV6; have HU7 := hid hU7; have HF7 := hid hF7
  clear hB6 hB7 hb8 hR6 hV6 hU7 hF7
  go_upto_region 10 with fail
  refine wp_region_ord [(0, 0), (1, 0), (2, 0), (3, 1), (4, 1), (5, 1)] (fun w' => w'.cell? ⟨w6.heap.size, 3, none⟩ = some (.slice (some ⟨g6, 0, none⟩) l.length c6)) (by kernel_rfl) (by kernel_rfl) (by kernel_rfl) rfl (fun _ _ d _ _ h => by cases d <;> exact h) d3 ?_
  iterate 3 (refine wpO_take ?_ rfl (by kernel_rfl) ?_ ?_; rotate_left; (· intro w' hS; go_simp; try with_reducible rfl); try simp only [Act.put, List.setIfInBounds_toArray, List.set_cons_zero, List.set_cons_succ])
  refine wpO_run rfl (by kernel_rfl) (fun K hK => ?_); go_simp
  refine (vS_any _ _).mono ?_
  rintro e w9 ⟨rfl, hf9⟩
  have d3 : w9.cell? ⟨w6.heap.size, 3, none⟩ = some (.slice (some ⟨g6, 0, none⟩) l.length c6) := hf9.cell d3 not_false
  have hR9 : w9.heap[g6]? = some (.cells cur6 27) := hf9.heap HR6.out not_false
  have hB7 := hf9.heap (k := w6.heap.size) HB7.out not_false
  have HF9 := hid hf9
  clear hf9
  have hsc : k * 4 + 3 < cur6.size := by omega
  have x0 : w9.cell? ⟨g6, k * 4, none⟩ = some cur6[k * 4] := by rw [cell_of_row _ _ _ _ _ _ hR9, Array.getElem?_eq_getElem (by omega)]
  have x1 : w9.cell? ⟨g6, k * 4 + 1, none⟩ = some cur6[k * 4 + 1] := by rw [cell_of_row _ _ _ _ _ _ hR9, Array.getElem?_eq_getElem (by omega)]
  have x2 : w9.cell? ⟨g6, k * 4 + 2, none⟩ = some cur6[k * 4 + 2] := by rw [cell_of_row _ _ _ _ _ _ hR9, Array.getElem?_eq_getElem (by omega)]
  have x3 : w9.cell? ⟨g6, k * 4 + 3, none⟩ = some cur6[k * 4 + 3] := by rw [cell_of_row _ _ _ _ _ _ hR9, Array.getElem?_eq_getElem (by omega)]
  have f9 : ∀ i, w9.frozen? ⟨g6, i, none⟩ = false := fun i => frozen_of_row _ _ i _ _ hR9
  have HR9 := hid hR9; have HB7' := hid hB7
  clear hR9 hB7
  refine hK _ _ (fun _ => d3) ?_
  clear hK K
  try simp only [Act.put, List.setIfInBounds_toArray, List.set_cons_zero, List.set_cons_succ]
  (refine wpO_run rfl (by kernel_rfl) (fun K hK => ?_); go_simp; refine hK _ _ (fun _ => d3) ?_; clear hK K; try simp only [Act.put, List.setIfInBounds_toArray, List.set_cons_zero, List.set_cons_succ])
  refine wpO_run rfl (by kernel_rfl) (fun K hK => ?_)
  go_simp
  refine hK _ _ (last_skip (by kernel_rfl)) ?_
  clear hK K
  try simp only [Act.put, List.setIfInBounds_toArray, List.set_cons_zero, List.set_cons_succ]
  refine wpO_end ?_
  have hF10 : Fr (fun q => q = g6) w9 ((((w9.setCell ⟨g6, k * 4, none⟩ (.int .i64 2)).setCell ⟨g6, k * 4 + 1, none⟩ (.int .i64 0)).setCell ⟨g6, k * 4 + 2, none⟩ (.string ⟨#[111, 116, 104, 101, 114]⟩)).setCell ⟨g6, k * 4 + 3, none⟩ (.slice none 0 0)) :=
    ((((Fr.refl (fun q => q = g6) w9).setCell (p := ⟨g6, k * 4, none⟩) (.inl rfl) _).setCell (p := ⟨g6, k * 4 + 1, none⟩) (.inl rfl) _).setCell (p := ⟨g6, k * 4 + 2, none⟩) (.inl rfl) _).setCell (p := ⟨g6, k * 4 + 3, none⟩) (.inl rfl) _
  have hR10 := setCell_row (k * 4 + 3) (.slice none 0 0) (setCell_row (k * 4 + 2) (.string ⟨#[111, 116, 104, 101, 114]⟩) (setCell_row (k * 4 + 1) (.int .i64 0) (setCell_row (k * 4) (.int .i64 2) HR9.out)))
  have hO10 := own_of_row hR10 hg6 hcap6 hmx6 (by simpa using hcs6)
  clear hR10 x0 x1 x2 x3 f9
  go_upto_region 11 with fail
  generalize ((((w9.setCell ⟨g6, k * 4, none⟩ (.int .i64 2)).setCell ⟨g6, k * 4 + 1, none⟩ (.int .i64 0)).setCell ⟨g6, k * 4 + 2, none⟩ (.string ⟨#[111, 116, 104, 101, 114]⟩)).setCell ⟨g6, k * 4 + 3, none⟩ (.slice none 0 0)) = W10 at *
  have d3' : W10.cell? ⟨w6.heap.size, 3, none⟩ = some (.slice (some ⟨g6, 0, none⟩) l.length c6) := hF10.cell d3 (fun e => by have e : w6.heap.size = g6 := e; omega)
  have hB7 := hF10.heap (k := w6.heap.size) HB7'.out (by omega)
  have HF10 := hid hF10; have HO10 := hid hO10; have HB7 := hid hB7
  clear d3 hF10 hO10 hB7 HB7'
  refine wp_region_ord [(0, 0), (1, 0), (2, 1), (3, 1), (4, 1), (5, 1), (6, 1)] (fun w' => w'.cell? ⟨w6.heap.size, 3, none⟩ = some (.slice (some ⟨g6, 0, none⟩) l.length c6)) (by kernel_rfl) (by kernel_rfl) (by kernel_rfl) rfl (fun _ _ d _ _ h => by cases d <;> exact h) d3' ?_
  iterate 2 (refine wpO_take ?_ rfl (by kernel_rfl) ?_ ?_; rotate_left; (· intro w' hS; go_simp; try with_reducible rfl); try simp only [Act.put, List.setIfInBounds_toArray, List.set_cons_zero, List.set_cons_succ])
  refine wpO_run rfl (by kernel_rfl) (fun K hK => ?_); go_simp
  refine (vI_any _ _).mono ?_
  rintro e w11 ⟨rfl, hf11⟩
  have d3 : w11.cell? ⟨w6.heap.size, 3, none⟩ = some (.slice (some ⟨g6, 0, none⟩) l.length c6) := hf11.cell d3' not_false
  have d3a : ∀ o : Obj, (w11.alloc o).cell? ⟨w6.heap.size, 3, none⟩ = some (.slice (some ⟨g6, 0, none⟩) l.length c6) := fun o => ((Fr.refl (fun _ => False) w11).alloc o).cell d3 not_false
  have HF11 := hid hf11
  clear hf11 d3'
  refine hK _ _ (fun _ => d3) ?_
  clear hK K
  try simp only [Act.put, List.setIfInBounds_toArray, List.set_cons_zero, List.set_cons_succ]
  (refine wpO_run rfl (by kernel_rfl) (fun K hK => ?_); go_simp; refine hK _ _ (fun _ => d3a _) ?_; clear hK K; try simp only [Act.put, List.setIfInBounds_toArray, List.set_cons_zero, List.set_cons_succ])
  refine wpO_run rfl (by kernel_rfl) (fun K hK => ?_)
  have HK := hid hK
  clear hK
  refine wp_appendR (.tmp 49) (.tmp 51) 22 rfl 27 (.agg #[.int .i64 0, .int .i64 0, .string ⟨#[]⟩, .slice none 0 0]) 4 56 Try.underlying22 Try.info_val rfl (by decide) _ rfl W5.heap.size l.length _ ((HF11.out.alloc _).own HO10.out fun _ _ => id) w11.heap.size 1 [.int .i64 0, .int .i64 1, .string ⟨#[]⟩, .slice none 0 0] rfl rfl ?c1 ?c3 (by have := HM.out; have := HLL.out; omega) (by decide) (by have h2 : W10.heap.size ≤ w11.heap.size := HF11.out.size; have h3 := HF10.out.size; have h4 : W7.heap.size ≤ w9.heap.size := HF9.out.size; have h5 : ∀ o : Obj, (w11.alloc o).heap.size = w11.heap.size + 1 := fun o => (by simp); rw [h5]; omega) ?_
  case c1 => exact cells_new4 w11 #[.int .i64 0, .int .i64 1, .string ⟨#[]⟩, .slice none 0 0] _ _
  case c3 => intro q hq; simp at hq; rcases hq with rfl | rfl | rfl | rfl <;> rfl
  intro g cp w12 ho12 hf12 hn12
  have d3b : w12.cell? ⟨w6.heap.size, 3, none⟩ = some (.slice (some ⟨g6, 0, none⟩) l.length c6) := hf12.cell (d3a _) (fun e => by have e : some w6.heap.size = some g6 := e; injection e; omega)
  have f12 : w12.frozen? ⟨w6.heap.size, 3, none⟩ = false := by
    have h1 := (HF11.out.alloc (.cells #[.int .i64 0, .int .i64 1, .string ⟨#[]⟩, .slice none 0 0] 27)).heap HB7.out not_false
    exact frozen_of_row _ _ 3 _ _ (hf12.heap h1 (fun e => by have e : some w6.heap.size = some g6 := e; injection e; omega))
  have HF12 := hid hf12
  clear hf12 d3 d3a ho12 hn12
  refine HK.out _ _ (fun _ => d3b) ?_
  clear HK K
  try simp only [Act.put, List.setIfInBounds_toArray, List.set_cons_zero, List.set_cons_succ]
  (refine wpO_run rfl (by kernel_rfl) (fun K hK => ?_); go_simp; refine hK _ _ (fun _ => d3b) ?_; clear hK K; try simp only [Act.put, List.setIfInBounds_toArray, List.set_cons_zero, List.set_cons_succ])
  refine wpO_run rfl (by kernel_rfl) (fun K hK => ?_)
  go_simp
  refine hK _ _ (last_skip (by kernel_rfl)) ?_
  clear hK K
  try simp only [Act.put, List.setIfInBounds_toArray, List.set_cons_zero, List.set_cons_succ]
  refine wpO_end ?_
  have hs5 := HS5.out
  have hf13 : Fr (fun q => W5.heap.size ≤ q ∧ q < w6.heap.size + 1) W7 (w12.setCell ⟨w6.heap.size, 3, none⟩ (.slice (some ⟨g, 0, none⟩) (l.length + 1) cp)) := by
    refine Fr.setCell ?_ (p := ⟨w6.heap.size, 3, none⟩) (.inl ⟨by show W5.heap.size ≤ w6.heap.size; omega, by show w6.heap.size < w6.heap.size + 1; omega⟩) _
    refine (((Fr.refl _ W7).drew.trans' (HF9.out.mono fun _ _ h => h.elim)).trans' (HF10.out.mono fun q _ h => ?_)).trans' ?_
    · subst h; omega
    · refine ((Fr.refl _ W10).drew.trans' ((HF11.out.alloc _).mono fun _ _ h => h.elim)).trans' (HF12.out.mono fun q _ h => ?_)
      have h : some q = some g6 := h
      injection h
      omega
  clear d3b f12
  generalize w12.setCell ⟨w6.heap.size, 3, none⟩ (.slice (some ⟨g, 0, none⟩) (l.length + 1) cp) = W13 at *
  have hB6 := hf13.heap (k := w5.heap.size) HB6.out (by omega)
  have hB8 := hf13.heap (k := w7.heap.size) HB8.out (by omega)
  have hV13 := HV6.out.frame hf13 (fun q hq e => by omega)
  have hU13 := HU7.out.frame hf13 (fun q hq e => by omega)
  have hF13 : Fr (fun _ => False) w W13 := HF7.out.trans hf13 (fun _ _ => id) (fun q hq e => by have := HWW.out; omega)
  have hle13 := hf13.size
  clear HF9 HF10 HF11 HF12 HB7 HB6 HB8 HR9 HR6 HO10 HV6 HU7 HF7 hf13
  have v0 : W13.cell? ⟨w5.heap.size, 0, none⟩ = some (.int .i64 4) := by rw [cell_of_row _ _ 0 _ _ _ hB6]; rfl
  have v1 : W13.cell? ⟨w5.heap.size, 1, none⟩ = some (.int .i64 0) := by rw [cell_of_row _ _ 1 _ _ _ hB6]; rfl
  have v2 : W13.cell? ⟨w5.heap.size, 2, none⟩ = some (.string ⟨#[]⟩) := by rw [cell_of_row _ _ 2 _ _ _ hB6]; rfl
  have v3 : W13.cell? ⟨w5.heap.size, 3, none⟩ = some (.slice a5 l.length c5) := by rw [cell_of_row _ _ 3 _ _ _ hB6]; rfl
  have hcl := vclone_any _ _ (Nat.le_refl _) hx _ _ _ hV13
  have HB6 := hid hB6; have HB8 := hid hB8; have HV13 := hid hV13; have HU13 := hid hU13; have HF13 := hid hF13
  clear hB6 hB8 hV13 hU13 hF13
  go_wp2_with fail
  refine hcl.mono ?_
  clear hcl
  rintro e w14 ⟨u14, rfl, hf14, hv14, xs14, ho14⟩
  obtain ⟨v14, rfl, hl14⟩ := hv14.open
  obtain ⟨a14, c14, us14, rfl, hc14, hm14, hn14, hb14, hi14⟩ := hl14
  simp only [V.k, V.n, V.s, V.l] at hv14 ho14 hb14 hi14 ⊢
  have ho14 : w14.ownsRow W13.heap.size 27 4 (.slice a14 l.length c14) l.length xs14 := ho14
  rcases id ho14.2 with ⟨_, he⟩ | ⟨g14, c14', cur14, he, hg14, hrow14, -, -, -, -⟩
  · exact absurd he h0
  simp only [Value.slice.injEq, true_and] at he
  obtain ⟨rfl, rfl⟩ := he
  clear v0 v1 v2 v3
  have hA14 : Fr (fun _ => False) w14 (w14.alloc (.cells #[.int .i64 4, .int .i64 0, .string ⟨#[]⟩, .slice (some ⟨g14, 0, none⟩) l.length c14] 27)) := (Fr.refl (fun _ => False) w14).alloc _
  have hG := hf14.trans' hA14
  have hb10 : (w14.alloc (.cells #[.int .i64 4, .int .i64 0, .string ⟨#[]⟩, .slice (some ⟨g14, 0, none⟩) l.length c14] 27)).heap[w14.heap.size]? = some (.cells #[.int .i64 4, .int .i64 0, .string ⟨#[]⟩, .slice (some ⟨g14, 0, none⟩) l.length c14] 27) := heap_alloc_new w14 _
  have hB6 := hG.heap HB6.out not_false
  have hB8 := hG.heap HB8.out not_false
  have hV14 := HV13.out.frame hG fun _ _ => id
  have hU14 := HU13.out.frame hG fun _ _ => id
  have hF14 := HF13.out.trans' hG
  have hle14 := hf14.size
  obtain ⟨b, o, y, a', c', he, -, hy, hvy, e0, e1, e2, e3⟩ := VL.elem hb14 hi14 k hkl
  simp only [Option.some.injEq, Addr.mk.injEq, and_true] at he
  obtain ⟨rfl, rfl⟩ := he
  rw [Nat.zero_add] at e3
  obtain ⟨vy, ey, a9, c9, us9, rfl, hc9, hm9, hn9, hb9, hi9⟩ := hvy.open
  simp only [Array.mk.injEq, List.cons.injEq, true_and, and_true, Value.slice.injEq] at ey
  obtain ⟨rfl, rfl⟩ := ey
  have e3' := hA14.cell e3 not_false
  have d10 : (w14.alloc (.cells #[.int .i64 4, .int .i64 0, .string ⟨#[]⟩, .slice (some ⟨g14, 0, none⟩) l.length c14] 27)).cell? ⟨w14.heap.size, 3, none⟩ = some (.slice (some ⟨g14, 0, none⟩) l.length c14) := by rw [cell_of_row _ _ 3 _ _ _ hb10]; rfl
  have HB9 := hid hb9; have HI9 := hid hi9
  have HB6 := hid hB6; have HB8 := hid hB8; have HV14 := hid hV14; have HU14 := hid hU14; have HF14 := hid hF14
  clear hf14 hv14 ho14 hb14 hi14 hrow14 hG hb10 hB6 hB8 hV14 hU14 hF14 HV13 HU13 HF13 hvy e0 e1 e2 e3 hb9 hi9 hn14
  go_upto_region 13 with fail
  have hsz14 : (w14.alloc (.cells #[.int .i64 4, .int .i64 0, .string ⟨#[]⟩, .slice (some ⟨g14, 0, none⟩) l.length c14] 27)).heap.size = w14.heap.size + 1 := by simp
  generalize w14.alloc (.cells #[.int .i64 4, .int .i64 0, .string ⟨#[]⟩, .slice (some ⟨g14, 0, none⟩) l.length c14] 27) = W14 at *
  by_cases hy0 : y.l.length = 0
  · rw [hy0] at e3'
    go_upto_region 15 with fail
    have hB6 := HB6.out; have hB8 := HB8.out; have hV14 := HV14.out; have hU14 := HU14.out; have hF14 := HF14.out
    clear d10 e3' HB6 HB8 HV14 HU14 HF14
    have v0 : W14.cell? ⟨w5.heap.size, 0, none⟩ = some (.int .i64 4) := by rw [cell_of_row _ _ 0 _ _ _ hB6]; rfl
    have v1 : W14.cell? ⟨w5.heap.size, 1, none⟩ = some (.int .i64 0) := by rw [cell_of_row _ _ 1 _ _ _ hB6]; rfl
    have v2 : W14.cell? ⟨w5.heap.size, 2, none⟩ = some (.string ⟨#[]⟩) := by rw [cell_of_row _ _ 2 _ _ _ hB6]; rfl
    have v3 : W14.cell? ⟨w5.heap.size, 3, none⟩ = some (.slice a5 l.length c5) := by rw [cell_of_row _ _ 3 _ _ _ hB6]; rfl
    have z0 : W14.cell? ⟨w7.heap.size, 0, none⟩ = some (.int .i64 4) := by rw [cell_of_row _ _ 0 _ _ _ hB8]; rfl
    have z1 : W14.cell? ⟨w7.heap.size, 1, none⟩ = some (.int .i64 0) := by rw [cell_of_row _ _ 1 _ _ _ hB8]; rfl
    have z2 : W14.cell? ⟨w7.heap.size, 2, none⟩ = some (.string ⟨#[]⟩) := by rw [cell_of_row _ _ 2 _ _ _ hB8]; rfl
    have z3 : W14.cell? ⟨w7.heap.size, 3, none⟩ = some (.slice a7 l.length c7) := by rw [cell_of_row _ _ 3 _ _ _ hB8]; rfl
    have hs := vsame_refl _ _ (Nat.le_refl _) _ _ _ _ _ hV14 hU14
    have HS := hid hs; have HB6 := hid hB6; have HB8 := hid hB8; have HV14 := hid hV14; have HU14 := hid hU14; have HF14 := hid hF14
    clear hs hB6 hB8 hV14 hU14 hF14
    go_wp2_with fail
    refine HS.out.mono ?_
    rintro e wA ⟨rfl, hfA⟩
    clear v0 v1 v2 v3 z0 z1 z2 z3
    have hB6 := hfA.heap HB6.out not_false
    have hB8 := hfA.heap HB8.out not_false
    have v0 : wA.cell? ⟨w5.heap.size, 0, none⟩ = some (.int .i64 4) := by rw [cell_of_row _ _ 0 _ _ _ hB6]; rfl
    have v1 : wA.cell? ⟨w5.heap.size, 1, none⟩ = some (.int .i64 0) := by rw [cell_of_row _ _ 1 _ _ _ hB6]; rfl
    have v2 : wA.cell? ⟨w5.heap.size, 2, none⟩ = some (.string ⟨#[]⟩) := by rw [cell_of_row _ _ 2 _ _ _ hB6]; rfl
    have v3 : wA.cell? ⟨w5.heap.size, 3, none⟩ = some (.slice a5 l.length c5) := by rw [cell_of_row _ _ 3 _ _ _ hB6]; rfl
    have z0 : wA.cell? ⟨w7.heap.size, 0, none⟩ = some (.int .i64 4) := by rw [cell_of_row _ _ 0 _ _ _ hB8]; rfl
    have z1 : wA.cell? ⟨w7.heap.size, 1, none⟩ = some (.int .i64 0) := by rw [cell_of_row _ _ 1 _ _ _ hB8]; rfl
    have z2 : wA.cell? ⟨w7.heap.size, 2, none⟩ = some (.string ⟨#[]⟩) := by rw [cell_of_row _ _ 2 _ _ _ hB8]; rfl
    have z3 : wA.cell? ⟨w7.heap.size, 3, none⟩ = some (.slice a7 l.length c7) := by rw [cell_of_row _ _ 3 _ _ _ hB8]; rfl
    have hs := rsame_refl _ _ (Nat.le_refl _) _ _ _ _ _ (HV14.out.frame hfA fun _ _ => id) (HU14.out.frame hfA fun _ _ => id)
    have HS2 := hid hs; have HFA := hid hfA
    clear hs hfA hB6 hB8
    go_wp2_with fail
    refine HS2.out.mono ?_
    rintro e wB ⟨rfl, hfB⟩
    have HFB := hid hfB
    clear hfB
    go_wp2
    go_ret
    exact ⟨rfl, (HF14.out.trans' HFA.out).trans' HFB.out⟩
  · obtain ⟨b9, o9, z, az, cz, rfl, ⟨hb9, hsoft⟩, -, -, e0, e1, e2, e3⟩ := VL.elem HB9.out HI9.out 0 (by omega)
    simp only [Nat.zero_mul, Nat.add_zero] at e0 e1 e2 e3
    have hb9l : b9 < w14.heap.size := World.block_lt_of_cell? w14 _ e0
    go_upto_region 14 with fail
    refine wp_region_ord [(0, 0), (1, 0), (2, 0), (3, 0), (4, 0), (5, 0), (6, 1), (7, 1), (8, 1)] (fun w' => w'.cell? ⟨w14.heap.size, 3, none⟩ = some (.slice (some ⟨g14, 0, none⟩) l.length c14) ∧ w'.cell? ⟨g14, k * 4 + 3, none⟩ = some (.slice (some ⟨b9, o9, none⟩) y.l.length c')) (by kernel_rfl) (by kernel_rfl) (by kernel_rfl) rfl (fun _ _ d _ _ h => by cases d <;> exact h) ⟨d10, e3'⟩ ?_
    iterate 6 (refine wpO_take ?_ rfl (by kernel_rfl) ?_ ?_; rotate_left; (· intro w' hS; go_simp; try with_reducible rfl); try simp only [Act.put, List.setIfInBounds_toArray, List.set_cons_zero, List.set_cons_succ])
    refine wpO_run rfl (by kernel_rfl) (fun K hK => ?_); go_simp
    refine (vS_any _ _).mono ?_
    rintro e w15 ⟨rfl, hf15⟩
    have d10 : w15.cell? ⟨w14.heap.size, 3, none⟩ = some (.slice (some ⟨g14, 0, none⟩) l.length c14) := hf15.cell d10 not_false
    have e3' : w15.cell? ⟨g14, k * 4 + 3, none⟩ = some (.slice (some ⟨b9, o9, none⟩) y.l.length c') := hf15.cell e3' not_false
    replace e0 : w15.cell? ⟨b9, o9, none⟩ = some _ := hf15.cell (hA14.cell e0 not_false) not_false
    replace e1 : w15.cell? ⟨b9, o9 + 1, none⟩ = some _ := hf15.cell (hA14.cell e1 not_false) not_false
    replace e2 : w15.cell? ⟨b9, o9 + 2, none⟩ = some _ := hf15.cell (hA14.cell e2 not_false) not_false
    replace e3 : w15.cell? ⟨b9, o9 + 3, none⟩ = some _ := hf15.cell (hA14.cell e3 not_false) not_false
    have f15 : ∀ i, w15.frozen? ⟨b9, i, none⟩ = false := hf15.soft (by show b9 < W14.heap.size; omega) not_false (hA14.soft hb9l not_false hsoft)
    have HF15 := hid hf15
    clear hf15 hsoft
    refine hK _ _ (fun _ => ⟨d10, e3'⟩) ?_
    clear hK K
    try simp only [Act.put, List.setIfInBounds_toArray, List.set_cons_zero, List.set_cons_succ]
    (refine wpO_run rfl (by kernel_rfl) (fun K hK => ?_); go_simp; refine hK _ _ (fun _ => ⟨d10, e3'⟩) ?_; clear hK K; try simp only [Act.put, List.setIfInBounds_toArray, List.set_cons_zero, List.set_cons_succ])
    refine wpO_run rfl (by kernel_rfl) (fun K hK => ?_)
    go_simp
    refine hK _ _ (last_skip (by kernel_rfl)) ?_
    clear hK K
    try simp only [Act.put, List.setIfInBounds_toArray, List.set_cons_zero, List.set_cons_succ]
    refine wpO_end ?_
    have hf16 : Fr (fun q => W13.heap.size ≤ q) W14 ((((w15.setCell ⟨b9, o9, none⟩ (.int .i64 2)).setCell ⟨b9, o9 + 1, none⟩ (.int .i64 0)).setCell ⟨b9, o9 + 2, none⟩ (.string ⟨#[109, 111, 114, 101]⟩)).setCell ⟨b9, o9 + 3, none⟩ (.slice none 0 0)) :=
      (((((Fr.refl (fun q => W13.heap.size ≤ q) W14).drew.trans' (HF15.out.mono fun _ _ h => h.elim)).setCell (p := ⟨b9, o9, none⟩) (.inl hb9) _).setCell (p := ⟨b9, o9 + 1, none⟩) (.inl hb9) _).setCell (p := ⟨b9, o9 + 2, none⟩) (.inl hb9) _).setCell (p := ⟨b9, o9 + 3, none⟩) (.inl hb9) _
    clear e0 e1 e2 e3 f15 d10 e3'
    generalize ((((w15.setCell ⟨b9, o9, none⟩ (.int .i64 2)).setCell ⟨b9, o9 + 1, none⟩ (.int .i64 0)).setCell ⟨b9, o9 + 2, none⟩ (.string ⟨#[109, 111, 114, 101]⟩)).setCell ⟨b9, o9 + 3, none⟩ (.slice none 0 0)) = W16 at *
    have hB6 := hf16.heap (k := w5.heap.size) HB6.out (by omega)
    have hB8 := hf16.heap (k := w7.heap.size) HB8.out (by omega)
    have hV14 := HV14.out.frame hf16 (fun q hq e => by omega)
    have hU14 := HU14.out.frame hf16 (fun q hq e => by omega)
    have hF14 := HF14.out.trans hf16 (fun _ _ => id) (fun q hq e => by have := HWW.out; omega)
    clear HB6 HB8 HV14 HU14 HF14 HF15 hf16 HB9 HI9
    go_upto_region 15 with fail
    have v0 : W16.cell? ⟨w5.heap.size, 0, none⟩ = some (.int .i64 4) := by rw [cell_of_row _ _ 0 _ _ _ hB6]; rfl
    have v1 : W16.cell? ⟨w5.heap.size, 1, none⟩ = some (.int .i64 0) := by rw [cell_of_row _ _ 1 _ _ _ hB6]; rfl
    have v2 : W16.cell? ⟨w5.heap.size, 2, none⟩ = some (.string ⟨#[]⟩) := by rw [cell_of_row _ _ 2 _ _ _ hB6]; rfl
    have v3 : W16.cell? ⟨w5.heap.size, 3, none⟩ = some (.slice a5 l.length c5) := by rw [cell_of_row _ _ 3 _ _ _ hB6]; rfl
    have z0 : W16.cell? ⟨w7.heap.size, 0, none⟩ = some (.int .i64 4) := by rw [cell_of_row _ _ 0 _ _ _ hB8]; rfl
    have z1 : W16.cell? ⟨w7.heap.size, 1, none⟩ = some (.int .i64 0) := by rw [cell_of_row _ _ 1 _ _ _ hB8]; rfl
    have z2 : W16.cell? ⟨w7.heap.size, 2, none⟩ = some (.string ⟨#[]⟩) := by rw [cell_of_row _ _ 2 _ _ _ hB8]; rfl
    have z3 : W16.cell? ⟨w7.heap.size, 3, none⟩ = some (.slice a7 l.length c7) := by rw [cell_of_row _ _ 3 _ _ _ hB8]; rfl
    have hs := vsame_refl _ _ (Nat.le_refl _) _ _ _ _ _ hV14 hU14
    have HS := hid hs; have HB6 := hid hB6; have HB8 := hid hB8; have HV14 := hid hV14; have HU14 := hid hU14; have HF14 := hid hF14
    clear hs hB6 hB8 hV14 hU14 hF14
    go_wp2_with fail
    refine HS.out.mono ?_
    rintro e wA ⟨rfl, hfA⟩
    clear v0 v1 v2 v3 z0 z1 z2 z3
    have hB6 := hfA.heap HB6.out not_false
    have hB8 := hfA.heap HB8.out not_false
    have v0 : wA.cell? ⟨w5.heap.size, 0, none⟩ = some (.int .i64 4) := by rw [cell_of_row _ _ 0 _ _ _ hB6]; rfl
    have v1 : wA.cell? ⟨w5.heap.size, 1, none⟩ = some (.int .i64 0) := by rw [cell_of_row _ _ 1 _ _ _ hB6]; rfl
    have v2 : wA.cell? ⟨w5.heap.size, 2, none⟩ = some (.string ⟨#[]⟩) := by rw [cell_of_row _ _ 2 _ _ _ hB6]; rfl
    have v3 : wA.cell? ⟨w5.heap.size, 3, none⟩ = some (.slice a5 l.length c5) := by rw [cell_of_row _ _ 3 _ _ _ hB6]; rfl
    have z0 : wA.cell? ⟨w7.heap.size, 0, none⟩ = some (.int .i64 4) := by rw [cell_of_row _ _ 0 _ _ _ hB8]; rfl
    have z1 : wA.cell? ⟨w7.heap.size, 1, none⟩ = some (.int .i64 0) := by rw [cell_of_row _ _ 1 _ _ _ hB8]; rfl
    have z2 : wA.cell? ⟨w7.heap.size, 2, none⟩ = some (.string ⟨#[]⟩) := by rw [cell_of_row _ _ 2 _ _ _ hB8]; rfl
    have z3 : wA.cell? ⟨w7.heap.size, 3, none⟩ = some (.slice a7 l.length c7) := by rw [cell_of_row _ _ 3 _ _ _ hB8]; rfl
    have hs := rsame_refl _ _ (Nat.le_refl _) _ _ _ _ _ (HV14.out.frame hfA fun _ _ => id) (HU14.out.frame hfA fun _ _ => id)
    have HS2 := hid hs; have HFA := hid hfA
    clear hs hfA hB6 hB8
    go_wp2_with fail
    refine HS2.out.mono ?_
    rintro e wB ⟨rfl, hfB⟩
    have HFB := hid hfB
    clear hfB
    go_wp2
    go_ret
    exact ⟨rfl, (HF14.out.trans' HFA.out).trans' HFB.out⟩
end Go.Proofs.Yteadegaclnibhaa
