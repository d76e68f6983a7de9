/- Package num: Two. -/
import Derived.Test.YtjngddmjgcecnaaNumB
import Derived.Test.YtjngddmjgcecnaaSeqFind
namespace Go.Proofs.Ytjngddmjgcecnaa
open Go.RowKit

set_option maxRecDepth 100000 in
set_option maxHeartbeats 3200000 in
theorem two_eq (x y : V) (w : World) (u u' : Array Value) (h : VIn T w x u) (h' : VIn T w y u') :
    Calls Try.prog 10 #[.int .i64 10, .agg u, .agg u'] w fun e w' => e = .returned (.tuple #[.agg (cI (if V.same x y then 1 else 0)), .int .i64 0]) ∧ Fr (fun _ => False) w w' := by
  obtain ⟨v1, rfl, a1, c1, us1, rfl, -⟩ := h.open
  obtain ⟨v2, rfl, hl2⟩ := h'.open
  obtain ⟨a2, c2, us2, rfl, -⟩ := id hl2
  have HX := hid h; have HY := hid h'; have HL := hid hl2
  obtain ⟨hf, hr⟩ := three (.cells #[.int .i64 x.k, .int .i64 x.n, .string x.s, .slice a1 x.l.length c1] 24) (.cells #[.int .i64 y.k, .int .i64 y.n, .string y.s, .slice a2 y.l.length c2] 24) w
  have HF0 := hid hf; have HR0 := hid hr
  clear h h' hl2 hf hr
  unfold cI
  have HC := hid (vsame_any x.size x y (Nat.le_refl _) T T _ _ _ (HX.out.fr HF0.out) (HY.out.fr HF0.out))
  generalize V.same x y = b at *
  go_enter Try.func10, Try.ntmps10
  go_wp2_with fail
  refine HC.out.mono ?_
  rintro e w1 ⟨rfl, hf1⟩
  have HR := hid (hf1.heap HR0.out not_false); have HF := hid (HF0.out.trans' hf1)
  clear hf1 HR0 HF0 HC
  cases b
  · go_wp2_with fail
    refine (bool_any false _).mono ?_
    rintro e w2 ⟨rfl, hf2⟩
    unfold cI
    obtain ⟨hR, hf5, z0, z1, z2, z3, zf⟩ := set4 (hf2.heap HR.out not_false) (.int .i64 0) (.int .i64 0) (.string ⟨#[]⟩) (.slice none 0 0)
    have HRR := hid hR
    have HF5 := hid ((HF.out.trans' hf2).trans hf5 (U := fun _ => False) (fun _ _ h => h) (fun q hq e => by omega))
    clear hR hf5 hf2
    go_wp2_with fail
    refine bodyPost_ret (results_ct rfl _ _ (w.heap.size + 1 + 1) _ _ _ _ rfl HRR.out Try.underlying24 rfl (by kernel_rfl)) rfl ?_
    exact ⟨rfl, HF5.out⟩
  · go_wp2_with fail
    refine (bool_any true _).mono ?_
    rintro e w2 ⟨rfl, hf2⟩
    unfold cI
    obtain ⟨hR, hf5, z0, z1, z2, z3, zf⟩ := set4 (hf2.heap HR.out not_false) (.int .i64 0) (.int .i64 1) (.string ⟨#[]⟩) (.slice none 0 0)
    have HRR := hid hR
    have HF5 := hid ((HF.out.trans' hf2).trans hf5 (U := fun _ => False) (fun _ _ h => h) (fun q hq e => by omega))
    clear hR hf5 hf2
    go_wp2_with fail
    refine bodyPost_ret (results_ct rfl _ _ (w.heap.size + 1 + 1) _ _ _ _ rfl HRR.out Try.underlying24 rfl (by kernel_rfl)) rfl ?_
    exact ⟨rfl, HF5.out⟩

set_option maxRecDepth 100000 in
set_option maxHeartbeats 3200000 in
theorem two_ne (x y : V) (w : World) (u u' : Array Value) (h : VIn T w x u) (h' : VIn T w y u') :
    Calls Try.prog 10 #[.int .i64 11, .agg u, .agg u'] w fun e w' => e = .returned (.tuple #[.agg (cI (if V.same x y then 0 else 1)), .int .i64 0]) ∧ Fr (fun _ => False) w w' := by
  obtain ⟨v1, rfl, a1, c1, us1, rfl, -⟩ := h.open
  obtain ⟨v2, rfl, hl2⟩ := h'.open
  obtain ⟨a2, c2, us2, rfl, -⟩ := id hl2
  have HX := hid h; have HY := hid h'; have HL := hid hl2
  obtain ⟨hf, hr⟩ := three (.cells #[.int .i64 x.k, .int .i64 x.n, .string x.s, .slice a1 x.l.length c1] 24) (.cells #[.int .i64 y.k, .int .i64 y.n, .string y.s, .slice a2 y.l.length c2] 24) w
  have HF0 := hid hf; have HR0 := hid hr
  clear h h' hl2 hf hr
  unfold cI
  have HC := hid (vsame_any x.size x y (Nat.le_refl _) T T _ _ _ (HX.out.fr HF0.out) (HY.out.fr HF0.out))
  generalize V.same x y = b at *
  go_enter Try.func10, Try.ntmps10
  go_wp2_with fail
  refine HC.out.mono ?_
  rintro e w1 ⟨rfl, hf1⟩
  have HR := hid (hf1.heap HR0.out not_false); have HF := hid (HF0.out.trans' hf1)
  clear hf1 HR0 HF0 HC
  cases b
  · go_wp2_with fail
    refine (bool_any true _).mono ?_
    rintro e w2 ⟨rfl, hf2⟩
    unfold cI
    obtain ⟨hR, hf5, z0, z1, z2, z3, zf⟩ := set4 (hf2.heap HR.out not_false) (.int .i64 0) (.int .i64 1) (.string ⟨#[]⟩) (.slice none 0 0)
    have HRR := hid hR
    have HF5 := hid ((HF.out.trans' hf2).trans hf5 (U := fun _ => False) (fun _ _ h => h) (fun q hq e => by omega))
    clear hR hf5 hf2
    go_wp2_with fail
    refine bodyPost_ret (results_ct rfl _ _ (w.heap.size + 1 + 1) _ _ _ _ rfl HRR.out Try.underlying24 rfl (by kernel_rfl)) rfl ?_
    exact ⟨rfl, HF5.out⟩
  · go_wp2_with fail
    refine (bool_any false _).mono ?_
    rintro e w2 ⟨rfl, hf2⟩
    unfold cI
    obtain ⟨hR, hf5, z0, z1, z2, z3, zf⟩ := set4 (hf2.heap HR.out not_false) (.int .i64 0) (.int .i64 0) (.string ⟨#[]⟩) (.slice none 0 0)
    have HRR := hid hR
    have HF5 := hid ((HF.out.trans' hf2).trans hf5 (U := fun _ => False) (fun _ _ h => h) (fun q hq e => by omega))
    clear hR hf5 hf2
    go_wp2_with fail
    refine bodyPost_ret (results_ct rfl _ _ (w.heap.size + 1 + 1) _ _ _ _ rfl HRR.out Try.underlying24 rfl (by kernel_rfl)) rfl ?_
    exact ⟨rfl, HF5.out⟩

set_option maxRecDepth 100000 in
set_option maxHeartbeats 3200000 in
theorem two_ord (op : Int) (hop : op = 12 ∨ op = 13 ∨ op = 14 ∨ op = 15) (x y : V) (hkx : x.kr) (hky : y.kr) (w : World) (u u' : Array Value) (h : VIn T w x u) (h' : VIn T w y u') :
    Calls Try.prog 10 #[.int .i64 op, .agg u, .agg u'] w fun e w' => e = .returned (.tuple #[.agg (cI (pOrd op x y).1), .int .i64 (pOrd op x y).2]) ∧ Fr (fun _ => False) w w' := by
  obtain ⟨v1, rfl, a1, c1, us1, rfl, -⟩ := h.open
  obtain ⟨v2, rfl, hl2⟩ := h'.open
  obtain ⟨a2, c2, us2, rfl, -⟩ := id hl2
  have HX := hid h; have HY := hid h'; have HL := hid hl2
  obtain ⟨hf, hr⟩ := three (.cells #[.int .i64 x.k, .int .i64 x.n, .string x.s, .slice a1 x.l.length c1] 24) (.cells #[.int .i64 y.k, .int .i64 y.n, .string y.s, .slice a2 y.l.length c2] 24) w
  have HF0 := hid hf; have HR0 := hid hr
  clear h h' hl2 hf hr
  unfold cI
  have hC := order_any op hop x y hkx hky _ _ _ (HX.out.fr HF0.out) (HY.out.fr HF0.out)
  unfold cI at hC
  generalize (pOrd op x y).1 = r at *
  generalize (pOrd op x y).2 = c at *
  have HC := hid hC
  clear hkx hky hC
  rcases hop with rfl | rfl | rfl | rfl
  all_goals
    go_enter Try.func10, Try.ntmps10
    go_wp2_with fail
    refine HC.out.mono ?_
    rintro e w2 ⟨rfl, hf2⟩
    have HR := HR0; have HF := HF0
    obtain ⟨hR, hf5, z0, z1, z2, z3, zf⟩ := set4 (hf2.heap HR.out not_false) (.int .i64 0) (.int .i64 r) (.string ⟨#[]⟩) (.slice none 0 0)
    have HRR := hid hR
    have HF5 := hid ((HF.out.trans' hf2).trans hf5 (U := fun _ => False) (fun _ _ h => h) (fun q hq e => by omega))
    clear hR hf5 hf2
    go_wp2_with fail
    refine bodyPost_ret (results_ct rfl _ _ (w.heap.size + 1 + 1) _ _ _ _ rfl HRR.out Try.underlying24 rfl (by kernel_rfl)) rfl ?_
    exact ⟨rfl, HF5.out⟩

set_option maxRecDepth 100000 in
set_option maxHeartbeats 3200000 in
theorem two_in (x y : V) (hys : sizeL y.l ≤ 1099511627776) (w : World) (u u' : Array Value) (h : VIn T w x u) (h' : VIn T w y u') :
    Calls Try.prog 10 #[.int .i64 16, .agg u, .agg u'] w fun e w' => e = .returned (.tuple #[.agg (cI (if y.k = 4 then fidx x y.l 0 + 1 else 0)), .int .i64 (if y.k = 4 then 0 else 1)]) ∧ Fr (fun _ => False) w w' := by
  obtain ⟨v1, rfl, a1, c1, us1, rfl, -⟩ := h.open
  obtain ⟨v2, rfl, hl2⟩ := h'.open
  obtain ⟨a2, c2, us2, rfl, -⟩ := id hl2
  have HX := hid h; have HY := hid h'; have HL := hid hl2
  obtain ⟨hf, hr⟩ := three (.cells #[.int .i64 x.k, .int .i64 x.n, .string x.s, .slice a1 x.l.length c1] 24) (.cells #[.int .i64 y.k, .int .i64 y.n, .string y.s, .slice a2 y.l.length c2] 24) w
  have HF0 := hid hf; have HR0 := hid hr
  clear h h' hl2 hf hr
  unfold cI
  by_cases hk : y.k = 4
  · rw [if_pos hk, if_pos hk]
    have q1 : (y.k != 4) = false := by simpa using hk
    have HC := hid (find_any y.l x _ _ _ (HL.out.fr HF0.out) (HX.out.fr HF0.out) hys)
    have hg := fidx_ge x y.l 0
    have hll := len_le_sizeL y.l
    generalize fidx x y.l 0 = r at *
    clear hk hg hll hys
    go_enter Try.func10, Try.ntmps10
    go_wp2_with fail
    refine HC.out.mono ?_
    rintro e w1 ⟨rfl, hf1⟩
    have HR := hid (hf1.heap HR0.out not_false); have HF := hid (HF0.out.trans' hf1)
    clear hf1 HR0 HF0 HC
    go_wp2_with fail
    refine (vI_any (r + 1) _).mono ?_
    rintro e w2 ⟨rfl, hf2⟩
    obtain ⟨hR, hf5, z0, z1, z2, z3, zf⟩ := set4 (hf2.heap HR.out not_false) (.int .i64 0) (.int .i64 (r + 1)) (.string ⟨#[]⟩) (.slice none 0 0)
    have HRR := hid hR
    have HF5 := hid ((HF.out.trans' hf2).trans hf5 (U := fun _ => False) (fun _ _ h => h) (fun q hq e => by omega))
    clear hR hf5 hf2
    go_wp2_with fail
    refine bodyPost_ret (results_ct rfl _ _ (w.heap.size + 1 + 1) _ _ _ _ rfl HRR.out Try.underlying24 rfl (by kernel_rfl)) rfl ?_
    exact ⟨rfl, HF5.out⟩
  · rw [if_neg hk, if_neg hk]
    have q1 : (y.k != 4) = true := by simpa using hk
    clear hk hys
    go_enter Try.func10, Try.ntmps10
    go_wp2_with fail
    refine (raised_any 1 _).mono ?_
    rintro e w2 ⟨rfl, hf2⟩
    have HR := HR0; have HF := HF0
    obtain ⟨hR, hf5, z0, z1, z2, z3, zf⟩ := set4 (hf2.heap HR.out not_false) (.int .i64 0) (.int .i64 0) (.string ⟨#[]⟩) (.slice none 0 0)
    have HRR := hid hR
    have HF5 := hid ((HF.out.trans' hf2).trans hf5 (U := fun _ => False) (fun _ _ h => h) (fun q hq e => by omega))
    clear hR hf5 hf2
    go_wp2_with fail
    refine bodyPost_ret (results_ct rfl _ _ (w.heap.size + 1 + 1) _ _ _ _ rfl HRR.out Try.underlying24 rfl (by kernel_rfl)) rfl ?_
    exact ⟨rfl, HF5.out⟩

set_option maxRecDepth 100000 in
set_option maxHeartbeats 800000 in
theorem two_first (op r : Int) (h : (op = 8 ∧ r = -3) ∨ (op = 9 ∧ r = -1)) (w : World) :
    Calls Try.prog 10 #[.int .i64 op, .agg (cI (-7)), .agg (cI 2)] w fun e w' => e = .returned (.tuple #[.agg (cI r), .int .i64 0]) ∧ Fr (fun _ => False) w w' := by
  obtain ⟨hf, hr⟩ := three (.cells (cI (-7)) 24) (.cells (cI 2) 24) w
  have HC := hid (ints_any op r h (((w.alloc (.cells (cI (-7)) 24)).alloc (.cells (cI 2) 24)).alloc (.cells #[.int .i64 0, .int .i64 0, .string ⟨#[]⟩, .slice none 0 0] 24)))
  have HF := hid hf; have HR := hid hr
  clear hf hr
  unfold cI at *
  rcases h with ⟨rfl, rfl⟩ | ⟨rfl, rfl⟩
  · go_enter Try.func10, Try.ntmps10
    go_wp2_with fail
    refine HC.out.mono ?_
    rintro e w2 ⟨rfl, hf2⟩
    obtain ⟨hR, hf5, z0, z1, z2, z3, zf⟩ := set4 (hf2.heap HR.out not_false) (.int .i64 0) (.int .i64 (-3)) (.string ⟨#[]⟩) (.slice none 0 0)
    have HRR := hid hR
    have HF5 := hid ((HF.out.trans' hf2).trans hf5 (U := fun _ => False) (fun _ _ h => h) (fun q hq e => by omega))
    clear hR hf5 hf2
    go_wp2_with fail
    refine bodyPost_ret (results_ct rfl _ _ (w.heap.size + 1 + 1) _ _ _ _ rfl HRR.out Try.underlying24 rfl (by kernel_rfl)) rfl ?_
    exact ⟨rfl, HF5.out⟩
  · go_enter Try.func10, Try.ntmps10
    go_wp2_with fail
    refine HC.out.mono ?_
    rintro e w2 ⟨rfl, hf2⟩
    obtain ⟨hR, hf5, z0, z1, z2, z3, zf⟩ := set4 (hf2.heap HR.out not_false) (.int .i64 0) (.int .i64 (-1)) (.string ⟨#[]⟩) (.slice none 0 0)
    have HRR := hid hR
    have HF5 := hid ((HF.out.trans' hf2).trans hf5 (U := fun _ => False) (fun _ _ h => h) (fun q hq e => by omega))
    clear hR hf5 hf2
    go_wp2_with fail
    refine bodyPost_ret (results_ct rfl _ _ (w.heap.size + 1 + 1) _ _ _ _ rfl HRR.out Try.underlying24 rfl (by kernel_rfl)) rfl ?_
    exact ⟨rfl, HF5.out⟩

theorem nfirst_any (w : World) : Calls Try.prog 8 #[] w fun e w' => e = .returned (.bool true) ∧ Fr (fun _ => False) w w' := by
  go_enter Try.func8, Try.ntmps8
  go_wp2_with fail
  refine (vI_any (-7) _).mono ?_
  rintro e w1 ⟨rfl, hf1⟩
  go_wp2_with fail
  refine (vI_any 2 _).mono ?_
  rintro e w2 ⟨rfl, hf2⟩
  go_wp2_with fail
  refine (two_first 8 (-3) (.inl ⟨rfl, rfl⟩) _).mono ?_
  rintro e w3 ⟨rfl, hf3⟩
  have hfa := hf3.alloc (.cells #[.int .i64 0, .int .i64 (-3), .string ⟨#[]⟩, .slice none 0 0] 24)
  have hra := heap_alloc_new w3 (.cells #[.int .i64 0, .int .i64 (-3), .string ⟨#[]⟩, .slice none 0 0] 24)
  have HFA := hid (hf1.trans' (hf2.trans' hfa)); have HRA := hid hra
  clear hf1 hf2 hf3 hfa hra
  unfold cI
  go_wp2_with fail
  refine (vI_any (-7) _).mono ?_
  rintro e w4 ⟨rfl, hf4⟩
  go_wp2_with fail
  refine (vI_any 2 _).mono ?_
  rintro e w5 ⟨rfl, hf5⟩
  go_wp2_with fail
  refine (two_first 9 (-1) (.inr ⟨rfl, rfl⟩) _).mono ?_
  rintro e w6 ⟨rfl, hf6⟩
  unfold cI
  have hfb := hf6.alloc (.cells #[.int .i64 0, .int .i64 (-1), .string ⟨#[]⟩, .slice none 0 0] 24)
  have hrb := heap_alloc_new w6 (.cells #[.int .i64 0, .int .i64 (-1), .string ⟨#[]⟩, .slice none 0 0] 24)
  have hr3 := (hf4.trans' (hf5.trans' hfb)).heap HRA.out not_false
  have y0 : (w6.alloc (.cells #[.int .i64 0, .int .i64 (-1), .string ⟨#[]⟩, .slice none 0 0] 24)).cell? ⟨w3.heap.size, 0, none⟩ = some (.int .i64 0) := by rw [cell_of_row _ _ 0 _ _ _ hr3]; rfl
  have y1 : (w6.alloc (.cells #[.int .i64 0, .int .i64 (-1), .string ⟨#[]⟩, .slice none 0 0] 24)).cell? ⟨w3.heap.size, 1, none⟩ = some (.int .i64 (-3)) := by rw [cell_of_row _ _ 1 _ _ _ hr3]; rfl
  have y2 : (w6.alloc (.cells #[.int .i64 0, .int .i64 (-1), .string ⟨#[]⟩, .slice none 0 0] 24)).cell? ⟨w3.heap.size, 2, none⟩ = some (.string ⟨#[]⟩) := by rw [cell_of_row _ _ 2 _ _ _ hr3]; rfl
  have y3 : (w6.alloc (.cells #[.int .i64 0, .int .i64 (-1), .string ⟨#[]⟩, .slice none 0 0] 24)).cell? ⟨w3.heap.size, 3, none⟩ = some (.slice none 0 0) := by rw [cell_of_row _ _ 3 _ _ _ hr3]; rfl
  have z0 : (w6.alloc (.cells #[.int .i64 0, .int .i64 (-1), .string ⟨#[]⟩, .slice none 0 0] 24)).cell? ⟨w6.heap.size, 0, none⟩ = some (.int .i64 0) := by rw [cell_of_row _ _ 0 _ _ _ hrb]; rfl
  have z1 : (w6.alloc (.cells #[.int .i64 0, .int .i64 (-1), .string ⟨#[]⟩, .slice none 0 0] 24)).cell? ⟨w6.heap.size, 1, none⟩ = some (.int .i64 (-1)) := by rw [cell_of_row _ _ 1 _ _ _ hrb]; rfl
  have z2 : (w6.alloc (.cells #[.int .i64 0, .int .i64 (-1), .string ⟨#[]⟩, .slice none 0 0] 24)).cell? ⟨w6.heap.size, 2, none⟩ = some (.string ⟨#[]⟩) := by rw [cell_of_row _ _ 2 _ _ _ hrb]; rfl
  have z3 : (w6.alloc (.cells #[.int .i64 0, .int .i64 (-1), .string ⟨#[]⟩, .slice none 0 0] 24)).cell? ⟨w6.heap.size, 3, none⟩ = some (.slice none 0 0) := by rw [cell_of_row _ _ 3 _ _ _ hrb]; rfl
  have HF := hid (HFA.out.trans' (hf4.trans' (hf5.trans' hfb)))
  clear hf4 hf5 hf6 hfb hrb hr3
  go_wp2_with fail
  go_ret
  exact ⟨rfl, HF.out⟩
end Go.Proofs.Ytjngddmjgcecnaa
