/- The document's Cat, Delete, Insert. -/
import Derived.Test.YtebanmigaikhhaaRefSeqA
namespace Go.Proofs.Ytebanmigaikhhaa
open Go.RowKit

/-- make([]api.Value, 0, n). -/
theorem mk_row (n : Nat) (hn : n ≤ 4294967296) (w : World) (C : Int) (hC : C = (n : Int)) : ∃ w', (Instr.makeSlice 22 (.int .i64 0) (.int .i64 C)).run Try.prog w = .ok (.slice (some ⟨w.heap.size, 0, none⟩) 0 n) w' ∧
    w'.ownsRow w.heap.size 30 4 (.slice (some ⟨w.heap.size, 0, none⟩) 0 n) 0 [] ∧ Fr (fun _ => False) w w' := by
  subst hC
  obtain ⟨i, hi, he⟩ := Option.map_eq_some_iff.1 Try.info_val
  simp only [Prod.mk.injEq] at he
  obtain ⟨z1, z2, z3⟩ := he
  obtain ⟨w', a, b, c⟩ := run_make_own (P := Try.prog) w w.heap.size 22 30 i (.agg #[.int .i64 0, .int .i64 0, .string ⟨#[]⟩, .slice none 0 0]) 4 Try.underlying22 hi z1 z2 .i64 .i64 n (by rw [z3]; omega) (by simp [maxLen]; omega) (Nat.le_refl _)
  exact ⟨w', a, b, (Fr.refl _ _).grown c fun k e => by cases e⟩

set_option maxRecDepth 100000 in
set_option maxHeartbeats 1600000 in
theorem rcat_any (l m : List V) (hK : kindedL l) (hKm : kindedL m) (v v2 : Value) (w : World) (h : VL T w l v) (h' : VL T w m v2) (hl : sizeL l ≤ 1073741824) (hm : sizeL m ≤ 1073741824) : Calls Try.prog 32 #[v, v2] w (MadePost w (pCat l m)) := by
  have hll := len_le_sizeL l
  have hlm := len_le_sizeL m
  obtain ⟨W1, hmk, ho1, hf1⟩ := mk_row (l.length + m.length) (by omega) w ((l.length : Int) + m.length) (by omega)
  have hz : VC (fun q => q < w.heap.size) W1 [] [] := ⟨rfl, fun i x hx => by simp at hx⟩
  obtain ⟨v3, W2, us3, hr2, ho2, hc2, hf2, hn2, hx2⟩ := run_appendVL W1 w.heap.size _ v [] l [] _ ho1 hz (h.lt.frame hf1 fun _ _ => not_false) (fun k e hk => by have e' : some w.heap.size = some k := e; simp at e'; omega) (by simp; omega) hf1.size 22
  have hn2' : ∀ k, v3.ownBlock = some k → w.heap.size ≤ k := fun k e => (ho2.lt k e).1
  have hF2 : Fr (fun _ => False) w W2 := hf1.trans hf2 (U := fun _ => False) (fun _ _ h => h) (fun q hq e => by have e' : some q = some w.heap.size := e; simp at e'; omega)
  obtain ⟨v4, W3, us4, hr3, ho3, hc3, hf3, hn3, hx3⟩ := run_appendVL W2 w.heap.size v3 v2 l m us3 _ ho2 hc2 (h'.lt.frame hF2 fun _ _ => not_false) (fun k e hk => by have := hn2' k e; omega) (by omega) hF2.size 22
  have hF3 : Fr (fun _ => False) w W3 := hF2.trans hf3 (U := fun _ => False) (fun _ _ h => h) (fun q hq e => by have := hn2' q e.symm; omega)
  have hv3 := hc3.own ho3
  have hkd : kindedL (l ++ m) := kindedL_all fun y hy => by
    rcases List.mem_append.1 hy with hy | hy
    · exact kindedL_mem hK hy
    · exact kindedL_mem hKm hy
  have hs : sizeL (l ++ m) ≤ 2147483648 := by rw [sizeL_app]; omega
  have HP := hid (show pCat l m = pMade (l ++ m) from rfl)
  have HV := hid hv3.t; have HF := hid hF3; have HKD := hid hkd; have HS := hid hs
  obtain ⟨a3, c3, us5, rfl, -⟩ := id hv3
  obtain ⟨a, c, us, rfl, hlc, -⟩ := id h
  obtain ⟨a2, c2, us2, rfl, hmc, -⟩ := id h'
  obtain ⟨a4, c4, hve⟩ : ∃ a4 c4, v3 = .slice a4 l.length c4 := by
    rcases ho2.2 with ⟨e, h0⟩ | ⟨g, cap, cur, e, _⟩
    · exact ⟨none, 0, by rw [e, show l.length = 0 from h0]⟩
    · exact ⟨_, _, e⟩
  subst hve
  have hll2 : (l.length : Int) ≤ 1073741824 := by omega
  have hlm2 : (m.length : Int) ≤ 1073741824 := by omega
  rw [List.length_append] at hr3
  have HV' := hid (show VL T W3 (l ++ m) (.slice a3 (l.length + m.length) c3) by have := HV.out; rwa [List.length_append] at this)
  unfold MadePost
  clear hK hKm h h' hl hm hll hlm ho1 hf1 hz ho2 hc2 hf2 hn2 hx2 hn2' hF2 ho3 hc3 hf3 hn3 hx3 hF3 hv3 hkd hs HV
  go_enter Try.func32, Try.ntmps32
  go_upto_region 2 with (at_builtin; go_must (refine Lib.wpList_append_run _ rfl _ _ _ _ rfl _ _ rfl rfl _ _ hr2 ?_))
  go_wp2_with (at_builtin; go_must (refine Lib.wpList_append_run _ rfl _ _ _ _ rfl _ _ rfl rfl _ _ hr3 ?_))
  go_wp2_with fail
  refine (rmade_any _ HKD.out (by have := HS.out; omega) W3 _ HV'.out).mono ?_
  rintro e w4 ⟨v', rfl, hf4, hv4⟩
  have HF4 := hid (HF.out.trans' hf4); have HV4 := hid hv4
  clear hf4 hv4
  go_wp2_with fail
  go_ret2
  exact ⟨_, by rw [HP.out]; rfl, HF4.out, by rw [HP.out]; exact HV4.out.t⟩

set_option maxRecDepth 100000 in
set_option maxHeartbeats 1600000 in
theorem rdelete_any (l : List V) (hK : kindedL l) (v : Value) (i : Int) (w : World) (h : VL T w l v) (hl : sizeL l ≤ 1073741824) : Calls Try.prog 31 #[v, .int .i64 i] w (MadePost w (pDel l i)) := by
  have hll := len_le_sizeL l
  obtain ⟨a, c, us, rfl, hlc, hcm, -⟩ := id h
  have hI : (l.length : Int) ≤ 1073741824 := by omega
  unfold MadePost
  by_cases ht : isThere l i = true
  · obtain ⟨k, rfl, hkl⟩ := there_iff ht
    have hp : pDel l ((k : Int) + 1) = pMade (l.take k ++ l.drop (k + 1)) := by
      unfold pDel
      rw [if_pos ht, show ((k : Int) + 1 - 1).toNat = k by omega, show ((k : Int) + 1).toNat = k + 1 by omega]
    have hs : sizeL (l.take k ++ l.drop (k + 1)) ≤ 2147483648 := by
      have h1 := sizeL_drop l k
      have h2 := sizeL_drop l (k + 1)
      rw [sizeL_app]
      omega
    have hkd : kindedL (l.take k ++ l.drop (k + 1)) := kindedL_all fun y hy => by
      rcases List.mem_append.1 hy with hy | hy
      · exact kindedL_mem hK (List.mem_of_mem_take hy)
      · exact kindedL_mem hK (List.mem_of_mem_drop hy)
    have hL1 : (l.take k).length = k := by simp; omega
    have hL2 : (l.drop (k + 1)).length = l.length - (k + 1) := by simp
    have hd := (Fr.refl (fun _ => False) w).drew
    obtain ⟨W1, hmk, ho1, hf1'⟩ := mk_row l.length (by omega) w.drew (l.length : Int) rfl
    have hf1 := hd.trans' hf1'
    have hz : VC (fun q => q < w.heap.size) W1 [] [] := ⟨rfl, fun i x hx => by simp at hx⟩
    have hv0 := h.lt.frame hf1 fun _ _ => not_false
    obtain ⟨v3, W2, us3, hr2, ho2, hc2, hf2, hn2, -⟩ := run_appendVL W1 w.heap.size _ _ [] (l.take k) [] _ ho1 hz (hv0.upto k (by omega)) (fun q e hq => by have e' : some w.heap.size = some q := e; simp at e'; omega) (by simp; omega) hf1.size 22
    have hn2' : ∀ q, v3.ownBlock = some q → w.heap.size ≤ q := fun q e => (ho2.lt q e).1
    have hF2 : Fr (fun _ => False) w W2 := hf1.trans hf2 (U := fun _ => False) (fun _ _ h => h) (fun q hq e => by have e' : some q = some w.heap.size := e; simp at e'; omega)
    obtain ⟨v4, W3, us4, hr3, ho3, hc3, hf3, hn3, -⟩ := run_appendVL W2 w.heap.size v3 _ (l.take k) (l.drop (k + 1)) us3 _ ho2 hc2 ((h.lt.frame hF2 fun _ _ => not_false).rest (k + 1) (by omega)) (fun q e hq => by have := hn2' q e; omega) (by simp; omega) hF2.size 22
    have hF3 : Fr (fun _ => False) w W3 := hF2.trans hf3 (U := fun _ => False) (fun _ _ h => h) (fun q hq e => by have := hn2' q e.symm; omega)
    have hv3 := hc3.own ho3
    obtain ⟨a3, c3, us5, rfl, -⟩ := id hv3
    obtain ⟨a4, c4, hve⟩ : ∃ a4 c4, v3 = .slice a4 k c4 := by
      rcases ho2.2 with ⟨e, h0⟩ | ⟨g, cap, cur, e, _⟩
      · exact ⟨none, 0, by rw [e, show k = 0 from by simp [hL1] at h0; omega]⟩
      · exact ⟨some ⟨g, 0, none⟩, cap, by rw [e, List.nil_append, hL1]⟩
    subst hve
    have hLL : (l.take k ++ l.drop (k + 1)).length = l.length - 1 := by rw [List.length_append, hL1, hL2]; omega
    rw [hLL] at hr3 hv3
    have HP := hid hp; have HS := hid hs; have HKD := hid hkd; have HV := hid hv3.t; have HF := hid hF3
    have hk1 : k ≤ l.length := by omega
    have hk2 : k + 1 ≤ l.length := by omega
    have hk3 : k + 1 ≤ c := by omega
    have hk4 : k ≤ c := by omega
    have hk5 : ¬ (k : Int) + 1 < 0 := by omega
    have hk6 : ((k : Int) + 1).toNat = k + 1 := by omega
    have hk7 : (k : Int) + 1 ≤ l.length := by omega
    have hk8 : ¬ (k : Int) + 1 < 1 := by omega
    have hk9 : ¬ (l.length : Int) < (k : Int) + 1 := by omega
    clear hp hs h ht hl hll hkd hL1 hL2 hd ho1 hf1' hf1 hz hv0 ho2 hc2 hf2 hn2 hn2' hF2 ho3 hc3 hf3 hn3 hF3 hv3 hLL hK
    go_enter Try.func31, Try.ntmps31
    go_upto_region 3 with fail
    have hw : IntKind.i64.wrap (k : Int) = k := IntWalk.i64_in _ (by omega)
    refine wp_region_ord [(0, 0), (1, 0), (3, 0), (4, 0), (5, 0), (6, 0), (2, 1), (7, 1), (8, 1)] (fun _ => True) (by kernel_rfl) (by kernel_rfl) (by kernel_rfl) rfl (fun _ _ d _ _ h => by cases d <;> exact h) trivial ?_
    iterate 6 (refine wpO_take ?_ rfl (by kernel_rfl) ?_ ?_; rotate_left; (· intro w' hS; go_simp; try with_reducible rfl); try simp only [Act.put, List.setIfInBounds_toArray, List.set_cons_zero, List.set_cons_succ])
    (refine wpO_run rfl (by kernel_rfl) (fun K hK => ?_); go_simp; refine hK _ _ (fun _ => trivial) ?_; clear hK K; try simp only [Act.put, List.setIfInBounds_toArray, List.set_cons_zero, List.set_cons_succ])
    refine wpO_run rfl (by kernel_rfl) (fun K hK => ?_)
    refine Lib.wp_append_run _ (.tmp 17) (.tmp 21) 22 22 rfl _ _ rfl rfl _ _ hr2 ?_
    refine hK _ _ (fun _ => trivial) ?_
    clear hK K
    try simp only [Act.put, List.setIfInBounds_toArray, List.set_cons_zero, List.set_cons_succ]
    (refine wpO_run rfl (by kernel_rfl) (fun K hK => ?_); go_simp; refine hK _ _ (fun _ => trivial) ?_; clear hK K; try simp only [Act.put, List.setIfInBounds_toArray, List.set_cons_zero, List.set_cons_succ])
    refine wpO_end ?_
    go_wp2_with (at_builtin; go_must (refine Lib.wpList_append_run _ rfl _ _ _ _ rfl _ _ rfl rfl _ _ hr3 ?_))
    all_goals
      refine (rmade_any _ HKD.out (by have := HS.out; omega) W3 _ HV.out).mono ?_
      rintro e w4 ⟨v', rfl, hf4, hv4⟩
      have HF4 := hid (HF.out.trans' hf4); have HV4 := hid hv4
      clear hf4 hv4
      go_wp2_with fail
      go_ret2
      exact ⟨_, by rw [HP.out]; rfl, HF4.out, by rw [HP.out]; exact HV4.out.t⟩
  · have hp : pDel l i = ([], 10) := by unfold pDel; rw [if_neg ht]
    have hcase : i < 1 ∨ (1 ≤ i ∧ (l.length : Int) < i) := by
      unfold isThere at ht
      simp at ht
      omega
    have HP := hid hp
    clear hp ht h hl hll
    rcases hcase with h1 | ⟨h1, h2⟩
    all_goals
      go_enter Try.func31, Try.ntmps31
      go_wp2_with fail
      go_ret2
      exact ⟨_, by rw [HP.out]; rfl, Fr.refl _ _, by rw [HP.out]; exact VL.nil _ _⟩

set_option maxRecDepth 100000 in
set_option maxHeartbeats 3200000 in
theorem rinsert_any (l : List V) (hK : kindedL l) (x : V) (hKx : x.kinded) (v : Value) (u : Array Value) (i : Int) (w0 : World) (h0 : VL T w0 l v) (hx0 : VIn T w0 x u) (hl : sizeL l ≤ 1073741824) (hxs : x.size ≤ 1073741824) : Calls Try.prog 30 #[v, .agg u, .int .i64 i] w0 (MadePost w0 (pIns l x i)) := by
  have hll := len_le_sizeL l
  obtain ⟨v9, rfl, a9, c9, us9, rfl, -⟩ := hx0.open
  obtain ⟨a, c, us, rfl, hlc, hcm, -⟩ := id h0
  have hf0 := (Fr.refl (fun _ => False) w0).alloc (.cells #[.int .i64 x.k, .int .i64 x.n, .string x.s, .slice a9 x.l.length c9] 30)
  have hr0 := heap_alloc_new w0 (.cells #[.int .i64 x.k, .int .i64 x.n, .string x.s, .slice a9 x.l.length c9] 30)
  have h := h0.fr hf0
  have hx := hx0.fr hf0
  have HF0 := hid hf0; have HR0 := hid hr0
  clear hf0 h0 hx0
  obtain ⟨w, hw⟩ : ∃ w, w0.alloc (.cells #[.int .i64 x.k, .int .i64 x.n, .string x.s, .slice a9 x.l.length c9] 30) = w := ⟨_, rfl⟩
  have HW := hid hw
  rw [hw] at HF0 HR0 h hx hr0
  have hB := heap_lt hr0
  have hI : (l.length : Int) ≤ 1073741824 := by omega
  obtain ⟨k, hk⟩ : ∃ k, pAt l i = k := ⟨_, rfl⟩
  have hkl : k ≤ l.length := by unfold pAt at hk; omega
  have hkc : k ≤ c := by omega
  have hp : pIns l x i = pMade (l.take k ++ x :: l.drop k) := by unfold pIns; rw [hk]
  have hs : sizeL (l.take k ++ x :: l.drop k) ≤ 4294967296 := by
    have := sizeL_drop l k
    rw [sizeL_app, sizeL]
    omega
  have hkd : kindedL (l.take k ++ x :: l.drop k) := kindedL_all fun y hy => by
    rcases List.mem_append.1 hy with hy | hy
    · exact kindedL_mem hK (List.mem_of_mem_take hy)
    · rcases List.mem_cons.1 hy with rfl | hy
      · exact hKx
      · exact kindedL_mem hK (List.mem_of_mem_drop hy)
  unfold pAt at hk
  have HP := hid hp; have HS := hid hs; have HK := hid hk; have HKD := hid hkd
  have hL1 : (l.take k).length = k := by simp; omega
  have hL2 : (l.drop k).length = l.length - k := by simp
  have hd := (Fr.refl (fun _ => False) w).drew
  obtain ⟨W1, hmk, ho1, hf1'⟩ := mk_row (l.length + 1) (by omega) w.drew ((l.length : Int) + 1) (by omega)
  have hf1 := hd.trans' hf1'
  have hz : VC (fun q => q < w.heap.size) W1 [] [] := ⟨rfl, fun i x hx => by simp at hx⟩
  obtain ⟨v3, W2, us3, hr2, ho2, hc2, hf2, hn2, -⟩ := run_appendVL W1 w.heap.size _ _ [] (l.take k) [] _ ho1 hz ((h.lt.frame hf1 fun _ _ => not_false).upto k hkl) (fun q e hq => by have e' : some w.heap.size = some q := e; simp at e'; omega) (by simp; omega) hf1.size 22
  have hn2' : ∀ q, v3.ownBlock = some q → w.heap.size ≤ q ∧ q < W2.heap.size := fun q e => ho2.lt q e
  have hF2 : Fr (fun _ => False) w W2 := hf1.trans hf2 (U := fun _ => False) (fun _ _ h => h) (fun q hq e => by have e' : some q = some w.heap.size := e; simp at e'; omega)
  have hfa := (Fr.refl (fun _ => False) W2).alloc (.cells #[.int .i64 x.k, .int .i64 x.n, .string x.s, .slice a9 x.l.length c9] 30)
  have hra := heap_alloc_new W2 (.cells #[.int .i64 x.k, .int .i64 x.n, .string x.s, .slice a9 x.l.length c9] 30)
  have hF2a := hF2.trans' hfa
  obtain ⟨v4, W3, us4, hr3, ho3, hc3, hf3, hn3, -⟩ := run_appendVL (W2.alloc (.cells #[.int .i64 x.k, .int .i64 x.n, .string x.s, .slice a9 x.l.length c9] 30)) w.heap.size v3 _ (l.take k) [x] us3 (fun q => q < w.heap.size ∨ q = W2.heap.size) (hfa.own ho2 fun _ _ => not_false) ((hc2.frame hfa fun _ _ => not_false).mono fun q _ hq => .inl hq) (VL.lit ((hx.lt.frame hF2a fun _ _ => not_false).mono fun q _ hq => .inl hq) hra (.inr rfl)) (fun q e hq => by have := hn2' q e; omega) (by simp; omega) hF2a.size 22
  have hF3 : Fr (fun _ => False) w W3 := hF2a.trans hf3 (U := fun _ => False) (fun _ _ h => h) (fun q hq e => by have := hn2' q e.symm; omega)
  have hn3' : ∀ q, v4.ownBlock = some q → w.heap.size ≤ q ∧ q ≠ W2.heap.size := fun q e => ⟨(ho3.lt q e).1, by
    rcases hn3 q e with e2 | e2
    · have := hn2' q e2; omega
    · have : (W2.alloc (.cells #[.int .i64 x.k, .int .i64 x.n, .string x.s, .slice a9 x.l.length c9] 30)).heap.size = W2.heap.size + 1 := by simp
      omega⟩
  obtain ⟨v5, W4, us5, hr4, ho4, hc4, hf4, hn4, -⟩ := run_appendVL W3 w.heap.size v4 _ (l.take k ++ [x]) (l.drop k) us4 (fun q => q < w.heap.size ∨ q = W2.heap.size) ho3 hc3 (((h.lt.frame hF3 fun _ _ => not_false).rest k hkl).mono fun q _ hq => .inl hq) (fun q e hq => by have := hn3' q e; omega) (by simp; omega) hF3.size 22
  have hF4 : Fr (fun _ => False) w W4 := hF3.trans hf4 (U := fun _ => False) (fun _ _ h => h) (fun q hq e => by have := hn3' q e.symm; omega)
  have hv4 := hc4.own ho4
  rw [show l.take k ++ [x] ++ l.drop k = l.take k ++ x :: l.drop k by simp] at hv4
  obtain ⟨a3, c3, us6, rfl, -⟩ := id hv4
  obtain ⟨a4, c4, hve⟩ : ∃ a4 c4, v3 = .slice a4 k c4 := by
    rcases ho2.2 with ⟨e, h0⟩ | ⟨g, cap, cur, e, _⟩
    · exact ⟨none, 0, by rw [e, show k = 0 from by simp [hL1] at h0; omega]⟩
    · exact ⟨some ⟨g, 0, none⟩, cap, by rw [e, List.nil_append, hL1]⟩
  obtain ⟨a5, c5, hve'⟩ : ∃ a5 c5, v4 = .slice a5 (k + 1) c5 := by
    rcases ho3.2 with ⟨e, h0⟩ | ⟨g, cap, cur, e, _⟩
    · simp at h0
    · exact ⟨some ⟨g, 0, none⟩, cap, by rw [e, List.length_append, hL1]; rfl⟩
  subst hve hve'
  have hLL : (l.take k ++ x :: l.drop k).length = l.length + 1 := by rw [List.length_append, List.length_cons, hL1, hL2]; omega
  rw [hLL] at hr4 hv4
  have y0 : W2.cell? ⟨w0.heap.size, 0, none⟩ = some (.int .i64 x.k) := hF2.cell (by rw [cell_of_row _ _ 0 _ _ _ hr0]; rfl) not_false
  have y1 : W2.cell? ⟨w0.heap.size, 1, none⟩ = some (.int .i64 x.n) := hF2.cell (by rw [cell_of_row _ _ 1 _ _ _ hr0]; rfl) not_false
  have y2 : W2.cell? ⟨w0.heap.size, 2, none⟩ = some (.string x.s) := hF2.cell (by rw [cell_of_row _ _ 2 _ _ _ hr0]; rfl) not_false
  have y3 : W2.cell? ⟨w0.heap.size, 3, none⟩ = some (.slice a9 x.l.length c9) := hF2.cell (by rw [cell_of_row _ _ 3 _ _ _ hr0]; rfl) not_false
  have HV := hid hv4.t; have HF := hid (HF0.out.trans' hF4)
  have HR2 := hid hr2; have HR3 := hid hr3; have HR4 := hid hr4; have HMK := hid hmk
  have HY0 := hid y0; have HY1 := hid y1; have HY2 := hid y2; have HY3 := hid y3
  unfold MadePost
  clear hk hp hs hkd hK hKx hl hxs hll h hx hL1 hL2 hd ho1 hf1' hf1 hz ho2 hc2 hf2 hn2 hn2' hF2 ho3 hc3 hf3 hn3 hn3' hF3 hv4 hLL hF2a hfa hra ho4 hc4 hf4 hn4 hF4 hr2 hr3 hr4 hmk y0 y1 y2 y3 hr0 hw HR0
  go_enter Try.func30, Try.ntmps30
  go_upto_if 13 with fail
  go_cut [8] from 10 to 19 (fun c wx => c = .int .i64 k ∧ (w0.alloc (.cells #[.int .i64 x.k, .int .i64 x.n, .string x.s, .slice a9 x.l.length c9] 30)) = wx)
  case first =>
    have hcase : (i < 1 ∧ Hid (k = 0)) ∨ (1 ≤ i ∧ i ≤ l.length ∧ Hid ((k : Int) = i - 1)) ∨ ((l.length : Int) < i ∧ Hid (k = l.length)) := by
      have := HK.out
      by_cases h1 : i < 1
      · exact .inl ⟨h1, hid (by omega)⟩
      · by_cases h2 : i ≤ l.length
        · exact .inr (.inl ⟨by omega, h2, hid (by rw [Int.min_eq_left (by omega)] at this; omega)⟩)
        · exact .inr (.inr ⟨by omega, hid (by rw [Int.min_eq_right (by omega)] at this; omega)⟩)
    rcases hcase with ⟨h1, HZ⟩ | ⟨h1, h2, HZ⟩ | ⟨h1, HZ⟩
    · have h2 : ¬ (l.length : Int) < i := by omega
      have h3 : ¬ (1 : Int) ≤ i := by omega
      go_wp2_with fail
      all_goals
        have hz := HZ.out
        go_meet
        exact ⟨int_eq (by omega), rfl⟩
    · have h2 : ¬ (l.length : Int) < i := by omega
      go_wp2_with fail
      all_goals
        have hz := HZ.out
        go_meet
        exact ⟨int_eq (by omega), rfl⟩
    · go_wp2_with fail
      all_goals
        have hz := HZ.out
        go_meet
        exact ⟨int_eq (by omega), rfl⟩
  case rest =>
  obtain ⟨rfl, rfl⟩ := hcut
  clear HK
  have hw := HW.out
  generalize (w0.alloc (.cells #[.int .i64 x.k, .int .i64 x.n, .string x.s, .slice a9 x.l.length c9] 30)) = w' at *
  subst hw
  clear HW
  go_upto_region 6 with fail
  have hmk := HMK.out
  have hwr : IntKind.i64.wrap ((l.length : Int) + 1) = (l.length : Int) + 1 := IntWalk.i64_in _ (by omega)
  refine wp_region_ord [(0, 0), (1, 0), (2, 0), (4, 0), (5, 0), (6, 0), (3, 1), (7, 1), (8, 1)] (fun _ => True) (by kernel_rfl) (by kernel_rfl) (by kernel_rfl) rfl (fun _ _ d _ _ h => by cases d <;> exact h) trivial ?_
  iterate 6 (refine wpO_take ?_ rfl (by kernel_rfl) ?_ ?_; rotate_left; (· intro w' hS; go_simp; try with_reducible rfl); try simp only [Act.put, List.setIfInBounds_toArray, List.set_cons_zero, List.set_cons_succ])
  (refine wpO_run rfl (by kernel_rfl) (fun K hK => ?_); go_simp; refine hK _ _ (fun _ => trivial) ?_; clear hK K; try simp only [Act.put, List.setIfInBounds_toArray, List.set_cons_zero, List.set_cons_succ])
  refine wpO_run rfl (by kernel_rfl) (fun K hK => ?_)
  refine Lib.wp_append_run _ (.tmp 23) (.tmp 26) 22 22 rfl _ _ rfl rfl _ _ HR2.out ?_
  refine hK _ _ (fun _ => trivial) ?_
  clear hK K hmk
  try simp only [Act.put, List.setIfInBounds_toArray, List.set_cons_zero, List.set_cons_succ]
  (refine wpO_run rfl (by kernel_rfl) (fun K hK => ?_); go_simp; refine hK _ _ (fun _ => trivial) ?_; clear hK K; try simp only [Act.put, List.setIfInBounds_toArray, List.set_cons_zero, List.set_cons_succ])
  refine wpO_end ?_
  have y0 := HY0.out
  have y1 := HY1.out
  have y2 := HY2.out
  have y3 := HY3.out
  go_upto_region 8 with (at_builtin; go_must (refine Lib.wpList_append_run _ rfl _ _ _ _ rfl _ _ rfl rfl _ _ HR3.out ?_))
  clear y0 y1 y2 y3
  go_wp2_with (at_builtin; go_must (refine Lib.wpList_append_run _ rfl _ _ _ _ rfl _ _ rfl rfl _ _ HR4.out ?_))
  all_goals
    refine (rmade_any _ HKD.out (by have := HS.out; omega) _ _ HV.out).mono ?_
    rintro e w4 ⟨v', rfl, hf4, hv4⟩
    have HF4 := hid (HF.out.trans' hf4); have HV4 := hid hv4
    clear hf4 hv4
    go_wp2_with fail
    go_ret2
    exact ⟨_, by rw [HP.out]; rfl, HF4.out, by rw [HP.out]; exact HV4.out.t⟩
end Go.Proofs.Ytebanmigaikhhaa
