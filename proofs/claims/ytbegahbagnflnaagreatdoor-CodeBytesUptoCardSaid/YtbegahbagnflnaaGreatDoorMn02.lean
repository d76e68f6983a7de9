import Derived.Test.YtbegahbagnflnaaGreatDoorMn01
set_option linter.unusedSimpArgs false
set_option linter.unusedVariables false
set_option linter.unnecessarySimpa false
namespace Go.Proofs.YtbegahbagnflnaaGreatDoor
section
open Go.RowKit
variable {W V w w' : World} {X C : Nat} {sv : Value} {m : MS}
theorem Tryz.info_instr : (Tryz.prog.info? 93).map (fun i => (i.zero, i.size, i.bytes)) = some (some (.agg #[.int .i64 0, .int .i64 0, .int .i64 0, .string ⟨#[]⟩, .int .i64 0, .int .i64 0, .string ⟨#[]⟩, .slice none 0 0]), 8, 96) := by kernel_rfl
theorem Tryz.info_int : (Tryz.prog.info? 3).map (fun i => (i.zero, i.size, i.bytes)) = some (some (.int .i64 0), 1, 8) := by kernel_rfl
set_option maxRecDepth 100000 in
set_option maxHeartbeats 6400000 in
theorem put_any (h : MW W V w X C sv m) (op a b : Int) (s : ByteArray) (v0 v1 v2 v3 : Value) (hone : v0.oneCell' = true ∧ v1.oneCell' = true ∧ v2.oneCell' = true ∧ v3.oneCell' = true) (hL : m.L.length ≤ 1073741824) :
  Calls Tryz.prog 51 #[.pointer (some ⟨X, 0, none⟩), .agg #[.int .i64 op, .int .i64 a, .int .i64 b, .string s, v0, v1, v2, v3]] w fun e w' => e = .returned (.int .i64 (m.L.length : Int)) ∧ MW W V w' X C sv ⟨m.L ++ [⟨op, a, b, s, m.ln⟩], m.nb, m.ln⟩ := by
 obtain ⟨us, hus⟩ : ∃ us : Array Value, us = #[.int .i64 op, .int .i64 a, .int .i64 b, .string s, v0, v1, v2, v3] := ⟨_, rfl⟩
 have hF := (Fr.refl (fun _ => False) w).alloc (.cells us 93)
 have hr := heap_alloc_new w (.cells us 93)
 have hone2 : ∀ y ∈ us.toList, y.oneCell' = true := by
  subst hus
  intro y hy
  simp only [List.mem_cons, List.not_mem_nil, or_false] at hy
  rcases hy with rfl | rfl | rfl | rfl | rfl | rfl | rfl | rfl
  ·rfl
  ·rfl
  ·rfl
  ·rfl
  ·exact hone.1
  ·exact hone.2.1
  ·exact hone.2.2.1
  ·exact hone.2.2.2
 have htl : ∀ t, 4 ≤ t → t < 8 → ∃ u, us.toList[t]? = some u ∧ u.oneCell' = true := by
  subst hus
  intro t h4 h8
  have : t = 4 ∨ t = 5 ∨ t = 6 ∨ t = 7 := by omega
  rcases this with rfl | rfl | rfl | rfl
  ·exact ⟨_, rfl, hone.1⟩
  ·exact ⟨_, rfl, hone.2.1⟩
  ·exact ⟨_, rfl, hone.2.2.1⟩
  ·exact ⟨_, rfl, hone.2.2.2⟩
 have HTL := hid htl
 clear htl
 have h1 := h.fr hF
 obtain ⟨lv, nv, bv, xs, zs, hc, ho1, hins, ho2, ho3⟩ := h1.hC
 have hBl : ¬ some w.heap.size = lv.ownBlock := fun e => by
  obtain ⟨lv', nv', bv', xs', zs', hc', ho', -⟩ := h.hC
  have : lv' = lv := by
   have := hF.heap hc' not_false
   rw [hc] at this
   simp at this
   exact this.1.symm
  subst this
  have := (ho'.lt _ e.symm).2
  omega
 have hw0 : W.heap.size ≤ w.heap.size := h.f.size
 have H1 := hid h1; have HR := hid hr; have HONE := hid hone2; have HC := hid hc; have HO1 := hid ho1; have HINS := hid hins; have HO2 := hid ho2; have HO3 := hid ho3; have HBL := hid hBl; have HLL := hid hL; have HUS := hid hus; have HW0 := hid hw0; have HF := hid hF
 clear h h1 hF hr hone hone2 hc ho1 hins ho2 ho3 hBl hL hw0
 have hln : us.toList.length = 8 := by rw [hus]; rfl
 have hln2 := hid hln
 go_enter Tryz.func51, Tryz.ntmps51
 go_upto_region 1 with fail
 rw [← HUS.out]
 clear hus hln
 obtain ⟨B, hB⟩ : ∃ B, w.heap.size = B := ⟨_, rfl⟩
 have HBB := hid hB
 rw [hB] at HR HBL ⊢
 clear hB
 generalize w.alloc (.cells us 93) = W1 at *
 have hX := H1.out.hX
 have x0 : W1.cell? ⟨X, 0, none⟩ = some (.pointer (some ⟨C, 0, none⟩)) := H1.out.cells.1
 have c0 : W1.cell? ⟨C, 0, none⟩ = some lv := by rw [cell_of_row _ _ _ _ _ _ HC.out]; rfl
 have hXl : ¬ some X = lv.ownBlock := fun e => own_ne_cells HO1.out hX (by decide) X e.symm rfl
 have hCl : ¬ some C = lv.ownBlock := fun e => own_ne_cells HO1.out HC.out (by decide) C e.symm rfl
 have X0 := hid x0; have C0 := hid c0; have HXL := hid hXl; have HCL := hid hCl; have HX := hid hX
 clear x0 c0 hXl hCl hX
 have hb : ∀ W' : World, W'.heap[B]? = some (.cells us 93 (0, 0)) → W'.cell? ⟨B, 0, none⟩ = some (.int .i64 op) ∧ W'.cell? ⟨B, 1, none⟩ = some (.int .i64 a) ∧ W'.cell? ⟨B, 2, none⟩ = some (.int .i64 b) ∧ W'.cell? ⟨B, 3, none⟩ = some (.string s) ∧ W'.cell? ⟨B, 4, none⟩ = some v0 ∧ W'.cell? ⟨B, 5, none⟩ = some v1 ∧ W'.cell? ⟨B, 6, none⟩ = some v2 ∧ W'.cell? ⟨B, 7, none⟩ = some v3 := fun W' hW => by
  rw [HUS.out] at hW
  refine ⟨?_, ?_, ?_, ?_, ?_, ?_, ?_, ?_⟩
  all_goals (rw [cell_of_row _ _ _ _ _ _ hW]; rfl)
 have HBC := hid hb
 clear hb
 refine wp_region_ord [(0, 0), (1, 0), (2, 0), (3, 0), (4, 0), (5, 0), (6, 0), (7, 0), (8, 0), (9, 0), (10, 0), (11, 0), (12, 1), (13, 1), (14, 1), (15, 1), (16, 1)] (fun w' => Fr (fun k => some k = lv.ownBlock) W1 w') (by kernel_rfl) (by kernel_rfl) (by kernel_rfl) rfl (fun _ _ d _ _ h => by cases d <;> exact h) (Fr.refl _ _).drew ?_
 iterate 3 (refine wpO_take ?_ rfl (by kernel_rfl) ?_ ?_; rotate_left; (· intro w' hS; go_simp; try with_reducible rfl); try simp only [Act.put, List.setIfInBounds_toArray, List.set_cons_zero, List.set_cons_succ])
 (refine wpO_take ?_ rfl (by kernel_rfl) ?_ ?_; rotate_left; (· intro w' hS; have d1 := hS.cell X0.out HXL.out; go_simp; try with_reducible rfl); try simp only [Act.put, List.setIfInBounds_toArray, List.set_cons_zero, List.set_cons_succ])
 iterate 3 (refine wpO_take ?_ rfl (by kernel_rfl) ?_ ?_; rotate_left; (· intro w' hS; go_simp; try with_reducible rfl); try simp only [Act.put, List.setIfInBounds_toArray, List.set_cons_zero, List.set_cons_succ])
 (refine wpO_take ?_ rfl (by kernel_rfl) ?_ ?_; rotate_left; (· intro w' hS; have d1 := hS.cell X0.out HXL.out; go_simp; try with_reducible rfl); try simp only [Act.put, List.setIfInBounds_toArray, List.set_cons_zero, List.set_cons_succ])
 iterate 2 (refine wpO_take ?_ rfl (by kernel_rfl) ?_ ?_; rotate_left; (· intro w' hS; go_simp; try with_reducible rfl); try simp only [Act.put, List.setIfInBounds_toArray, List.set_cons_zero, List.set_cons_succ])
 (refine wpO_take ?_ rfl (by kernel_rfl) ?_ ?_; rotate_left; (· intro w' hS; have d1 := hS.cell C0.out HCL.out; go_simp; try with_reducible rfl); try simp only [Act.put, List.setIfInBounds_toArray, List.set_cons_zero, List.set_cons_succ])
 (refine wpO_take ?_ rfl (by kernel_rfl) ?_ ?_; rotate_left; (· intro w' hS; obtain ⟨d0, d1, d2, d3, d4, d5, d6, d7⟩ := HBC.out w' (hS.heap HR.out HBL.out); go_simp; try with_reducible rfl); try simp only [Act.put, List.setIfInBounds_toArray, List.set_cons_zero, List.set_cons_succ])
 have hfa := (Fr.refl (fun _ => False) W1).drew.alloc (.cells us 93)
 have hcn2 := cells_newQ W1.drew us 93 (0, 0)
 have hba : W.heap.size ≤ (W1.drew.alloc (.cells us 93)).heap.size := by have := hfa.size; have := H1.out.f.size; omega
 refine wpO_run rfl (by kernel_rfl) (fun K hK => ?_); go_simp
 rw [← HUS.out]
 refine hK _ _ (fun _ => hfa.mono fun _ _ h => h.elim) ?_
 clear hK K
 try simp only [Act.put, List.setIfInBounds_toArray, List.set_cons_zero, List.set_cons_succ]
 refine wpO_run rfl (by kernel_rfl) (fun K hK => ?_)
 refine wp_appendQ (.tmp 15) (.tmp 17) 63 rfl 93 (.agg #[.int .i64 0, .int .i64 0, .int .i64 0, .string ⟨#[]⟩, .int .i64 0, .int .i64 0, .string ⟨#[]⟩, .slice none 0 0]) 8 96 Tryz.underlying63 Tryz.info_instr rfl (by decide) lv rfl W.heap.size m.L.length xs (hfa.own HO1.out fun _ _ => not_false) W1.drew.heap.size 1 us.toList (by rw [HUS.out]; rfl) rfl hcn2 HONE.out (by have := HLL.out; omega) (by decide) hba ?_
 intro g cap w4 ho4 hf4 hg4
 have hc4 := hf4.heap (hfa.heap HC.out not_false) HCL.out
 have hx4 := hf4.heap (hfa.heap HX.out not_false) HXL.out
 have f3 : w4.frozen? ⟨C, 0, none⟩ = false := frozen_of_row _ _ _ _ _ hc4
 refine hK _ _ (fun _ => (hfa.mono fun _ _ h => h.elim).trans' hf4) ?_
 clear hK K
 try simp only [Act.put, List.setIfInBounds_toArray, List.set_cons_zero, List.set_cons_succ]
 have hF4 : Fr (fun k => some k = lv.ownBlock) W1 w4 := (hfa.mono fun _ _ h => h.elim).trans' hf4
 have ho2 := hF4.own HO2.out (own_ne HO2.out HO1.out (by decide))
 have ho3 := hF4.own HO3.out (own_ne HO3.out HO1.out (by decide))
 have c4 : w4.cell? ⟨C, 0, none⟩ = some lv := by rw [cell_of_row _ _ _ _ _ _ hc4]; rfl
 have HX4 := hid hx4; have HC4 := hid hc4; have HP1 := hid ho4; have HP2 := hid ho2; have HP3 := hid ho3
 have hfz : Fr (fun _ => False) W w4 := by
  refine H1.out.f.trans (U := fun _ => False) hF4 (fun _ _ h => h) (fun k hk e => ?_)
  have := (HO1.out.lt _ e.symm).1
  omega
 have hkp := H1.out.kp.step hF4 (node_ne_own HO1.out (by decide))
 have hik := H1.out.ik.step hF4 (fun k cs fz h _ => int_ne_own HO1.out (by decide) k cs fz h) (fun k hk hn => hn.same (by rw [hc4, HC.out]))
 have HFZ := hid hfz; have HKP := hid hkp; have HIK := hid hik
 clear hik
 clear hkp ho4 hf4 hg4 hx4 hc4 hfa hcn2 hba hF4 ho2 ho3 hfz
 iterate 2
  refine wpO_run rfl (by kernel_rfl) (fun K hK => ?_)
  go_simp
  refine hK _ _ (last_skip (by kernel_rfl)) ?_
  clear hK K
  try simp only [Act.put, List.setIfInBounds_toArray, List.set_cons_zero, List.set_cons_succ]
 refine wpO_run rfl (by kernel_rfl) (fun K hK => ?_)
 go_simp
 refine hK _ _ (last_skip (by kernel_rfl)) ?_
 clear hK K
 try simp only [Act.put, List.setIfInBounds_toArray, List.set_cons_zero, List.set_cons_succ]
 refine wpO_end ?_
 obtain ⟨lv2, hlv⟩ : ∃ v, v = Value.slice (some ⟨g, 0, none⟩) (m.L.length + 1) cap := ⟨_, rfl⟩
 have HLV := hid hlv
 rw [← hlv] at HP1 ⊢
 clear hlv f3 c4
 have hc5 := setCell_row 0 lv2 HC4.out
 simp only [List.setIfInBounds_toArray, List.set_cons_zero, List.set_cons_succ] at hc5
 have hs5 : Fr (fun k => k = C) w4 (w4.setCell ⟨C, 0, none⟩ lv2) := Fr.setCell (S := fun k => k = C) (Fr.refl _ _) (p := ⟨C, 0, none⟩) (.inl rfl) _
 have hXC : ¬ X = C := fun e => by
  have h1 := HX4.out
  rw [e, HC4.out] at h1
  simp only [Option.some.injEq, Obj.cells.injEq] at h1
  exact absurd h1.2.1 (by decide)
 have hx5 := hs5.heap HX4.out hXC
 have hp1 := hs5.own HP1.out (own_ne_cells HP1.out HC4.out (by decide))
 have hp2 := hs5.own HP2.out (own_ne_cells HP2.out HC4.out (by decide))
 have hp3 := hs5.own HP3.out (own_ne_cells HP3.out HC4.out (by decide))
 have hloC := H1.out.lo.2
 have hf5 : Fr (fun _ => False) W (w4.setCell ⟨C, 0, none⟩ lv2) := HFZ.out.trans (U := fun _ => False) hs5 (fun _ _ h => h) (fun k hk e => by omega)
 have hkp := HKP.out.step hs5 (node_ne_cells HC4.out (by decide))
 have HIQ := hid (HIK.out.step hs5 (fun k cs fz h _ => int_ne_cells HC4.out (by decide) k cs fz h) (fun k hk hn => (NvB.of HC4.out).2 ((NvB.of hc5).1 hn)))
 have HX5 := hid hx5; have HC5 := hid hc5; have HF5 := hid hf5; have HKQ := hid hkp
 have HQ1 := hid hp1; have HQ2 := hid hp2; have HQ3 := hid hp3; have HXC := hid hXC; have HLO := hid hloC
 clear hkp HKP HIK hc5 hs5 hx5 hp1 hp2 hp3 hf5 HP1 HP2 HP3 HX4 HC4 HFZ hXC hloC HO1 HO2 HO3 HXL HCL HX HC X0 C0
 go_upto_region 2 with fail
 generalize w4.setCell ⟨C, 0, none⟩ lv2 = w5 at *
 have x0 : w5.cell? ⟨X, 0, none⟩ = some (.pointer (some ⟨C, 0, none⟩)) := by rw [cell_of_row _ _ _ _ _ _ HX5.out]; rfl
 have x1 : w5.cell? ⟨X, 1, none⟩ = some (.int .i64 m.ln) := by rw [cell_of_row _ _ _ _ _ _ HX5.out]; rfl
 have c1 : w5.cell? ⟨C, 1, none⟩ = some nv := by rw [cell_of_row _ _ _ _ _ _ HC5.out]; rfl
 have hXn : ¬ some X = nv.ownBlock := fun e => own_ne_cells HQ2.out HX5.out (by decide) X e.symm rfl
 have hCn : ¬ some C = nv.ownBlock := fun e => own_ne_cells HQ2.out HC5.out (by decide) C e.symm rfl
 have X0 := hid x0; have X1 := hid x1; have C1 := hid c1; have HXN := hid hXn; have HCN := hid hCn
 clear x0 x1 c1 hXn hCn
 refine wp_region_ord [(0, 0), (1, 0), (2, 0), (3, 0), (4, 0), (5, 0), (6, 0), (7, 0), (8, 0), (9, 0), (10, 0), (11, 0), (12, 0), (13, 0), (14, 0), (15, 1), (16, 1), (17, 1), (18, 1), (19, 1)] (fun w' => Fr (fun k => some k = nv.ownBlock) w5 w') (by kernel_rfl) (by kernel_rfl) (by kernel_rfl) rfl (fun _ _ d _ _ h => by cases d <;> exact h) (Fr.refl _ _).drew ?_
 iterate 3 (refine wpO_take ?_ rfl (by kernel_rfl) ?_ ?_; rotate_left; (· intro w' hS; go_simp; try with_reducible rfl); try simp only [Act.put, List.setIfInBounds_toArray, List.set_cons_zero, List.set_cons_succ])
 (refine wpO_take ?_ rfl (by kernel_rfl) ?_ ?_; rotate_left; (· intro w' hS; have d1 := hS.cell X0.out HXN.out; go_simp; try with_reducible rfl); try simp only [Act.put, List.setIfInBounds_toArray, List.set_cons_zero, List.set_cons_succ])
 iterate 3 (refine wpO_take ?_ rfl (by kernel_rfl) ?_ ?_; rotate_left; (· intro w' hS; go_simp; try with_reducible rfl); try simp only [Act.put, List.setIfInBounds_toArray, List.set_cons_zero, List.set_cons_succ])
 (refine wpO_take ?_ rfl (by kernel_rfl) ?_ ?_; rotate_left; (· intro w' hS; have d1 := hS.cell X0.out HXN.out; go_simp; try with_reducible rfl); try simp only [Act.put, List.setIfInBounds_toArray, List.set_cons_zero, List.set_cons_succ])
 iterate 2 (refine wpO_take ?_ rfl (by kernel_rfl) ?_ ?_; rotate_left; (· intro w' hS; go_simp; try with_reducible rfl); try simp only [Act.put, List.setIfInBounds_toArray, List.set_cons_zero, List.set_cons_succ])
 (refine wpO_take ?_ rfl (by kernel_rfl) ?_ ?_; rotate_left; (· intro w' hS; have d1 := hS.cell C1.out HCN.out; go_simp; try with_reducible rfl); try simp only [Act.put, List.setIfInBounds_toArray, List.set_cons_zero, List.set_cons_succ])
 iterate 3 (refine wpO_take ?_ rfl (by kernel_rfl) ?_ ?_; rotate_left; (· intro w' hS; go_simp; try with_reducible rfl); try simp only [Act.put, List.setIfInBounds_toArray, List.set_cons_zero, List.set_cons_succ])
 (refine wpO_take ?_ rfl (by kernel_rfl) ?_ ?_; rotate_left; (· intro w' hS; have d1 := hS.cell X1.out HXN.out; go_simp; try with_reducible rfl); try simp only [Act.put, List.setIfInBounds_toArray, List.set_cons_zero, List.set_cons_succ])
 have hfa := (Fr.refl (fun _ => False) w5).drew.alloc (.cells #[.int .i64 m.ln] 3)
 have hcn2 := cells_newQ w5.drew #[.int .i64 m.ln] 3 (0, 0)
 have hba : W.heap.size ≤ (w5.drew.alloc (.cells #[.int .i64 m.ln] 3)).heap.size := by have := hfa.size; have := HF5.out.size; omega
 refine wpO_run rfl (by kernel_rfl) (fun K hK => ?_); go_simp
 refine hK _ _ (fun _ => hfa.mono fun _ _ h => h.elim) ?_
 clear hK K
 try simp only [Act.put, List.setIfInBounds_toArray, List.set_cons_zero, List.set_cons_succ]
 refine wpO_run rfl (by kernel_rfl) (fun K hK => ?_)
 refine wp_appendQ (.tmp 31) (.tmp 36) 64 rfl 3 (.int .i64 0) 1 8 Tryz.underlying64 Tryz.info_int rfl (by decide) nv rfl W.heap.size m.L.length (lnV m.L) (hfa.own HQ2.out fun _ _ => not_false) w5.drew.heap.size 1 [.int .i64 m.ln] rfl rfl hcn2 (fun y hy => by rw [List.mem_singleton.1 hy]; rfl) (by have := HLL.out; omega) (by decide) hba ?_
 intro g2 cap2 w6 ho6 hf6 hg6
 have hc6 := hf6.heap (hfa.heap HC5.out not_false) HCN.out
 have hx6 := hf6.heap (hfa.heap HX5.out not_false) HXN.out
 have f3 : w6.frozen? ⟨C, 1, none⟩ = false := frozen_of_row _ _ _ _ _ hc6
 refine hK _ _ (fun _ => (hfa.mono fun _ _ h => h.elim).trans' hf6) ?_
 clear hK K
 try simp only [Act.put, List.setIfInBounds_toArray, List.set_cons_zero, List.set_cons_succ]
 have hF6 : Fr (fun k => some k = nv.ownBlock) w5 w6 := (hfa.mono fun _ _ h => h.elim).trans' hf6
 have ho1 := hF6.own HQ1.out (own_ne HQ1.out HQ2.out (by decide))
 have ho3 := hF6.own HQ3.out (own_ne HQ3.out HQ2.out (by decide))
 have c4 : w6.cell? ⟨C, 1, none⟩ = some nv := by rw [cell_of_row _ _ _ _ _ _ hc6]; rfl
 have HX4 := hid hx6; have HC4 := hid hc6; have HP1 := hid ho1; have HP2 := hid ho6; have HP3 := hid ho3
 have hfz : Fr (fun _ => False) W w6 := by
  refine HF5.out.trans (U := fun _ => False) hF6 (fun _ _ h => h) (fun k hk e => ?_)
  have := (HQ2.out.lt _ e.symm).1
  omega
 have hkp := HKQ.out.step hF6 (node_ne_own HQ2.out (by decide))
 have hik := HIQ.out.step hF6 (fun k cs fz _ hn e => hn ((NvB.of HC5.out).2 e.symm)) (fun k hk hn => hn.same (by rw [hc6, HC5.out]))
 have hgn : ∀ k, k < w5.heap.size → g2 = k → nv.ownBlock = some k := fun k hk e => by
  rcases hg6 with h | h
  ·rw [← e]; exact h
  ·exact absurd (Nat.le_trans hfa.size h) (by omega)
 have HGN := hid hgn; have HIK := hid hik; have HS56 := hid hF6.size
 clear hgn hik
 have HFZ := hid hfz; have HKP := hid hkp
 clear hkp ho6 hf6 hg6 hx6 hc6 hfa hcn2 hba hF6 ho1 ho3 hfz
 iterate 2
  refine wpO_run rfl (by kernel_rfl) (fun K hK => ?_)
  go_simp
  refine hK _ _ (last_skip (by kernel_rfl)) ?_
  clear hK K
  try simp only [Act.put, List.setIfInBounds_toArray, List.set_cons_zero, List.set_cons_succ]
 refine wpO_run rfl (by kernel_rfl) (fun K hK => ?_)
 go_simp
 refine hK _ _ (last_skip (by kernel_rfl)) ?_
 clear hK K
 try simp only [Act.put, List.setIfInBounds_toArray, List.set_cons_zero, List.set_cons_succ]
 refine wpO_end ?_
 obtain ⟨nv2, hnv⟩ : ∃ v, v = Value.slice (some ⟨g2, 0, none⟩) (m.L.length + 1) cap2 := ⟨_, rfl⟩
 have HNV2 := hid (show nv2.ownBlock = some g2 by rw [hnv]; rfl)
 rw [← hnv] at HP2 ⊢
 clear hnv f3 c4
 have hc7 := setCell_row 1 nv2 HC4.out
 simp only [List.setIfInBounds_toArray, List.set_cons_zero, List.set_cons_succ] at hc7
 have hs7 : Fr (fun k => k = C) w6 (w6.setCell ⟨C, 1, none⟩ nv2) := Fr.setCell (S := fun k => k = C) (Fr.refl _ _) (p := ⟨C, 1, none⟩) (.inl rfl) _
 have hx7 := hs7.heap HX4.out HXC.out
 have hp1 := hs7.own HP1.out (own_ne_cells HP1.out HC4.out (by decide))
 have hp2 := hs7.own HP2.out (own_ne_cells HP2.out HC4.out (by decide))
 have hp3 := hs7.own HP3.out (own_ne_cells HP3.out HC4.out (by decide))
 have hlo := HLO.out
 have hf7 : Fr (fun _ => False) W (w6.setCell ⟨C, 1, none⟩ nv2) := HFZ.out.trans (U := fun _ => False) hs7 (fun _ _ h => h) (fun k hk e => by omega)
 have hxl : xs.length = m.L.length * 8 := by
  have h1 := HQ1.out.1
  have h2 := hln2.out
  rw [List.length_append] at h1
  omega
 have hins := HINS.out.snoc (j := ⟨op, a, b, s, m.ln⟩) (us := us.toList) hxl (by rw [HUS.out]; rfl) (by rw [HUS.out]; rfl) (by rw [HUS.out]; rfl) (by rw [HUS.out]; rfl) HTL.out
 have hik7 : IKept V (w6.setCell ⟨C, 1, none⟩ nv2) C := ⟨Nat.le_trans HIK.out.1 hs7.size, fun k cs fz e hn => hs7.heap (HIK.out.2.1 k cs fz e hn) (int_ne_cells HC4.out (by decide) k cs fz (HIK.out.2.1 k cs fz e hn)), fun k hk hn => HIQ.out.2.2 k hk ((NvB.of HC5.out).2 (HGN.out k (Nat.lt_of_lt_of_le hk HIQ.out.1) (by
  have h1 := (NvB.of hc7).1 hn
  rw [HNV2.out] at h1
  exact Option.some.inj h1)))⟩
 have hlen : (m.L ++ [(⟨op, a, b, s, m.ln⟩ : J)]).length = m.L.length + 1 := by simp
 have HMW := hid (show MW W V (w6.setCell ⟨C, 1, none⟩ nv2) X C sv ⟨m.L ++ [⟨op, a, b, s, m.ln⟩], m.nb, m.ln⟩ from ⟨hf7, HKP.out.step hs7 (node_ne_cells HC4.out (by decide)), hik7, H1.out.lo, hx7, lv2, nv2, bv, _, _, hc7, by rw [hlen]; exact hp1, hins, by rw [hlen, lnV_snoc]; exact hp2, hp3⟩)
 have x0 : (w6.setCell ⟨C, 1, none⟩ nv2).cell? ⟨X, 0, none⟩ = some (.pointer (some ⟨C, 0, none⟩)) := by rw [cell_of_row _ _ _ _ _ _ hx7]; rfl
 have c0 : (w6.setCell ⟨C, 1, none⟩ nv2).cell? ⟨C, 0, none⟩ = some lv2 := by rw [cell_of_row _ _ _ _ _ _ hc7]; rfl
 clear hik7 hc7 hs7 hx7 hp1 hp2 hp3 hf7 hins hlen hxl hlo
 rw [HLV.out] at c0
 have hw7 : IntKind.i64.wrap (((m.L.length + 1 : Nat) : Int) - 1) = (m.L.length : Int) := by rw [IntWalk.i64_in _ (by have := HLL.out; omega)]; omega
 have hw8 : IntKind.i64.wrap (m.L.length : Int) = (m.L.length : Int) := IntWalk.i64_in _ (by have := HLL.out; omega)
 go_upto_region 3 with fail
 generalize w6.setCell ⟨C, 1, none⟩ nv2 = w7 at *
 go_wp2_with fail
 go_ret
 exact ⟨rfl, HMW.out⟩
end
section
open Go.RowKit
variable {W V w w' : World} {X C : Nat} {sv : Value} {m : MS}
theorem mset8 {w : World} {base e g cap n : Nat} {xs : List Value} (h : w.ownsRow base e 8 (.slice (some ⟨g, 0, none⟩) n cap) n xs) (j : Nat) (u : Value) (hj : j < n * 8) : (w.setCell ⟨g, j, none⟩ u).ownsRow base e 8 (.slice (some ⟨g, 0, none⟩) n cap) n (xs.set j u) := by
 refine ⟨by simpa using h.1, .inr ?_⟩
 rcases h.2 with ⟨e, _⟩ | ⟨g', cap', cur, e, hb, hg, h1, h2, h3, h4⟩
 ·cases e
 ·simp only [Value.slice.injEq, Option.some.injEq, Addr.mk.injEq] at e
  obtain ⟨⟨rfl, _⟩, _, rfl⟩ := e
  refine ⟨g, cap, cur.setIfInBounds j u, rfl, hb, setCell_row j u hg, h1, h2, by simpa using h3, ?_⟩
  rw [← h4, Array.toList_setIfInBounds, List.take_set]
theorem mcells8 {w : World} {base e g n cap : Nat} {xs : List Value} (h : w.ownsRow base e 8 (.slice (some ⟨g, 0, none⟩) n cap) n xs) : base ≤ g ∧ (∀ i, w.frozen? ⟨g, i, none⟩ = false) ∧ (∀ i, i < n * 8 → w.cell? ⟨g, i, none⟩ = xs[i]?) ∧ ∃ cs fz, w.heap[g]? = some (.cells cs e fz) := by
 rcases h.2 with ⟨e, _⟩ | ⟨g', cap', cur, e, hb, hg, h1, h2, h3, h4⟩
 ·cases e
 ·simp only [Value.slice.injEq, Option.some.injEq, Addr.mk.injEq] at e
  obtain ⟨⟨rfl, _⟩, _, rfl⟩ := e
  refine ⟨hb, fun i => frozen_of_row _ _ i _ _ hg, fun i hi => ?_, _, _, hg⟩
  rw [cell_of_row _ _ i _ _ _ hg, ← h4, List.getElem?_take, if_pos hi]
  simp
theorem MW.row (h : MW W V w X C sv m) {k : Nat} {j : J} (hj : m.L[k]? = some j) : ∃ g cap, (¬ X = g ∧ ¬ C = g) ∧ w.cell? ⟨C, 0, none⟩ = some (.slice (some ⟨g, 0, none⟩) m.L.length cap) ∧ m.L.length ≤ cap ∧ (∀ i, w.frozen? ⟨g, i, none⟩ = false) ∧ (∀ i, i < m.L.length * 8 → ∃ u, w.cell? ⟨g, i, none⟩ = some u) ∧ w.cell? ⟨g, k * 8 + 1, none⟩ = some (.int .i64 j.a) ∧ w.cell? ⟨g, k * 8 + 2, none⟩ = some (.int .i64 j.b) ∧
  (∀ t, MW W V (w.setCell ⟨g, k * 8 + 1, none⟩ (.int .i64 t)) X C sv ⟨m.L.set k ⟨j.op, t, j.b, j.s, j.ln⟩, m.nb, m.ln⟩) ∧ ∀ t, MW W V (w.setCell ⟨g, k * 8 + 2, none⟩ (.int .i64 t)) X C sv ⟨m.L.set k ⟨j.op, j.a, t, j.s, j.ln⟩, m.nb, m.ln⟩ := by
 obtain ⟨lv, nv, bv, xs, zs, hc, ho1, hins, ho2, ho3⟩ := h.hC
 have hkl := (List.getElem?_eq_some_iff.1 hj).1
 have hxl : xs.length = m.L.length * 8 := ho1.1
 rcases ho1.2 with ⟨_, h0⟩ | ⟨g, cap, cur, rfl, hbg, hg, hcap, -⟩
 ·omega
 obtain ⟨c0, c1, c2, c3, c4⟩ := hins k j hj
 obtain ⟨hb, hfz, hcl, -⟩ := mcells8 ho1
 have hXg : ¬ X = g := fun e => by
  have := own_ne_cells ho1 h.hX (by decide) g rfl
  exact this e.symm
 have hCg : ¬ C = g := fun e => by
  have := own_ne_cells ho1 hc (by decide) g rfl
  exact this e.symm
 have hng : ∀ k, nv.ownBlock = some k → ¬ k = g := fun k hk e => own_ne ho2 ho1 (by decide) k hk (by rw [e]; rfl)
 have hbg2 : ∀ k, bv.ownBlock = some k → ¬ k = g := fun k hk e => own_ne ho3 ho1 (by decide) k hk (by rw [e]; rfl)
 have key : ∀ (i : Nat) (u : Value) (j' : J), (i = 1 ∨ i = 2) → j'.ln = j.ln → (∀ i', i' < 4 → (xs.set (k * 8 + i) u)[k * 8 + i']? = some (if i' = 0 then .int .i64 j'.op else if i' = 1 then .int .i64 j'.a else if i' = 2 then .int .i64 j'.b else .string j'.s)) →
   MW W V (w.setCell ⟨g, k * 8 + i, none⟩ u) X C sv ⟨m.L.set k j', m.nb, m.ln⟩ := fun i u j' hi hln hj' => by
  have hs : Fr (fun q => q = g) w (w.setCell ⟨g, k * 8 + i, none⟩ u) := Fr.setCell (S := fun q => q = g) (Fr.refl _ _) (p := ⟨g, k * 8 + i, none⟩) (.inl rfl) _
  refine ⟨h.f.trans (U := fun _ => False) hs (fun _ _ h => h) (fun q hq e => by rw [e] at hq; omega), h.kp.step hs (node_ne_cells hg (by decide)), h.ik.step hs (fun k cs fz h _ => int_ne_cells hg (by decide) k cs fz h) (fun k hk hn => hn.same (by rw [hs.heap hc hCg, hc])), h.lo, hs.heap h.hX hXg, _, nv, bv, xs.set (k * 8 + i) u, zs, hs.heap hc hCg, ?_, ?_, ?_, hs.own ho3 hbg2⟩
  ·dsimp only
   rw [List.length_set]
   exact mset8 ho1 _ u (by omega)
  ·intro n jn hn
   dsimp only at hn
   by_cases e : n = k
   ·subst e
    rw [List.getElem?_set_self hkl] at hn
    simp only [Option.some.injEq] at hn
    subst hn
    exact ⟨by simpa using hj' 0 (by omega), by simpa using hj' 1 (by omega), by simpa using hj' 2 (by omega), by simpa using hj' 3 (by omega), fun t h4 h8 => by rw [List.getElem?_set_ne (by omega)]; exact c4 t h4 h8⟩
   ·rw [List.getElem?_set_ne (fun h => e h.symm)] at hn
    obtain ⟨a0, a1, a2, a3, a4⟩ := hins n jn hn
    refine ⟨?_, ?_, ?_, ?_, fun t h4 h8 => ?_⟩
    rotate_right
    ·rw [List.getElem?_set_ne (by omega)]; exact a4 t h4 h8
    all_goals (rw [List.getElem?_set_ne (by omega)]; assumption)
  ·dsimp only
   rw [List.length_set]
   have : lnV (m.L.set k j') = lnV m.L := by
    unfold lnV
    rw [List.map_set]
    have h1 : (m.L.map fun j => Value.int .i64 j.ln)[k]? = some (.int .i64 j'.ln) := by rw [List.getElem?_map, hj, hln]; rfl
    exact List.ext_getElem? fun n => by
     by_cases e : k = n
     ·subst e
      rw [List.getElem?_set_self (by simpa using hkl), h1]
     ·rw [List.getElem?_set_ne e]
   rw [this]
   exact hs.own ho2 hng
 refine ⟨g, cap, ⟨hXg, hCg⟩, ?_, hcap, hfz, fun i hi => ⟨xs[i], by rw [hcl i hi, List.getElem?_eq_getElem]⟩, by rw [hcl _ (by omega)]; exact c1, by rw [hcl _ (by omega)]; exact c2, fun t => key 1 _ _ (.inl rfl) rfl fun i' hi' => ?_, fun t => key 2 _ _ (.inr rfl) rfl fun i' hi' => ?_⟩
 ·rw [cell_of_row _ _ _ _ _ _ hc]; rfl
 ·have : i' = 0 ∨ i' = 1 ∨ i' = 2 ∨ i' = 3 := by omega
  rcases this with rfl | rfl | rfl | rfl
  ·rw [List.getElem?_set_ne (by omega)]; exact c0
  ·rw [List.getElem?_set_self (by omega)]; rfl
  ·rw [List.getElem?_set_ne (by omega)]; exact c2
  ·rw [List.getElem?_set_ne (by omega)]; exact c3
 ·have : i' = 0 ∨ i' = 1 ∨ i' = 2 ∨ i' = 3 := by omega
  rcases this with rfl | rfl | rfl | rfl
  ·rw [List.getElem?_set_ne (by omega)]; exact c0
  ·rw [List.getElem?_set_ne (by omega)]; exact c1
  ·rw [List.getElem?_set_self (by omega)]; rfl
  ·rw [List.getElem?_set_ne (by omega)]; exact c3
set_option maxRecDepth 100000 in
set_option maxHeartbeats 3200000 in
theorem here_any (h : MW W V w X C sv m) (k : Nat) {j : J} (hj : m.L[k]? = some j) (hL : m.L.length ≤ 1073741824) :
  Calls Tryz.prog 118 #[.pointer (some ⟨X, 0, none⟩), .int .i64 (k : Int)] w fun e w' => e = .returned (.tuple #[]) ∧ MW W V w' X C sv ⟨m.L.set k ⟨j.op, (m.L.length : Int), j.b, j.s, j.ln⟩, m.nb, m.ln⟩ := by
 obtain ⟨g, cap, ⟨hXg, hCg⟩, c0, hcap, hfz, -, ca, -, hA, -⟩ := h.row hj
 have hkl := (List.getElem?_eq_some_iff.1 hj).1
 have hklI : (k : Int) < m.L.length := by omega
 have x0 := h.cells.1
 have HMW := hid ((hA (m.L.length : Int)).fr (Fr.refl _ _).drew)
 have HSF := hid (Fr.setCell (S := fun q => q = g) (Fr.refl (fun q => q = g) w) (p := ⟨g, k * 8 + 1, none⟩) (.inl rfl) (.int .i64 (m.L.length : Int)))
 have X0 := hid x0; have C0 := hid c0; have HFZ := hid (hfz (k * 8 + 1)); have CA := hid ca; have CAP := hid hcap; have HXG := hid hXg; have HCG := hid hCg
 have hw8 : IntKind.i64.wrap (m.L.length : Int) = (m.L.length : Int) := IntWalk.i64_in _ (by omega)
 clear hA h hj hfz ca x0 c0 hXg hCg
 go_enter Tryz.func118, Tryz.ntmps118
 go_upto_region 0 with fail
 refine wp_region_ord [(0, 0), (1, 0), (2, 0), (3, 0), (4, 0), (5, 0), (6, 0), (7, 0), (8, 0), (9, 0), (10, 0), (11, 0), (12, 0), (13, 0), (14, 0), (15, 0), (16, 0), (17, 0), (18, 1)] (fun w' => Fr (fun q => q = g) w w') (by kernel_rfl) (by kernel_rfl) (by kernel_rfl) rfl (fun _ _ d _ _ h => by cases d <;> exact h) (Fr.refl _ _).drew ?_
 iterate 3 (refine wpO_take ?_ rfl (by kernel_rfl) ?_ ?_; rotate_left; (· intro w' hS; go_simp; try with_reducible rfl); try simp only [Act.put, List.setIfInBounds_toArray, List.set_cons_zero, List.set_cons_succ])
 (refine wpO_take ?_ rfl (by kernel_rfl) ?_ ?_; rotate_left; (· intro w' hS; have d1 := hS.cell X0.out HXG.out; go_simp; try with_reducible rfl); try simp only [Act.put, List.setIfInBounds_toArray, List.set_cons_zero, List.set_cons_succ])
 iterate 2 (refine wpO_take ?_ rfl (by kernel_rfl) ?_ ?_; rotate_left; (· intro w' hS; go_simp; try with_reducible rfl); try simp only [Act.put, List.setIfInBounds_toArray, List.set_cons_zero, List.set_cons_succ])
 (refine wpO_take ?_ rfl (by kernel_rfl) ?_ ?_; rotate_left; (· intro w' hS; have d1 := hS.cell C0.out HCG.out; go_simp; try with_reducible rfl); try simp only [Act.put, List.setIfInBounds_toArray, List.set_cons_zero, List.set_cons_succ])
 iterate 4 (refine wpO_take ?_ rfl (by kernel_rfl) ?_ ?_; rotate_left; (· intro w' hS; go_simp; try with_reducible rfl); try simp only [Act.put, List.setIfInBounds_toArray, List.set_cons_zero, List.set_cons_succ])
 (refine wpO_take ?_ rfl (by kernel_rfl) ?_ ?_; rotate_left; (· intro w' hS; have d1 := hS.cell X0.out HXG.out; go_simp; try with_reducible rfl); try simp only [Act.put, List.setIfInBounds_toArray, List.set_cons_zero, List.set_cons_succ])
 iterate 2 (refine wpO_take ?_ rfl (by kernel_rfl) ?_ ?_; rotate_left; (· intro w' hS; go_simp; try with_reducible rfl); try simp only [Act.put, List.setIfInBounds_toArray, List.set_cons_zero, List.set_cons_succ])
 (refine wpO_take ?_ rfl (by kernel_rfl) ?_ ?_; rotate_left; (· intro w' hS; have d1 := hS.cell C0.out HCG.out; go_simp; try with_reducible rfl); try simp only [Act.put, List.setIfInBounds_toArray, List.set_cons_zero, List.set_cons_succ])
 iterate 3 (refine wpO_take ?_ rfl (by kernel_rfl) ?_ ?_; rotate_left; (· intro w' hS; go_simp; try with_reducible rfl); try simp only [Act.put, List.setIfInBounds_toArray, List.set_cons_zero, List.set_cons_succ])
 have f3 := HFZ.out
 have c3 := CA.out
 refine wpO_run rfl (by kernel_rfl) (fun K hK => ?_)
 go_simp
 refine hK _ _ (fun _ => HSF.out.drew) ?_
 clear hK K
 try simp only [Act.put, List.setIfInBounds_toArray, List.set_cons_zero, List.set_cons_succ]
 refine wpO_end ?_
 clear f3 c3
 go_wp2_with fail
 go_end0
 exact ⟨rfl, HMW.out⟩
end
section
variable {PL QL : Int → Prop} {nb nb' n k k1 k2 k3 k4 : Nat} {c c0 c1 c2 c3 c4 : List J} {d d1 d2 : Int}
def FC (PL : Int → Prop) (nb n k : Nat) (c : List J) (d : Int) : Prop := c.length = k ∧ (∀ j ∈ c, PL j.ln) ∧ 0 ≤ d ∧ ∀ s b E, 0 ≤ s → 0 ≤ b → Ty nb n c (s, b) (s + d, b) E
def FX (PL : Int → Prop) (nb n k : Nat) (c : List J) (t : Int) : Prop := c.length = k ∧ (∀ j ∈ c, PL j.ln) ∧ ∀ s b E, 0 ≤ s → 0 ≤ b → Ty nb n c (s, b) (s, b) ((t, (s, b)) :: E)
def FB (PL : Int → Prop) (nb n k : Nat) (c : List J) : Prop := c.length = k ∧ (∀ j ∈ c, PL j.ln) ∧ ∀ s b E, 0 ≤ s → 1 ≤ b → Ty nb n c (s, b) (s, b) E
theorem FC.mono (h : FC PL nb n k c d) (hP : ∀ x, PL x → QL x) (hn : nb ≤ nb') : FC QL nb' n k c d := ⟨h.1, fun j hj => hP _ (h.2.1 j hj), h.2.2.1, fun s b E hs hb => (h.2.2.2 s b E hs hb).up hn⟩
theorem FX.mono {t : Int} (h : FX PL nb n k c t) (hP : ∀ x, PL x → QL x) (hn : nb ≤ nb') : FX QL nb' n k c t := ⟨h.1, fun j hj => hP _ (h.2.1 j hj), fun s b E hs hb => (h.2.2 s b E hs hb).up hn⟩
theorem FC.x {t : Int} (h : FC PL nb n k c 0) : FX PL nb n k c t := ⟨h.1, h.2.1, fun s b E hs hb => by have := h.2.2.2 s b ((t, (s, b)) :: E) hs hb; rwa [Int.add_zero] at this⟩
theorem FC.nil : FC PL nb n 0 [] 0 := ⟨rfl, fun j h => (by cases h), Int.le_refl _, fun s b E hs hb => by rw [Int.add_zero]; exact Ty.nil ⟨hs, hb⟩⟩
theorem FX.nil {t : Int} : FX PL nb n 0 [] t := FC.nil.x
theorem FB.nil : FB PL nb n 0 [] := ⟨rfl, fun j h => (by cases h), fun s b E hs hb => Ty.nil ⟨hs, by dsimp only; omega⟩⟩
theorem lines_cat (h1 : ∀ j ∈ c1, PL j.ln) (h2 : ∀ j ∈ c2, PL j.ln) : ∀ j ∈ c1 ++ c2, PL j.ln := fun j hj => (List.mem_append.1 hj).elim (h1 j) (h2 j)
theorem lines_one {j : J} (h : PL j.ln) : ∀ i ∈ [j], PL i.ln := fun i hi => by rw [List.mem_singleton.1 hi]; exact h
theorem FC.cat (h1 : FC PL nb n k1 c1 d1) (h2 : FC PL nb (n + k1) k2 c2 d2) : FC PL nb n (k1 + k2) (c1 ++ c2) (d1 + d2) := by
 obtain ⟨a1, a2, a3, a4⟩ := h1
 obtain ⟨b1, b2, b3, b4⟩ := h2
 refine ⟨by simp [a1, b1], lines_cat a2 b2, by omega, fun s b E hs hb => ?_⟩
 have := (a4 s b E hs hb).cat (b4 (s + d1) b E (by omega) hb) (by rw [a1])
 rwa [Int.add_assoc] at this
theorem FX.cat {t : Int} (h1 : FX PL nb n k1 c1 t) (h2 : FX PL nb (n + k1) k2 c2 t) : FX PL nb n (k1 + k2) (c1 ++ c2) t :=
 ⟨by simp [h1.1, h2.1], lines_cat h1.2.1 h2.2.1, fun s b E hs hb => (h1.2.2 s b E hs hb).cat (h2.2.2 s b E hs hb) (by rw [h1.1])⟩
theorem FX.close (h : FX PL nb n k c ((n + k : Nat) : Int)) : FC PL nb n k c 0 := by
 refine ⟨h.1, h.2.1, Int.le_refl _, fun s b E hs hb => ?_⟩
 rw [Int.add_zero]
 refine Ty.endc ?_
 rw [h.1]
 exact h.2.2 s b E hs hb
theorem FC.one {j : J} {t g : Int} (hg : goesJ j n = [(n : Int) + 1]) (h8 : j.op ≠ 8 ∧ j.op ≠ 9) (h45 : j.op = 45 → 0 ≤ j.a ∧ j.a < nb) (ht : ndT j.op j.a (decide (j.s = ⟨#[]⟩)) = t) (hG : ndG j.op = g) (hB : ndTB j.op = 0 ∧ ndGB j.op = 0) (ht0 : 0 ≤ t ∧ 0 ≤ g ∧ g ≤ t + 1) (hl : PL j.ln) (s b : Int) (E : List (Int × Int × Int)) (hs : t ≤ s) (hb : 0 ≤ b) :
  Ty nb n [j] (s, b) (s - t + g, b) E := by
 refine Ty.one ⟨⟨by dsimp only; omega, hb⟩, ⟨by dsimp only; omega, by dsimp only; omega⟩, hb, by dsimp only; omega⟩ ⟨by rw [ht]; exact hs, by rw [hB.1]; exact hb, h45, ?_⟩
 rw [if_neg (by omega), hg]
 intro x hx
 rw [List.mem_singleton.1 hx, ht, hG, hB.1, hB.2]
 exact .inl ⟨rfl, by simp⟩
theorem FC.put {j : J} (t g : Int) (h : FC PL nb n k c d) (hg : ∀ m : Nat, goesJ j m = [(m : Int) + 1]) (h8 : j.op ≠ 8 ∧ j.op ≠ 9) (h45 : j.op = 45 → 0 ≤ j.a ∧ j.a < nb) (ht : ndT j.op j.a (decide (j.s = ⟨#[]⟩)) = t) (hG : ndG j.op = g) (hB : ndTB j.op = 0 ∧ ndGB j.op = 0) (ht0 : 0 ≤ t ∧ 0 ≤ g ∧ g ≤ t + 1) (hd : t ≤ d) (hl : PL j.ln) {d' : Int} (hd' : d' = d - t + g) : FC PL nb n (k + 1) (c ++ [j]) d' := by
 refine ⟨by simp [h.1], lines_cat h.2.1 (lines_one hl), by omega, fun s b E hs hb => ?_⟩
 have h0 := h.2.2.1
 have := (h.2.2.2 s b E hs hb).cat (FC.one (hg _) h8 h45 ht hG hB ht0 hl (s + d) b E (by omega) hb) (by rw [h.1])
 rwa [show s + d - t + g = s + d' by omega] at this
theorem Ty.endc' {t : Int} {p q : Int × Int} {E : List (Int × Int × Int)} (h : Ty nb n c p q ((t, q) :: E)) (ht : t = (n : Int) + c.length) : Ty nb n c p q E := by
 refine Ty.endc ?_
 rwa [show ((n + c.length : Nat) : Int) = t by omega]
theorem Ty.begc' {t : Int} {p q : Int × Int} {E : List (Int × Int × Int)} (h : Ty nb n c p q ((t, p) :: E)) (ht : t = (n : Int)) : Ty nb n c p q E := by
 subst ht
 exact Ty.begc h
theorem FC.and {op a b' : Int} {z : ByteArray} {ln : Int} (h1 : FC PL nb n k1 c1 1) (h2 : FC PL nb (n + k1 + 1) k2 c2 1) (hop : op = 8 ∨ op = 9) (ha : a = (n : Int) + (k1 + 1 + k2)) (hl : PL ln) : FC PL nb n (k1 + 1 + k2) (c1 ++ [⟨op, a, b', z, ln⟩] ++ c2) 1 := by
 refine ⟨by simp [h1.1, h2.1]; omega, lines_cat (lines_cat h1.2.1 (lines_one hl)) h2.2.1, by omega, fun s b E hs hb => ?_⟩
 have t1 := h1.2.2.2 s b ((a, (s + 1, b)) :: E) hs hb
 have t2 : Ty nb (n + k1) [(⟨op, a, b', z, ln⟩ : J)] (s + 1, b) (s, b) ((a, (s + 1, b)) :: E) := by
  refine Ty.one ⟨⟨by dsimp only; omega, hb⟩, ⟨hs, by dsimp only; omega⟩, hb, by dsimp only; omega⟩ ?_
  rcases hop with rfl | rfl
  all_goals
   refine ⟨by simp [ndT]; omega, by simp [ndTB]; omega, fun e => by simp at e, ?_⟩
   rw [if_pos (by simp)]
   exact ⟨by dsimp only; omega, .inr (List.mem_cons_self ..), .inl ⟨rfl, by simp⟩⟩
 have t3 := h2.2.2.2 s b ((a, (s + 1, b)) :: E) hs hb
 exact ((t1.cat t2 (by rw [h1.1])).cat t3 (by simp [h1.1]; omega)).endc' (by simp [h1.1, h2.1]; omega)
theorem Ty.jump {a b' : Int} {z : ByteArray} {ln : Int} {p q : Int × Int} {E : List (Int × Int × Int)} (hp : (0 ≤ p.1 ∧ 0 ≤ p.2) ∧ (0 ≤ q.1 ∧ q.1 ≤ p.1 + 1) ∧ 0 ≤ q.2 ∧ q.2 ≤ p.2 + 1) (h : (a, p) ∈ E) : Ty nb n [⟨6, a, b', z, ln⟩] p q E := by
 refine Ty.one hp ⟨by simp [ndT]; omega, by simp [ndTB]; omega, fun e => by simp at e, ?_⟩
 simp [goesJ, ndT, ndG, ndTB, ndGB]
 exact .inr h
theorem Ty.jumpNot {a b' : Int} {z : ByteArray} {ln : Int} {s b : Int} {E : List (Int × Int × Int)} (hs : 0 ≤ s) (hb : 0 ≤ b) (h : (a, (s, b)) ∈ E) : Ty nb n [⟨7, a, b', z, ln⟩] (s + 1, b) (s, b) E := by
 refine Ty.one ⟨⟨by dsimp only; omega, hb⟩, ⟨hs, by dsimp only; omega⟩, hb, by dsimp only; omega⟩ ⟨by simp [ndT]; omega, by simp [ndTB]; omega, fun e => by simp at e, ?_⟩
 simp [goesJ, ndT, ndG, ndTB, ndGB]
 exact .inr h
theorem Ty.fork2 {op a b' : Int} {z : ByteArray} {ln : Int} {s b : Int} {E : List (Int × Int × Int)} (hop : op = 24 ∨ op = 25) (hs : 0 ≤ s) (hb : 0 ≤ b) (h : (a, (s, b)) ∈ E) : Ty nb n [⟨op, a, b', z, ln⟩] (s, b) (s, b) E := by
 refine Ty.one ⟨⟨hs, hb⟩, ⟨hs, by dsimp only; omega⟩, hb, by dsimp only; omega⟩ ?_
 rcases hop with rfl | rfl
 all_goals
  refine ⟨by simp [ndT]; omega, by simp [ndTB]; omega, fun e => by simp at e, ?_⟩
  simp [goesJ, ndT, ndG, ndTB, ndGB]
  exact .inr h
theorem Ty.stop {op a b' : Int} {z : ByteArray} {ln : Int} {p q : Int × Int} {E : List (Int × Int × Int)} (hop : op = 31 ∨ op = 42 ∨ op = 43) (hp : (0 ≤ p.1 ∧ 0 ≤ p.2) ∧ (0 ≤ q.1 ∧ q.1 ≤ p.1 + 1) ∧ 0 ≤ q.2 ∧ q.2 ≤ p.2 + 1) : Ty nb n [⟨op, a, b', z, ln⟩] p q E := by
 refine Ty.one hp ?_
 rcases hop with rfl | rfl | rfl
 all_goals
  refine ⟨by simp [ndT]; omega, by simp [ndTB]; omega, fun e => by simp at e, ?_⟩
  simp [goesJ]
theorem Ty.back {a b' : Int} {z : ByteArray} {ln : Int} {p q : Int × Int} {E : List (Int × Int × Int)} (hp : (1 ≤ p.1 ∧ 0 ≤ p.2) ∧ (0 ≤ q.1 ∧ q.1 ≤ p.1 + 1) ∧ 0 ≤ q.2 ∧ q.2 ≤ p.2 + 1) : Ty nb n [⟨44, a, b', z, ln⟩] p q E := by
 refine Ty.one (by omega) ⟨by simp [ndT]; omega, by simp [ndTB]; omega, fun e => by simp at e, ?_⟩
 simp [goesJ]
end
section
variable {PL QL : Int → Prop} {nb nb' n k k0 k1 k2 k3 k4 : Nat} {c c0 c1 c2 c3 c4 : List J} {d d1 d2 : Int}
theorem FC.cond {a1 a2 b1 b2 : Int} {z1 z2 : ByteArray} {l1 l2 : Int} (h0 : FC PL nb n k0 c0 1) (h1 : FC PL nb (n + k0 + 1) k1 c1 d) (h2 : FC PL nb (n + k0 + 1 + k1 + 1) k2 c2 d) (ha1 : a1 = (n : Int) + (k0 + 1 + k1 + 1)) (ha2 : a2 = (n : Int) + (k0 + 1 + k1 + 1 + k2)) (hl1 : PL l1) (hl2 : PL l2) :
  FC PL nb n (k0 + 1 + k1 + 1 + k2) (c0 ++ [⟨7, a1, b1, z1, l1⟩] ++ c1 ++ [⟨6, a2, b2, z2, l2⟩] ++ c2) d := by
 refine ⟨by simp [h0.1, h1.1, h2.1]; omega, lines_cat (lines_cat (lines_cat (lines_cat h0.2.1 (lines_one hl1)) h1.2.1) (lines_one hl2)) h2.2.1, h1.2.2.1, fun s b E hs hb => ?_⟩
 have hd0 := h1.2.2.1
 have t0 := h0.2.2.2 s b ((a1, (s, b)) :: (a2, (s + d, b)) :: E) hs hb
 have t1 : Ty nb (n + k0) [(⟨7, a1, b1, z1, l1⟩ : J)] (s + 1, b) (s, b) ((a1, (s, b)) :: (a2, (s + d, b)) :: E) := Ty.jumpNot hs hb (List.mem_cons_self ..)
 have t2 := h1.2.2.2 s b ((a1, (s, b)) :: (a2, (s + d, b)) :: E) hs hb
 have t3 : Ty nb (n + k0 + 1 + k1) [(⟨6, a2, b2, z2, l2⟩ : J)] (s + d, b) (s, b) ((a1, (s, b)) :: (a2, (s + d, b)) :: E) := Ty.jump ⟨⟨by dsimp only; omega, hb⟩, ⟨hs, by dsimp only; omega⟩, hb, by dsimp only; omega⟩ (List.mem_cons_of_mem _ (List.mem_cons_self ..))
 have t4 := h2.2.2.2 s b ((a2, (s + d, b)) :: E) hs hb
 exact (((((t0.cat t1 (by rw [h0.1])).cat t2 (by simp [h0.1]; try omega)).cat t3 (by simp [h0.1, h1.1]; try omega)).endc' (by simp [h0.1, h1.1]; try omega)).cat t4 (by simp [h0.1, h1.1]; try omega)).endc' (by simp [h0.1, h1.1, h2.1]; try omega)
theorem FB.add {op a b' : Int} {z : ByteArray} {ln : Int} (h : FB PL nb n k c) (h1 : FC PL nb (n + k) k1 c1 1) (hop : op = 14 ∨ op = 15) (hl : PL ln) : FB PL nb n (k + k1 + 1) (c ++ c1 ++ [⟨op, a, b', z, ln⟩]) := by
 refine ⟨by simp [h.1, h1.1]; omega, lines_cat (lines_cat h.2.1 h1.2.1) (lines_one hl), fun s b E hs hb => ?_⟩
 have t1 := h.2.2 s b E hs hb
 have t2 := h1.2.2.2 s b E hs (by omega)
 have t3 : Ty nb (n + k + k1) [(⟨op, a, b', z, ln⟩ : J)] (s + 1, b) (s, b) E := by
  refine Ty.one ⟨⟨by dsimp only; omega, by dsimp only; omega⟩, ⟨hs, by dsimp only; omega⟩, by dsimp only; omega, by dsimp only; omega⟩ ?_
  rcases hop with rfl | rfl
  all_goals
   refine ⟨by simp [ndT]; omega, by simp [ndTB]; omega, fun e => by simp at e, ?_⟩
   simp [goesJ, ndT, ndG, ndTB, ndGB]
   try omega
 exact (t1.cat t2 (by rw [h.1])).cat t3 (by simp [h.1, h1.1]; try omega)
theorem FB.items {a1 b1 a2 b2 : Int} {z1 z2 : ByteArray} {l1 l2 : Int} (h : FB PL nb (n + 1) k c) (hl1 : PL l1) (hl2 : PL l2) : FC PL nb n (k + 2) ([⟨13, a1, b1, z1, l1⟩] ++ c ++ [⟨16, a2, b2, z2, l2⟩]) 1 := by
 refine ⟨by simp [h.1], lines_cat (lines_cat (lines_one hl1) h.2.1) (lines_one hl2), by omega, fun s b E hs hb => ?_⟩
 have t1 : Ty nb n [(⟨13, a1, b1, z1, l1⟩ : J)] (s, b) (s, b + 1) E := by
  refine Ty.one ⟨⟨hs, hb⟩, ⟨hs, by dsimp only; omega⟩, by dsimp only; omega, by dsimp only; omega⟩ ⟨by simp [ndT]; omega, by simp [ndTB]; omega, fun e => by simp at e, ?_⟩
  simp [goesJ, ndT, ndG, ndTB, ndGB]
 have t2 := h.2.2 s (b + 1) E hs (by omega)
 have t3 : Ty nb (n + 1 + k) [(⟨16, a2, b2, z2, l2⟩ : J)] (s, b + 1) (s + 1, b) E := by
  refine Ty.one ⟨⟨hs, by dsimp only; omega⟩, ⟨by dsimp only; omega, by dsimp only; omega⟩, hb, by dsimp only; omega⟩ ⟨by simp [ndT]; omega, by simp [ndTB]; omega, fun e => by simp at e, ?_⟩
  simp [goesJ, ndT, ndG, ndTB, ndGB]
  try omega
 exact (t1.cat t2 rfl).cat t3 (by simp [h.1]; try omega)
theorem FC.codes {t a1 b1 b2 : Int} {z1 z2 : ByteArray} {l1 l2 : Int} (h : FC PL nb n k c 1) (hl1 : PL l1) (hl2 : PL l2) : FX PL nb n (k + 2) (c ++ [⟨27, a1, b1, z1, l1⟩] ++ [⟨7, t, b2, z2, l2⟩]) t := by
 refine ⟨by simp [h.1], lines_cat (lines_cat h.2.1 (lines_one hl1)) (lines_one hl2), fun s b E hs hb => ?_⟩
 have t1 := h.2.2.2 s b ((t, (s, b)) :: E) hs hb
 have t2 : Ty nb (n + k) [(⟨27, a1, b1, z1, l1⟩ : J)] (s + 1, b) (s + 1, b) ((t, (s, b)) :: E) := by
  refine Ty.one ⟨⟨by dsimp only; omega, hb⟩, ⟨by dsimp only; omega, by dsimp only; omega⟩, hb, by dsimp only; omega⟩ ⟨by simp [ndT]; omega, by simp [ndTB]; omega, fun e => by simp at e, ?_⟩
  simp [goesJ, ndT, ndG, ndTB, ndGB]
 have t3 : Ty nb (n + k + 1) [(⟨7, t, b2, z2, l2⟩ : J)] (s + 1, b) (s, b) ((t, (s, b)) :: E) := Ty.jumpNot hs hb (List.mem_cons_self ..)
 exact (t1.cat t2 (by rw [h.1])).cat t3 (by simp [h.1]; try omega)
theorem FC.catch {a1 a2 b1 b2 b3 a3 t : Int} {z1 z2 z3 : ByteArray} {l1 l2 l3 : Int} (h0 : FC PL nb (n + 1) k0 c0 1) (h1 : FC PL nb (n + (k0 + 3)) k1 c1 1)
  (ha1 : a1 = (n : Int) + (k0 + 3)) (ha2 : a2 = (n : Int) + (k0 + 3 + k1)) (hl1 : PL l1) (hl2 : PL l2) (hl3 : PL l3) :
  FC PL nb n (k0 + 3 + k1) ([⟨24, a1, b1, z1, l1⟩] ++ c0 ++ [⟨26, a3, b3, z3, l3⟩] ++ [⟨6, a2, b2, z2, l2⟩] ++ c1) 1 := by
 refine ⟨by simp [h0.1, h1.1]; omega, lines_cat (lines_cat (lines_cat (lines_cat (lines_one hl1) h0.2.1) (lines_one hl3)) (lines_one hl2)) h1.2.1, by omega, fun s b E hs hb => ?_⟩
 have t0 : Ty nb n [(⟨24, a1, b1, z1, l1⟩ : J)] (s, b) (s, b) ((a1, (s, b)) :: (a2, (s + 1, b)) :: E) := Ty.fork2 (.inl rfl) hs hb (List.mem_cons_self ..)
 have t1 := h0.2.2.2 s b ((a1, (s, b)) :: (a2, (s + 1, b)) :: E) hs hb
 have t2 : Ty nb (n + 1 + k0) [(⟨26, a3, b3, z3, l3⟩ : J)] (s + 1, b) (s + 1, b) ((a1, (s, b)) :: (a2, (s + 1, b)) :: E) := by
  refine Ty.one ⟨⟨by dsimp only; omega, hb⟩, ⟨by dsimp only; omega, by dsimp only; omega⟩, hb, by dsimp only; omega⟩ ⟨by simp [ndT]; omega, by simp [ndTB]; omega, fun e => by simp at e, ?_⟩
  simp [goesJ, ndT, ndG, ndTB, ndGB]
 have t3 : Ty nb (n + 1 + k0 + 1) [(⟨6, a2, b2, z2, l2⟩ : J)] (s + 1, b) (s, b) ((a1, (s, b)) :: (a2, (s + 1, b)) :: E) := Ty.jump ⟨⟨by dsimp only; omega, hb⟩, ⟨hs, by dsimp only; omega⟩, hb, by dsimp only; omega⟩ (List.mem_cons_of_mem _ (List.mem_cons_self ..))
 have t4 := h1.2.2.2 s b ((a2, (s + 1, b)) :: E) hs hb
 exact (((((t0.cat t1 rfl).cat t2 (by simp [h0.1]; try omega)).cat t3 (by simp [h0.1]; try omega)).endc' (by simp [h0.1]; try omega)).cat t4 (by simp [h0.1]; try omega)).endc' (by simp [h0.1, h1.1]; try omega)
theorem FX.handler {t a1 b1 a2 b2 : Int} {z1 z2 : ByteArray} {l1 l2 : Int} (h1 : FX PL nb n k1 c1 t) (h2 : FC PL nb (n + k1) k2 c2 1) (ht : t = (n : Int) + (k1 + k2 + 1)) (ha : a1 = (n : Int) + (k1 + k2 + 2)) (hl1 : PL l1) (hl2 : PL l2) :
  FC PL nb n (k1 + k2 + 2) (c1 ++ c2 ++ [⟨6, a1, b1, z1, l1⟩] ++ [⟨31, a2, b2, z2, l2⟩]) 1 := by
 refine ⟨by simp [h1.1, h2.1]; omega, lines_cat (lines_cat (lines_cat h1.2.1 h2.2.1) (lines_one hl1)) (lines_one hl2), by omega, fun s b E hs hb => ?_⟩
 have t1 := h1.2.2 s b ((a1, (s + 1, b)) :: E) hs hb
 have t2 := h2.2.2.2 s b ((t, (s, b)) :: (a1, (s + 1, b)) :: E) hs hb
 have t3 : Ty nb (n + k1 + k2) [(⟨6, a1, b1, z1, l1⟩ : J)] (s + 1, b) (s, b) ((t, (s, b)) :: (a1, (s + 1, b)) :: E) := Ty.jump ⟨⟨by dsimp only; omega, hb⟩, ⟨hs, by dsimp only; omega⟩, hb, by dsimp only; omega⟩ (List.mem_cons_of_mem _ (List.mem_cons_self ..))
 have t4 : Ty nb (n + (k1 + k2 + 1)) [(⟨31, a2, b2, z2, l2⟩ : J)] (s, b) (s + 1, b) ((a1, (s + 1, b)) :: E) := Ty.stop (.inl rfl) ⟨⟨hs, hb⟩, ⟨by dsimp only; omega, by dsimp only; omega⟩, hb, by dsimp only; omega⟩
 exact ((((t1.cat t2 (by rw [h1.1])).cat t3 (by simp [h1.1, h2.1]; try omega)).endc' (by simp [h1.1, h2.1]; try omega)).cat t4 (by simp [h1.1, h2.1]; try omega)).endc' (by simp [h1.1, h2.1]; try omega)
theorem FX.arm {t a1 b1 b2 : Int} {z1 z2 : ByteArray} {l1 l2 : Int} (h0 : FC PL nb n k0 c0 1) (h1 : FC PL nb (n + k0 + 1) k1 c1 0) (ha1 : a1 = (n : Int) + (k0 + 1 + k1 + 1)) (hl1 : PL l1) (hl2 : PL l2) :
  FX PL nb n (k0 + 1 + k1 + 1) (c0 ++ [⟨7, a1, b1, z1, l1⟩] ++ c1 ++ [⟨6, t, b2, z2, l2⟩]) t := by
 refine ⟨by simp [h0.1, h1.1]; omega, lines_cat (lines_cat (lines_cat h0.2.1 (lines_one hl1)) h1.2.1) (lines_one hl2), fun s b E hs hb => ?_⟩
 have t0 := h0.2.2.2 s b ((a1, (s, b)) :: (t, (s, b)) :: E) hs hb
 have t2 := h1.2.2.2 s b ((a1, (s, b)) :: (t, (s, b)) :: E) hs hb
 rw [Int.add_zero] at t2
 have t3 : Ty nb (n + k0 + 1 + k1) [(⟨6, t, b2, z2, l2⟩ : J)] (s, b) (s, b) ((a1, (s, b)) :: (t, (s, b)) :: E) := Ty.jump ⟨⟨hs, hb⟩, ⟨hs, by dsimp only; omega⟩, hb, by dsimp only; omega⟩ (List.mem_cons_of_mem _ (List.mem_cons_self ..))
 exact (((t0.cat (Ty.jumpNot hs hb (List.mem_cons_self ..)) (by rw [h0.1])).cat t2 (by simp [h0.1]; try omega)).cat t3 (by simp [h0.1, h1.1]; try omega)).endc' (by simp [h0.1, h1.1]; try omega)
theorem FX.except {t u a1 b1 b2 a3 b3 : Int} {z1 z2 z3 : ByteArray} {l1 l2 l3 : Int} (h0 : FX PL nb n k0 c0 u) (h1 : FC PL nb (n + k0 + 2) k1 c1 0) (hu : u = (n : Int) + (k0 + 2 + k1 + 1)) (hl1 : PL l1) (hl2 : PL l2) (hl3 : PL l3) :
  FX PL nb n (k0 + 2 + k1 + 1) (c0 ++ [⟨29, a1, b1, z1, l1⟩] ++ [⟨30, a3, b3, z3, l3⟩] ++ c1 ++ [⟨6, t, b2, z2, l2⟩]) t := by
 refine ⟨by simp [h0.1, h1.1]; omega, lines_cat (lines_cat (lines_cat (lines_cat h0.2.1 (lines_one hl1)) (lines_one hl3)) h1.2.1) (lines_one hl2), fun s b E hs hb => ?_⟩
 have t0 := h0.2.2 s b ((t, (s, b)) :: E) hs hb
 have t1 : Ty nb (n + k0) [(⟨29, a1, b1, z1, l1⟩ : J)] (s, b) (s, b) ((u, (s, b)) :: (t, (s, b)) :: E) := by
  refine Ty.one ⟨⟨hs, hb⟩, ⟨hs, by dsimp only; omega⟩, hb, by dsimp only; omega⟩ ⟨by simp [ndT]; omega, by simp [ndTB]; omega, fun e => by simp at e, ?_⟩
  simp [goesJ, ndT, ndG, ndTB, ndGB]
 have t2 : Ty nb (n + k0 + 1) [(⟨30, a3, b3, z3, l3⟩ : J)] (s, b) (s, b) ((u, (s, b)) :: (t, (s, b)) :: E) := by
  refine Ty.one ⟨⟨hs, hb⟩, ⟨hs, by dsimp only; omega⟩, hb, by dsimp only; omega⟩ ⟨by simp [ndT]; omega, by simp [ndTB]; omega, fun e => by simp at e, ?_⟩
  simp [goesJ, ndT, ndG, ndTB, ndGB]
 have t3 := h1.2.2.2 s b ((u, (s, b)) :: (t, (s, b)) :: E) hs hb
 rw [Int.add_zero] at t3
 have t4 : Ty nb (n + k0 + 2 + k1) [(⟨6, t, b2, z2, l2⟩ : J)] (s, b) (s, b) ((u, (s, b)) :: (t, (s, b)) :: E) := Ty.jump ⟨⟨hs, hb⟩, ⟨hs, by dsimp only; omega⟩, hb, by dsimp only; omega⟩ (List.mem_cons_of_mem _ (List.mem_cons_self ..))
 exact ((((t0.cat t1 (by rw [h0.1])).cat t2 (by simp [h0.1]; try omega)).cat t3 (by simp [h0.1]; try omega)).cat t4 (by simp [h0.1, h1.1]; try omega)).endc' (by simp [h0.1, h1.1]; try omega)
theorem FC.try {a1 b1 a2 b2 a3 b3 t a4 b4 : Int} {z1 z2 z3 z4 : ByteArray} {l1 l2 l3 l4 : Int} (h0 : FC PL nb (n + 1) k0 c0 0) (h1 : FX PL nb (n + (k0 + 3)) k1 c1 t) (ha1 : a1 = (n : Int) + (k0 + 3)) (ht : t = (n : Int) + (k0 + 3 + k1 + 1)) (hl1 : PL l1) (hl2 : PL l2) (hl3 : PL l3) (hl4 : PL l4) :
  FC PL nb n (k0 + 3 + k1 + 1) ([⟨24, a1, b1, z1, l1⟩] ++ c0 ++ [⟨26, a2, b2, z2, l2⟩] ++ [⟨6, t, b3, z3, l3⟩] ++ c1 ++ [⟨31, a4, b4, z4, l4⟩]) 0 := by
 refine ⟨by simp [h0.1, h1.1]; omega, lines_cat (lines_cat (lines_cat (lines_cat (lines_cat (lines_one hl1) h0.2.1) (lines_one hl2)) (lines_one hl3)) h1.2.1) (lines_one hl4), by omega, fun s b E hs hb => ?_⟩
 rw [Int.add_zero]
 have t0 : Ty nb n [(⟨24, a1, b1, z1, l1⟩ : J)] (s, b) (s, b) ((a1, (s, b)) :: (t, (s, b)) :: E) := Ty.fork2 (.inl rfl) hs hb (List.mem_cons_self ..)
 have t1 := h0.2.2.2 s b ((a1, (s, b)) :: (t, (s, b)) :: E) hs hb
 rw [Int.add_zero] at t1
 have t2 : Ty nb (n + 1 + k0) [(⟨26, a2, b2, z2, l2⟩ : J)] (s, b) (s, b) ((a1, (s, b)) :: (t, (s, b)) :: E) := by
  refine Ty.one ⟨⟨hs, hb⟩, ⟨hs, by dsimp only; omega⟩, hb, by dsimp only; omega⟩ ⟨by simp [ndT]; omega, by simp [ndTB]; omega, fun e => by simp at e, ?_⟩
  simp [goesJ, ndT, ndG, ndTB, ndGB]
 have t3 : Ty nb (n + 1 + k0 + 1) [(⟨6, t, b3, z3, l3⟩ : J)] (s, b) (s, b) ((a1, (s, b)) :: (t, (s, b)) :: E) := Ty.jump ⟨⟨hs, hb⟩, ⟨hs, by dsimp only; omega⟩, hb, by dsimp only; omega⟩ (List.mem_cons_of_mem _ (List.mem_cons_self ..))
 have t4 := h1.2.2 s b E hs hb
 have t5 : Ty nb (n + (k0 + 3) + k1) [(⟨31, a4, b4, z4, l4⟩ : J)] (s, b) (s, b) ((t, (s, b)) :: E) := Ty.stop (.inl rfl) ⟨⟨hs, hb⟩, ⟨hs, by dsimp only; omega⟩, hb, by dsimp only; omega⟩
 exact ((((((t0.cat t1 rfl).cat t2 (by simp [h0.1]; try omega)).cat t3 (by simp [h0.1]; try omega)).endc' (by simp [h0.1]; try omega)).cat t4 (by simp [h0.1]; try omega)).cat t5 (by simp [h0.1, h1.1]; try omega)).endc' (by simp [h0.1, h1.1]; try omega)
theorem FC.finally {a1 b1 a2 b2 a3 b3 a4 b4 : Int} {z1 z2 z3 z4 : ByteArray} {l1 l2 l3 l4 : Int} (h0 : FC PL nb (n + 1) k0 c0 0) (h1 : FC PL nb (n + (k0 + 3)) k1 c1 0) (ha1 : a1 = (n : Int) + (k0 + 3)) (hl1 : PL l1) (hl2 : PL l2) (hl3 : PL l3) (hl4 : PL l4) :
  FC PL nb n (k0 + 3 + k1 + 1) ([⟨25, a1, b1, z1, l1⟩] ++ c0 ++ [⟨26, a2, b2, z2, l2⟩] ++ [⟨32, a3, b3, z3, l3⟩] ++ c1 ++ [⟨33, a4, b4, z4, l4⟩]) 0 := by
 refine ⟨by simp [h0.1, h1.1]; omega, lines_cat (lines_cat (lines_cat (lines_cat (lines_cat (lines_one hl1) h0.2.1) (lines_one hl2)) (lines_one hl3)) h1.2.1) (lines_one hl4), by omega, fun s b E hs hb => ?_⟩
 rw [Int.add_zero]
 have t0 : Ty nb n [(⟨25, a1, b1, z1, l1⟩ : J)] (s, b) (s, b) ((a1, (s, b)) :: E) := Ty.fork2 (.inr rfl) hs hb (List.mem_cons_self ..)
 have t1 := h0.2.2.2 s b ((a1, (s, b)) :: E) hs hb
 rw [Int.add_zero] at t1
 have simple : ∀ (m : Nat) (op : Int) (a' b' : Int) (z : ByteArray) (l : Int) (F : List (Int × Int × Int)), op = 26 ∨ op = 32 ∨ op = 33 → Ty nb m [(⟨op, a', b', z, l⟩ : J)] (s, b) (s, b) F := fun m op a' b' z l F ho => by
  refine Ty.one ⟨⟨hs, hb⟩, ⟨hs, by dsimp only; omega⟩, hb, by dsimp only; omega⟩ ?_
  rcases ho with rfl | rfl | rfl
  all_goals
   refine ⟨by simp [ndT]; omega, by simp [ndTB]; omega, fun e => by simp at e, ?_⟩
   simp [goesJ, ndT, ndG, ndTB, ndGB]
 have t4 := h1.2.2.2 s b E hs hb
 rw [Int.add_zero] at t4
 exact (((((t0.cat t1 rfl).cat (simple (n + 1 + k0) 26 a2 b2 z2 l2 _ (.inl rfl)) (by simp [h0.1]; try omega)).cat (simple (n + 1 + k0 + 1) 32 a3 b3 z3 l3 _ (.inr (.inl rfl))) (by simp [h0.1]; try omega)).endc' (by simp [h0.1]; try omega)).cat t4 (by simp [h0.1]; try omega)).cat (simple (n + (k0 + 3) + k1) 33 a4 b4 z4 l4 _ (.inr (.inr rfl))) (by simp [h0.1, h1.1]; try omega)
theorem okJ.goes {R : Int → Int × Int → Prop} {k : Nat} {j : J} {p q : Int × Int} (h45 : j.op ≠ 45) (h8 : ¬ (j.op = 8 ∨ j.op = 9)) (h1 : ndT j.op j.a (decide (j.s = ⟨#[]⟩)) ≤ p.1) (h2 : ndTB j.op ≤ p.2) (hq : (p.1 - ndT j.op j.a (decide (j.s = ⟨#[]⟩)) + ndG j.op, p.2 - ndTB j.op + ndGB j.op) = q) (h3 : ∀ t ∈ goesJ j k, R t q) : okJ nb R k j p := by
 refine ⟨h1, h2, fun e => absurd e h45, ?_⟩
 rw [if_neg h8, hq]
 exact h3
theorem FC.loop {a1 b1 a2 b2 a3 b3 b4 : Int} {z1 z2 z3 z4 : ByteArray} {l1 l2 l3 l4 : Int} {o1 o2 h : Int} (hh : (h = 1 ∧ o1 = 36 ∧ o2 = 37) ∨ (h = 2 ∧ o1 = 38 ∧ o2 = 39)) (h0 : FC PL nb n k0 c0 h) (h1 : FC PL nb (n + k0 + 2) k1 c1 0)
  (ha1 : a1 = (n : Int) + (k0 + 2 + k1 + 1)) (ha2 : a2 = (n : Int) + (k0 + 2 + k1 + 1)) (hb1 : b1 = (n : Int) + (k0 + 1)) (ha3 : a3 = (n : Int) + (k0 + 1)) (hl1 : PL l1) (hl2 : PL l2) (hl3 : PL l3) (hl4 : PL l4) :
  FC PL nb n (k0 + 2 + k1 + 2) (c0 ++ ([⟨o1, a1, b1, z1, l1⟩] ++ ([⟨o2, a2, b2, z2, l2⟩] ++ c1 ++ [⟨6, a3, b3, z3, l3⟩])) ++ [⟨41, h + 1, b4, z4, l4⟩]) 0 := by
 refine ⟨by simp [h0.1, h1.1]; omega, lines_cat (lines_cat h0.2.1 (lines_cat (lines_one hl1) (lines_cat (lines_cat (lines_one hl2) h1.2.1) (lines_one hl3)))) (lines_one hl4), by omega, fun s b E hs hb => ?_⟩
 rw [Int.add_zero]
 have hh0 : 0 ≤ h := h0.2.2.1
 have t0 := h0.2.2.2 s b E hs hb
 have t1 : Ty nb (n + k0) [(⟨o1, a1, b1, z1, l1⟩ : J)] (s + h, b) (s + h + 1, b) ((b1, (s + h + 1, b)) :: (a1, (s + h + 1, b)) :: E) := by
  refine Ty.one ⟨⟨by dsimp only; omega, hb⟩, ⟨by dsimp only; omega, by dsimp only; omega⟩, hb, by dsimp only; omega⟩ ?_
  rcases hh with ⟨rfl, rfl, rfl⟩ | ⟨rfl, rfl, rfl⟩
  all_goals
   refine okJ.goes (q := _) (by simp) (by simp) (by simp [ndT]; try omega) (by simp [ndTB]; try omega) rfl ?_
   intro t ht
   simp [goesJ] at ht
   simp [ndT, ndG, ndTB, ndGB]
   rcases ht with rfl | rfl | rfl
   ·left; omega
   ·right; right; left; exact ⟨rfl, by omega⟩
   ·right; left; exact ⟨rfl, by omega⟩
 have t2 : Ty nb (n + k0 + 1) [(⟨o2, a2, b2, z2, l2⟩ : J)] (s + h + 1, b) (s + h + 1, b) ((b1, (s + h + 1, b)) :: (a1, (s + h + 1, b)) :: E) := by
  refine Ty.one ⟨⟨by dsimp only; omega, hb⟩, ⟨by dsimp only; omega, by dsimp only; omega⟩, hb, by dsimp only; omega⟩ ?_
  rcases hh with ⟨rfl, rfl, rfl⟩ | ⟨rfl, rfl, rfl⟩
  all_goals
   refine okJ.goes (q := _) (by simp) (by simp) (by simp [ndT]; try omega) (by simp [ndTB]; try omega) rfl ?_
   intro t ht
   simp [goesJ] at ht
   simp [ndT, ndG, ndTB, ndGB]
   rcases ht with rfl | rfl
   ·left; omega
   ·right; right; left; first | omega | exact ⟨by omega, by omega⟩
 have t3 := h1.2.2.2 (s + h + 1) b ((b1, (s + h + 1, b)) :: (a1, (s + h + 1, b)) :: E) (by omega) hb
 rw [Int.add_zero] at t3
 have t4 : Ty nb (n + k0 + 2 + k1) [(⟨6, a3, b3, z3, l3⟩ : J)] (s + h + 1, b) (s + h + 1, b) ((b1, (s + h + 1, b)) :: (a1, (s + h + 1, b)) :: E) := Ty.jump ⟨⟨by dsimp only; omega, hb⟩, ⟨by dsimp only; omega, by dsimp only; omega⟩, hb, by dsimp only; omega⟩ (by rw [ha3, ← hb1]; exact List.mem_cons_self ..)
 have t5 : Ty nb (n + (k0 + 2 + k1 + 1)) [(⟨41, h + 1, b4, z4, l4⟩ : J)] (s + h + 1, b) (s, b) E := by
  refine Ty.one ⟨⟨by dsimp only; omega, hb⟩, ⟨hs, by dsimp only; omega⟩, hb, by dsimp only; omega⟩ ?_
  refine okJ.goes (q := (s, b)) (by simp) (by simp) (by simp [ndT]; try omega) (by simp [ndTB]; try omega) (by simp [ndT, ndG, ndTB, ndGB]; try omega) ?_
  intro t ht
  simp [goesJ] at ht
  exact .inl ⟨ht, rfl⟩
 have body := ((t2.cat t3 (by simp; try omega)).cat t4 (by simp [h1.1]; try omega)).begc' (by rw [hb1]; omega)
 have t1e := t1.endc' (by simp; omega)
 have lp := (t1e.cat body (by simp)).endc' (by simp [h1.1]; omega)
 exact (t0.cat lp (by rw [h0.1])).cat t5 (by simp [h0.1, h1.1]; omega)
theorem FC.while {a1 b1 a2 b2 a3 b3 a4 b4 a5 b5 : Int} {z1 z2 z3 z4 z5 : ByteArray} {l1 l2 l3 l4 l5 : Int} (h0 : FC PL nb (n + 1) k0 c0 1) (h1 : FC PL nb (n + (k0 + 3)) k1 c1 0)
  (ha1 : a1 = (n : Int) + (k0 + 3 + k1 + 1)) (hb1 : b1 = (n : Int) + 1) (ha2 : a2 = (n : Int) + (k0 + 3 + k1 + 1)) (ha4 : a4 = (n : Int) + 1) (ha5 : a5 = 0) (hl1 : PL l1) (hl2 : PL l2) (hl3 : PL l3) (hl4 : PL l4) (hl5 : PL l5) :
  FC PL nb n (k0 + 3 + k1 + 2) ([⟨40, a1, b1, z1, l1⟩] ++ (c0 ++ [⟨7, a2, b2, z2, l2⟩] ++ [⟨35, a3, b3, z3, l3⟩] ++ c1 ++ [⟨6, a4, b4, z4, l4⟩]) ++ [⟨41, a5, b5, z5, l5⟩]) 0 := by
 refine ⟨by simp [h0.1, h1.1]; omega, lines_cat (lines_cat (lines_one hl1) (lines_cat (lines_cat (lines_cat (lines_cat h0.2.1 (lines_one hl2)) (lines_one hl3)) h1.2.1) (lines_one hl4))) (lines_one hl5), by omega, fun s b E hs hb => ?_⟩
 rw [Int.add_zero]
 have t1 : Ty nb n [(⟨40, a1, b1, z1, l1⟩ : J)] (s, b) (s, b) ((b1, (s, b)) :: (a1, (s, b)) :: E) := by
  refine Ty.one ⟨⟨hs, hb⟩, ⟨hs, by dsimp only; omega⟩, hb, by dsimp only; omega⟩ ?_
  refine okJ.goes (q := (s, b)) (by simp) (by simp) (by simp [ndT]; try omega) (by simp [ndTB]; try omega) (by simp [ndT, ndG, ndTB, ndGB]; try omega) ?_
  intro t ht
  simp [goesJ] at ht
  rcases ht with rfl | rfl | rfl
  ·exact .inl ⟨rfl, rfl⟩
  ·exact .inr (List.mem_cons_of_mem _ (List.mem_cons_self ..))
  ·exact .inr (List.mem_cons_self ..)
 have t2 := h0.2.2.2 s b ((b1, (s, b)) :: (a1, (s, b)) :: E) hs hb
 have t3 : Ty nb (n + 1 + k0) [(⟨7, a2, b2, z2, l2⟩ : J)] (s + 1, b) (s, b) ((b1, (s, b)) :: (a1, (s, b)) :: E) := Ty.jumpNot hs hb (by rw [ha2, ← ha1]; exact List.mem_cons_of_mem _ (List.mem_cons_self ..))
 have t4 : Ty nb (n + 1 + k0 + 1) [(⟨35, a3, b3, z3, l3⟩ : J)] (s, b) (s, b) ((b1, (s, b)) :: (a1, (s, b)) :: E) := by
  refine Ty.one ⟨⟨hs, hb⟩, ⟨hs, by dsimp only; omega⟩, hb, by dsimp only; omega⟩ ⟨by simp [ndT]; omega, by simp [ndTB]; omega, fun e => by simp at e, ?_⟩
  simp [goesJ, ndT, ndG, ndTB, ndGB]
 have t5 := h1.2.2.2 s b ((b1, (s, b)) :: (a1, (s, b)) :: E) hs hb
 rw [Int.add_zero] at t5
 have t6 : Ty nb (n + (k0 + 3 + k1)) [(⟨6, a4, b4, z4, l4⟩ : J)] (s, b) (s, b) ((b1, (s, b)) :: (a1, (s, b)) :: E) := Ty.jump ⟨⟨hs, hb⟩, ⟨hs, by dsimp only; omega⟩, hb, by dsimp only; omega⟩ (by rw [ha4, ← hb1]; exact List.mem_cons_self ..)
 have t7 : Ty nb (n + (k0 + 3 + k1 + 1)) [(⟨41, a5, b5, z5, l5⟩ : J)] (s, b) (s, b) E := by
  refine Ty.one ⟨⟨hs, hb⟩, ⟨hs, by dsimp only; omega⟩, hb, by dsimp only; omega⟩ ?_
  refine okJ.goes (q := (s, b)) (by simp) (by simp) (by simp [ndT]; try omega) (by simp [ndTB]; try omega) (by simp [ndT, ndG, ndTB, ndGB]; try omega) ?_
  intro t ht
  simp [goesJ] at ht
  exact .inl ⟨ht, rfl⟩
 have body := ((((t2.cat t3 (by simp [h0.1])).cat t4 (by simp [h0.1]; omega)).cat t5 (by simp [h0.1]; omega)).cat t6 (by simp [h0.1, h1.1]; omega)).begc' (by rw [hb1]; omega)
 have t1e := t1.endc' (by simp; omega)
 have lp := (t1e.cat body (by simp)).endc' (by simp [h0.1, h1.1]; omega)
 exact lp.cat t7 (by simp [h0.1, h1.1]; omega)
theorem FC.fork {a1 b1 : Int} {z1 : ByteArray} {l1 : Int} (h0 : FC PL nb n k0 c0 1) (ha : 0 ≤ a1 ∧ a1 < nb) (hl1 : PL l1) : FC PL nb n (k0 + 1) (c0 ++ [⟨45, a1, b1, z1, l1⟩]) 0 :=
 h0.put 1 0 (fun m => by simp [goesJ]) (by simp) (fun _ => ha) (by simp [ndT]) (by simp [ndG]) (by simp [ndTB, ndGB]) (by omega) (by omega) hl1 (by omega)
theorem FC.back {a1 b1 : Int} {z1 : ByteArray} {l1 : Int} (h0 : FC PL nb n k0 c0 1) (hl1 : PL l1) : FC PL nb n (k0 + 1) (c0 ++ [⟨44, a1, b1, z1, l1⟩]) 0 := by
 refine ⟨by simp [h0.1], lines_cat h0.2.1 (lines_one hl1), by omega, fun s b E hs hb => ?_⟩
 rw [Int.add_zero]
 exact (h0.2.2.2 s b E hs hb).cat (Ty.back ⟨⟨by dsimp only; omega, hb⟩, ⟨hs, by dsimp only; omega⟩, hb, by dsimp only; omega⟩) (by rw [h0.1])
theorem FC.leave {op a1 b1 : Int} {z1 : ByteArray} {l1 : Int} (hop : op = 42 ∨ op = 43) (hl1 : PL l1) : FC PL nb n 1 [⟨op, a1, b1, z1, l1⟩] 0 := by
 refine ⟨rfl, lines_one hl1, by omega, fun s b E hs hb => ?_⟩
 rw [Int.add_zero]
 exact Ty.stop (.inr hop) ⟨⟨hs, hb⟩, ⟨hs, by dsimp only; omega⟩, hb, by dsimp only; omega⟩
end
section
open Go.RowKit
set_option maxRecDepth 100000 in
set_option maxHeartbeats 1600000 in
theorem tdeep_any : ∀ (N : Nat) (l : List Nd), cntL l < N → cntL l ≤ 4611686018427387904 → ∀ (D : Nat → Prop) (w : World) (v : Value), NL D w l v →
  Calls Tryz.prog 80 #[v] w fun e w' => e = .returned (.int .i64 (depL l)) ∧ Fr (fun _ => False) w w' := by
 intro N
 induction N with
 | zero =>
  intro l hN hM D w v h
  omega
 | succ N ih =>
  intro l hN hM D w v h
  have hll := len_le_cnt l
  obtain ⟨a, cap, us, rfl, hc, hm, hn, hb, hi⟩ := h
  have hlI : (l.length : Int) ≤ 4611686018427387904 := by omega
  have HB := hid hb; have HI := hid hi; have HM := hid hM; have HN := hid hN
  clear hb hi hM hN hn hll hc hm
  go_enter Tryz.func80, Tryz.ntmps80
  go_wp2
  go_loopw [3, 8] (fun n i wr => ∃ k : Nat, k ≤ l.length ∧ i = .int .i64 k ∧ n = .int .i64 (depL (l.take k)) ∧ Fr (fun _ => False) w wr) (fun _ i _ => l.length - (intOf i).toNat)
  case atStart => exact ⟨0, Nat.zero_le _, rfl, by simp [depL], Fr.refl _ _⟩
  case round =>
   obtain ⟨k, hk, rfl, rfl, hf⟩ := hrel
   by_cases hlt : k < l.length
   ·obtain ⟨b, o, y, va, c1, a', c', rfl, -, hy, hv, e0, e1, e2, e3, e4, e5, e6, e7⟩ := NL.elem HB.out HI.out k hlt
    replace e0 := hf.cell e0 not_false
    replace e1 := hf.cell e1 not_false
    replace e2 := hf.cell e2 not_false
    replace e3 := hf.cell e3 not_false
    replace e4 := hf.cell e4 not_false
    replace e5 := hf.cell e5 not_false
    replace e6 := hf.cell e6 not_false
    replace e7 := hf.cell e7 not_false
    have t1 := cntL_take l k y hy
    have t2 := cntL_mem hy
    have t3 := cntL_take_le l (k + 1)
    have t4 := Nd.cnt_eq y
    obtain ⟨va2, vl, he, -, hyl⟩ := hv.open
    obtain rfl : vl = .slice a' y.l.length c' := by simpa using (congrArg (fun q => q.getD 7 undef) he).symm
    have hcl := fun o' => ih y.l (by have := HN.out; omega) (by have := HM.out; omega) D (wr.alloc o') _ (hyl.frame (hf.alloc o') fun _ _ => not_false)
    have d1 := depL_take l k y hy
    have d2 := Nd.dep_eq y
    have d3 := depL_le' y.l
    have d4 := depL_le' (l.take k)
    have d5 := cntL_take_le l k
    have hdy : (depL y.l : Int) ≤ 4611686018427387904 := by have := HM.out; omega
    have hdk : (depL (l.take k) : Int) ≤ 4611686018427387904 := by have := HM.out; omega
    have hmx : (depL (l.take (k + 1)) : Int) = max (depL (l.take k) : Int) (1 + depL y.l) := by omega
    have HMX := hid hmx; have HF := hid hf; have HC := hid hcl
    clear d1 d2 d3 d4 d5 hmx
    clear t1 t2 t3 t4 hv hyl he hcl hf hy
    go_wp2_with fail
    refine (HC.out _).mono ?_
    rintro e w2 ⟨rfl, hf2⟩
    have HF2 := hid ((HF.out.alloc _).trans' hf2); clear hf2
    generalize depL (l.take k) = p at *
    generalize depL y.l = q at *
    by_cases hpq : (p : Int) ≤ 1 + q
    ·go_wp2
     all_goals
      go_roundw
      case rel => exact ⟨k + 1, by omega, by go_num, int_eq (by rw [HMX.out]; omega), HF2.out⟩
      case measure => simp [intOf]; omega
    ·go_wp2
     all_goals
      go_roundw
      case rel => exact ⟨k + 1, by omega, by go_num, int_eq (by rw [HMX.out]; omega), HF2.out⟩
      case measure => simp [intOf]; omega
   ·obtain rfl : k = l.length := by omega
    go_wp2
    go_ret
    exact ⟨ret_int (by rw [List.take_length]), hf⟩
set_option maxRecDepth 100000 in
set_option maxHeartbeats 1600000 in
theorem cnt_any : ∀ (N : Nat) (l : List Nd), cntL l < N → cntL l ≤ 4611686018427387904 → ∀ (n : Nat), n ≤ 4096 → ∀ (D : Nat → Prop) (w : World) (v : Value), NL D w l v →
  Calls Tryz.prog 79 #[v, .int .i64 n] w fun e w' => e = .returned (.int .i64 (min (n + cntL l) 4097 : Nat)) ∧ Fr (fun _ => False) w w' := by
 intro N
 induction N with
 | zero =>
  intro l hN hM n hn0 D w v h
  omega
 | succ N ih =>
  intro l hN hM n hn0 D w v h
  have hll := len_le_cnt l
  obtain ⟨a, cap, us, rfl, hc, hm, hn, hb, hi⟩ := h
  have hlI : (l.length : Int) ≤ 4611686018427387904 := by omega
  have HB := hid hb; have HI := hid hi; have HM := hid hM; have HN := hid hN
  clear hb hi hM hN hn hll hc hm
  go_enter Tryz.func79, Tryz.ntmps79
  go_wp2
  go_loopw [1, 9] (fun m i wr => ∃ k : Nat, k ≤ l.length ∧ i = .int .i64 k ∧ m = .int .i64 (n + cntL (l.take k) : Nat) ∧ n + cntL (l.take k) ≤ 4096 ∧ Fr (fun _ => False) w wr) (fun _ i _ => l.length - (intOf i).toNat)
  case atStart => exact ⟨0, Nat.zero_le _, rfl, by simp [cntL], by simp [cntL]; exact hn0, Fr.refl _ _⟩
  case round =>
   obtain ⟨k, hk, rfl, rfl, hb4, hf⟩ := hrel
   by_cases hlt : k < l.length
   ·obtain ⟨b, o, y, va, c1, a', c', rfl, -, hy, hv, e0, e1, e2, e3, e4, e5, e6, e7⟩ := NL.elem HB.out HI.out k hlt
    replace e0 := hf.cell e0 not_false
    replace e1 := hf.cell e1 not_false
    replace e2 := hf.cell e2 not_false
    replace e3 := hf.cell e3 not_false
    replace e4 := hf.cell e4 not_false
    replace e5 := hf.cell e5 not_false
    replace e6 := hf.cell e6 not_false
    replace e7 := hf.cell e7 not_false
    have t1 := cntL_take l k y hy
    have t2 := cntL_mem hy
    have t3 := cntL_take_le l (k + 1)
    have t4 := Nd.cnt_eq y
    obtain ⟨va2, vl, he, -, hyl⟩ := hv.open
    obtain rfl : vl = .slice a' y.l.length c' := by simpa using (congrArg (fun q => q.getD 7 undef) he).symm
    obtain ⟨p, hp⟩ : ∃ p, n + cntL (l.take k) = p := ⟨_, rfl⟩
    rw [hp] at hb4
    rw [hp]
    have hpI : (p : Int) ≤ 4096 := by omega
    have htk := cntL_take_le l (k + 1)
    have HF := hid hf
    by_cases h5 : (4096 : Int) < (p : Int) + 1
    ·have hres := hid (show (p : Int) + 1 = (min (n + cntL l) 4097 : Nat) by omega)
     clear t1 t2 t3 t4 hv hyl he hf hy htk hp
     go_wp2
     go_ret
     exact ⟨ret_int hres.out, HF.out.alloc _⟩
    ·obtain ⟨p1, hp1⟩ : ∃ p1 : Nat, (p : Int) + 1 = p1 := ⟨p + 1, by omega⟩
     have hcl := fun o' => ih y.l (by have := HN.out; omega) (by have := HM.out; omega) (p + 1) (by omega) D (wr.alloc o') _ (hyl.frame (hf.alloc o') fun _ _ => not_false)
     obtain ⟨c9, hc9⟩ : ∃ c9, cntL y.l = c9 := ⟨_, rfl⟩
     have hx1 : n + cntL (l.take (k + 1)) = p + 1 + c9 := by omega
     have hx2 : p + 1 + c9 ≤ n + cntL l := by omega
     rw [hc9] at hcl
     have HC := hid hcl; have HX1 := hid hx1; have HX2 := hid hx2
     clear t1 t2 t3 t4 hv hyl he hcl hf hy htk hp hp1 hc9 hx1 hx2
     go_wp2_with fail
     refine (HC.out _).mono ?_
     rintro e w2 ⟨rfl, hf2⟩
     have HF2 := hid ((HF.out.alloc _).trans' hf2)
     clear hf2
     by_cases h6 : p + 1 + c9 ≤ 4096
     ·have h7 : (min (p + 1 + c9) 4097 : Nat) = p + 1 + c9 := by omega
      rw [h7]
      have h8 : ¬ (4096 : Int) < ((p + 1 + c9 : Nat) : Int) := by omega
      obtain ⟨r, hr⟩ : ∃ r, p + 1 + c9 = r := ⟨_, rfl⟩
      rw [hr] at h8 ⊢
      have HRR := hid hr
      clear h6 h7 hr
      go_wp2_with fail
      go_roundw
      case rel => exact ⟨k + 1, by omega, by go_num, int_eq (by have := HX1.out; have := HRR.out; omega), by have := HX1.out; have := HRR.out; omega, HF2.out⟩
      case measure => simp [intOf]; omega
     ·have h7 : (min (p + 1 + c9) 4097 : Nat) = 4097 := by omega
      rw [h7]
      have hres := hid (show (4097 : Int) = (min (n + cntL l) 4097 : Nat) by have := HX2.out; omega)
      clear h6 h7
      go_wp2_with fail
      go_ret
      exact ⟨ret_int hres.out, HF2.out⟩
   ·obtain rfl : k = l.length := by omega
    go_wp2
    go_ret
    exact ⟨ret_int (by rw [List.take_length] at *; omega), hf⟩
end
section
open Go.RowKit
def pLoops (op : Int) : Bool := op == 42 || op == 43 || op == 44
theorem loops_any (op : Int) (w : World) : Calls Tryz.prog 112 #[.int .i64 op] w fun e w' => e = .returned (.bool (pLoops op)) ∧ w = w' := by
 have HP := hid (show pLoops op = (op == 42 || op == 43 || op == 44) from rfl)
 by_cases h1 : op = 42
 ·subst h1
  go_enter Tryz.func112, Tryz.ntmps112
  go_wp2
  go_ret
  exact ⟨rfl, rfl⟩
 have q1 : (op == 42) = false := by simpa using h1
 by_cases h2 : op = 43
 ·subst h2
  go_enter Tryz.func112, Tryz.ntmps112
  go_wp2
  go_ret
  exact ⟨rfl, rfl⟩
 have q2 : (op == 43) = false := by simpa using h2
 by_cases h3 : op = 44
 ·subst h3
  go_enter Tryz.func112, Tryz.ntmps112
  go_wp2
  go_ret
  exact ⟨rfl, rfl⟩
 have q3 : (op == 44) = false := by simpa using h3
 have HR := hid (show pLoops op = false by rw [HP.out, q1, q2, q3]; rfl)
 clear h1 h2 h3
 go_enter Tryz.func112, Tryz.ntmps112
 go_wp2
 go_ret
 exact ⟨ret_bool HR.out.symm, rfl⟩
def pNamed (op : Int) : Bool × Bool := if op = 2 ∨ op = 24 ∨ op = 42 ∨ op = 43 then (true, false) else if op = 50 then (true, true) else (false, false)
theorem named_any (op : Int) (w : World) : Calls Tryz.prog 132 #[.int .i64 op] w fun e w' => e = .returned (.tuple #[.bool (pNamed op).1, .bool (pNamed op).2]) ∧ w = w' := by
 by_cases h0 : op = 2
 ·subst h0
  go_enter Tryz.func132, Tryz.ntmps132
  go_wp2
  go_ret2
  exact ⟨rfl, rfl⟩
 have q0 : (op == 2) = false := by simpa using h0
 by_cases h1 : op = 24
 ·subst h1
  go_enter Tryz.func132, Tryz.ntmps132
  go_wp2
  go_ret2
  exact ⟨rfl, rfl⟩
 have q1 : (op == 24) = false := by simpa using h1
 by_cases h2 : op = 42
 ·subst h2
  go_enter Tryz.func132, Tryz.ntmps132
  go_wp2
  go_ret2
  exact ⟨rfl, rfl⟩
 have q2 : (op == 42) = false := by simpa using h2
 by_cases h3 : op = 43
 ·subst h3
  go_enter Tryz.func132, Tryz.ntmps132
  go_wp2
  go_ret2
  exact ⟨rfl, rfl⟩
 have q3 : (op == 43) = false := by simpa using h3
 by_cases h4 : op = 50
 ·subst h4
  go_enter Tryz.func132, Tryz.ntmps132
  go_wp2
  go_ret2
  exact ⟨rfl, rfl⟩
 have q4 : (op == 50) = false := by simpa using h4
 have HP := hid (show pNamed op = (false, false) by unfold pNamed; rw [if_neg (by omega), if_neg (by omega)])
 clear h0 h1 h2 h3 h4
 go_enter Tryz.func132, Tryz.ntmps132
 go_wp2
 go_ret2
 exact ⟨by rw [HP.out]; rfl, rfl⟩
def isExpr (op : Int) : Bool := decide (1 ≤ op) && decide (op ≤ 29) && op != 26
def pStands (op role : Int) : Bool :=
 if role = 0 then isExpr op else if role = 1 then isExpr op || op == 26 else if role = 2 then op == 2 || op == 22 || op == 20 else if role = 3 then op == 2 else if role = 4 then op == 2 || op == 26 else
 if role = 5 then op == 25 else if role = 6 then op == 52 else if role = 8 then op == 50 else decide (40 ≤ op) && decide (op ≤ 51) && op != 50
set_option maxRecDepth 100000 in
set_option maxHeartbeats 6400000 in
theorem stands_any (x : Nd) (role : Int) (hr0 : 0 ≤ role) (hr8 : role ≤ 8) (va la : Value) (w : World) : Calls Tryz.prog 130 #[.agg #[.int .i64 x.op, .int .i64 x.ln, .string x.s, .int .i64 x.v.k, .int .i64 x.v.n, .string x.v.s, va, la], .int .i64 role] w fun e w' => e = .returned (.bool (pStands x.op role)) ∧ Fr (fun _ => False) w w' := by
 generalize x.op = op
 have HF := hid ((Fr.refl (fun _ => False) w).alloc (.cells #[.int .i64 op, .int .i64 x.ln, .string x.s, .int .i64 x.v.k, .int .i64 x.v.n, .string x.v.s, va, la] 75))
 have hg := heap_alloc_new w (.cells #[.int .i64 op, .int .i64 x.ln, .string x.s, .int .i64 x.v.k, .int .i64 x.v.n, .string x.v.s, va, la] 75)
 have d0 : (w.alloc (.cells #[.int .i64 op, .int .i64 x.ln, .string x.s, .int .i64 x.v.k, .int .i64 x.v.n, .string x.v.s, va, la] 75)).cell? ⟨w.heap.size, 0, none⟩ = some (.int .i64 op) := by rw [cell_of_row _ _ 0 _ _ _ hg]; rfl
 clear hg
 go_enter Tryz.func130, Tryz.ntmps130
 go_upto_region 1 with fail
 go_cut [5] from 6 to 18 (fun c wx => c = .bool (isExpr op) ∧ (w.alloc (.cells #[.int .i64 op, .int .i64 x.ln, .string x.s, .int .i64 x.v.k, .int .i64 x.v.n, .string x.v.s, va, la] 75)) = wx)
 case first =>
  by_cases h1 : 1 ≤ op
  ·by_cases h2 : op ≤ 29
   ·by_cases h3 : op = 26
    ·subst h3
     go_wp2_with fail
     go_meet
     exact ⟨rfl, rfl⟩
    ·have q3 : (op != 26) = true := by simpa using h3
     have HE := hid (show isExpr op = true by unfold isExpr; rw [decide_eq_true h1, decide_eq_true h2, q3]; rfl)
     clear h3
     go_wp2_with fail
     go_meet
     exact ⟨by rw [HE.out], rfl⟩
   ·have HE := hid (show isExpr op = false by unfold isExpr; rw [decide_eq_true h1, decide_eq_false h2]; rfl)
    go_wp2_with fail
    go_meet
    exact ⟨by rw [HE.out], rfl⟩
  ·have HE := hid (show isExpr op = false by unfold isExpr; rw [decide_eq_false h1]; rfl)
   go_wp2_with fail
   go_meet
   exact ⟨by rw [HE.out], rfl⟩
 case rest =>
 obtain ⟨rfl, rfl⟩ := hcut
 have hrole : role = 0 ∨ role = 1 ∨ role = 2 ∨ role = 3 ∨ role = 4 ∨ role = 5 ∨ role = 6 ∨ role = 7 ∨ role = 8 := by omega
 rcases hrole with rfl | rfl | rfl | rfl | rfl | rfl | rfl | rfl | rfl
 ·go_wp2_with fail
  go_ret
  exact ⟨rfl, HF.out⟩
 ·have HE := hid (show pStands op 1 = (isExpr op || op == 26) from rfl)
  generalize isExpr op = b at *
  cases b
  ·go_wp2_with fail
   go_ret
   exact ⟨ret_bool HE.out.symm, HF.out⟩
  ·go_wp2_with fail
   go_ret
   exact ⟨ret_bool HE.out.symm, HF.out⟩
 ·have HE := hid (show pStands op 2 = (op == 2 || op == 22 || op == 20) from rfl)
  by_cases h1 : op = 2
  ·subst h1
   go_wp2_with fail
   go_ret
   exact ⟨rfl, HF.out⟩
  have q1 : (op == 2) = false := by simpa using h1
  by_cases h2 : op = 22
  ·subst h2
   go_wp2_with fail
   go_ret
   exact ⟨rfl, HF.out⟩
  have q2 : (op == 22) = false := by simpa using h2
  have HE2 := hid (show pStands op 2 = (op == 20) by rw [HE.out, q1, q2]; rfl)
  clear h1 h2 HE
  go_wp2_with fail
  go_ret
  exact ⟨ret_bool HE2.out.symm, HF.out⟩
 ·go_wp2_with fail
  go_ret
  exact ⟨rfl, HF.out⟩
 ·have HE := hid (show pStands op 4 = (op == 2 || op == 26) from rfl)
  by_cases h1 : op = 2
  ·subst h1
   go_wp2_with fail
   go_ret
   exact ⟨rfl, HF.out⟩
  have q1 : (op == 2) = false := by simpa using h1
  have HE2 := hid (show pStands op 4 = (op == 26) by rw [HE.out, q1]; rfl)
  clear h1 HE
  go_wp2_with fail
  go_ret
  exact ⟨ret_bool HE2.out.symm, HF.out⟩
 ·go_wp2_with fail
  go_ret
  exact ⟨rfl, HF.out⟩
 ·go_wp2_with fail
  go_ret
  exact ⟨rfl, HF.out⟩
 ·have HE := hid (show pStands op 7 = (decide (40 ≤ op) && decide (op ≤ 51) && op != 50) from rfl)
  by_cases h1 : 40 ≤ op
  ·by_cases h2 : op ≤ 51
   ·have HE2 := hid (show pStands op 7 = (op != 50) by rw [HE.out, decide_eq_true h1, decide_eq_true h2]; rfl)
    clear HE
    go_wp2_with fail
    go_ret
    exact ⟨ret_bool HE2.out.symm, HF.out⟩
   ·have HE2 := hid (show pStands op 7 = false by rw [HE.out, decide_eq_true h1, decide_eq_false h2]; rfl)
    clear HE
    go_wp2_with fail
    go_ret
    exact ⟨ret_bool HE2.out.symm, HF.out⟩
  ·have HE2 := hid (show pStands op 7 = false by rw [HE.out, decide_eq_false h1]; rfl)
   clear HE
   go_wp2_with fail
   go_ret
   exact ⟨ret_bool HE2.out.symm, HF.out⟩
 ·go_wp2_with fail
  go_ret
  exact ⟨rfl, HF.out⟩
end
section
open Go.RowKit
def rV (l : List Int) : List Value := l.map fun r => .int .i64 r
theorem Tryz.info_i : (Tryz.prog.info? 3).map (fun i => (i.zero, i.size, i.bytes)) = some (some (.int .i64 0), 1, 8) := by kernel_rfl
set_option maxRecDepth 100000 in
set_option maxHeartbeats 1600000 in
theorem all_any (r : Int) (n : Nat) (hn : n ≤ 1073741824) (w : World) : Calls Tryz.prog 134 #[.int .i64 r, .int .i64 n] w fun e w' => ∃ v, e = .returned v ∧ w'.ownsRow w.heap.size 3 1 v n (rV (List.replicate n r)) ∧ Fr (fun _ => False) w w' := by
 have hnI : (n : Int) ≤ 1073741824 := by omega
 have HN := hid hn
 clear hn
 go_enter Tryz.func134, Tryz.ntmps134
 go_wp2_with fail
 go_loopw [5, 7] (fun v i wr => ∃ k : Nat, k ≤ n ∧ i = .int .i64 k ∧ wr.ownsRow w.heap.size 3 1 v k (rV (List.replicate k r)) ∧ Fr (fun _ => False) w wr) (fun _ i _ => n - (intOf i).toNat)
 case atStart => exact ⟨0, Nat.zero_le _, rfl, World.ownsRow_nil _ _ _ _, Fr.refl _ _⟩
 case round =>
  obtain ⟨k, hk, rfl, ho, hf⟩ := hrel
  by_cases hlt : k < n
  ·have hlt' : (k : Int) < n := by omega
   have hfa := hf.alloc (.cells #[.int .i64 r] 3)
   have hcell := cell_new1 wr (.int .i64 r) 3 (0, 0)
   have HOW := hid (World.ownsRow.alloc ho (.cells #[.int .i64 r] 3))
   have HFA := hid hfa; have HCE := hid hcell
   have HK := hid (show k + 1 ≤ 1099511627776 by have := HN.out; omega)
   have HLT := hid (fun q (hq : Value.ownBlock _ = some q) => (ho.lt q hq).1)
   obtain ⟨va, vc, rfl, -⟩ := own_len ho
   clear ho hf hfa hcell
   go_wp2_with (at_builtin; go_must (refine wpList_append1 rfl (.tmp 9) (.tmp 11) 64 rfl 3 (.int .i64 0) 8 Tryz.underlying64 Tryz.info_i rfl _ rfl w.heap.size k (rV (List.replicate k r)) HOW.out wr.heap.size 1 (.int .i64 r) rfl HCE.out rfl HK.out (by decide) HFA.out.size ?_))
   intro g cap w3 ho3 hf3 _
   have HF3 := hid (HFA.out.trans hf3 (U := fun _ => False) (fun _ _ h => h) (fun q hq e => by have := HLT.out q e.symm; omega))
   have HO3 := hid (show w3.ownsRow w.heap.size 3 1 (.slice (some ⟨g, 0, none⟩) (k + 1) cap) (k + 1) (rV (List.replicate (k + 1) r)) by
    have : rV (List.replicate (k + 1) r) = rV (List.replicate k r) ++ [.int .i64 r] := by rw [List.replicate_succ']; simp [rV]
    rw [this]; exact ho3)
   clear ho3 hf3
   go_wp2_with fail
   go_roundw
   case rel => exact ⟨k + 1, by omega, by go_num, HO3.out, HF3.out⟩
   case measure => simp [intOf]; omega
  ·obtain rfl : k = n := by omega
   go_wp2_with fail
   go_ret
   exact ⟨_, rfl, ho, hf⟩
end
end Go.Proofs.YtbegahbagnflnaaGreatDoor
