/- Package disk: the closure of Clone. -/
import Derived.Test.YtlhbgobjhddhlaaGreatDoorPMap
import Derived.Test.YtlhbgobjhddhlaaGreatDoorDiskT
namespace Go.Proofs.YtlhbgobjhddhlaaGreatDoor
open Go.RowKit
variable {w w' : World}

theorem cl_nil (ob : Nat) : Calls Tryz.prog 35 #[.pointer none, .pointer (some ⟨ob, 0, none⟩)] w fun e w' => e = .returned (.pointer none) ∧ w = w' := by
  go_enter Tryz.func35, Tryz.ntmps35
  go_wp2_with fail
  go_ret
  exact ⟨rfl, rfl⟩
set_option maxRecDepth 100000 in
set_option maxHeartbeats 3200000 in
theorem cl_any {ob mb : Nat} {M : List (Nat × Nat)} (hown : w.heap[ob]? = some (.cells #[.map (some mb)] 75 (0, 0))) (hm : PMapAt w mb M) {k : Nat} {f : FS} (hf : FileAt w k f) (hl : f.by_.length ≤ 4194304) :
    Calls Tryz.prog 35 #[fP k, .pointer (some ⟨ob, 0, none⟩)] w fun e w' => ∃ g M', e = .returned (fP g) ∧ PMapAt w' mb M' ∧ Fr (fun j => j = mb) w w' ∧ ((M' = M ∧ lkp M k = some g) ∨ (M' = M ++ [(k, g)] ∧ lkp M k = none ∧ w.heap.size ≤ g ∧ FileAt w' g f)) := by
  have hk := hf.fbk
  have hlk := hm.look hk
  have hco : w.cell? ⟨ob, 0, none⟩ = some (.map (some mb)) := by rw [cell_of_row _ _ _ _ _ _ hown]; rfl
  cases hlo : lkp M k with
  | some g =>
    rw [hlo] at hlk
    unfold pV at hlk
    have HM := hid hm; have HLO := hid hlo
    clear hm hlo hk hf hown hl
    unfold fP at hlk ⊢
    go_enter Tryz.func35, Tryz.ntmps35
    go_wp2_with fail
    go_ret
    exact ⟨g, rfl, M, HM.out, Fr.refl _ _, rfl, rfl⟩
  | none =>
    rw [hlo] at hlk
    unfold pV at hlk
    obtain ⟨a, c, f0, f1, f2, hbs, ffz, hhk, -⟩ := hf.cells
    have HM := hid hm; have HLO := hid hlo; have HK := hid hk; have HF := hid hf; have HO := hid hown; have HBS := hid hbs; have HL := hid hl; have F0 := hid f0; have F1 := hid f1; have F2 := hid f2; have HCO := hid hco
    have hcl := fun (W : World) (hF : Fr (fun _ => False) w W) => clone_any (BB w) (.slice a f.by_.length c) f.by_ W (hbs.frame hF fun _ _ => id) (by omega)
    have HCL := hid hcl
    clear hm hlo hk hf hown hl f0 f1 f2 hbs ffz hhk hcl
    unfold fP at hlk ⊢
    go_enter Tryz.func35, Tryz.ntmps35
    go_upto_region 4 with fail
    clear hlk hco
    refine wp_region_ord [(0, 0), (1, 0), (2, 0), (3, 0), (4, 0), (5, 0), (6, 0), (7, 0), (8, 0), (9, 0), (11, 0), (12, 0), (13, 0), (14, 0), (10, 1), (15, 0), (16, 1), (17, 1)] (fun w' => Fr (fun _ => False) w w') (by kernel_rfl) (by kernel_rfl) (by kernel_rfl) rfl (fun _ _ d _ _ h => by cases d <;> exact h) (Fr.refl _ _).drew ?_
    (refine wpO_take ?_ rfl (by kernel_rfl) ?_ ?_; rotate_left; (· intro w' hS; have d1 := hS.cell HCO.out not_false; go_simp; try with_reducible rfl); try simp only [Act.put, List.setIfInBounds_toArray, List.set_cons_zero, List.set_cons_succ])
    iterate 4 (refine wpO_take ?_ rfl (by kernel_rfl) ?_ ?_; rotate_left; (· intro w' hS; go_simp; try with_reducible rfl); try simp only [Act.put, List.setIfInBounds_toArray, List.set_cons_zero, List.set_cons_succ])
    (refine wpO_take ?_ rfl (by kernel_rfl) ?_ ?_; rotate_left; (· intro w' hS; have d1 := hS.cell F0.out not_false; go_simp; try with_reducible rfl); try simp only [Act.put, List.setIfInBounds_toArray, List.set_cons_zero, List.set_cons_succ])
    iterate 3 (refine wpO_take ?_ rfl (by kernel_rfl) ?_ ?_; rotate_left; (· intro w' hS; go_simp; try with_reducible rfl); try simp only [Act.put, List.setIfInBounds_toArray, List.set_cons_zero, List.set_cons_succ])
    (refine wpO_take ?_ rfl (by kernel_rfl) ?_ ?_; rotate_left; (· intro w' hS; have d1 := hS.cell F1.out not_false; go_simp; try with_reducible rfl); try simp only [Act.put, List.setIfInBounds_toArray, List.set_cons_zero, List.set_cons_succ])
    iterate 3 (refine wpO_take ?_ rfl (by kernel_rfl) ?_ ?_; rotate_left; (· intro w' hS; go_simp; try with_reducible rfl); try simp only [Act.put, List.setIfInBounds_toArray, List.set_cons_zero, List.set_cons_succ])
    (refine wpO_take ?_ rfl (by kernel_rfl) ?_ ?_; rotate_left; (· intro w' hS; have d1 := hS.cell F2.out not_false; go_simp; try with_reducible rfl); try simp only [Act.put, List.setIfInBounds_toArray, List.set_cons_zero, List.set_cons_succ])
    have hfd := (Fr.refl (fun _ => False) w).drew
    have hsz : w.drew.heap.size = w.heap.size := rfl
    have HSZ := hid hsz
    clear hsz
    generalize w.drew = Wd at *
    refine wpO_run rfl (by kernel_rfl) (fun K hK => ?_); go_simp
    refine (HCL.out Wd hfd).mono ?_
    rintro e w6 ⟨v', rfl, ho6, hf6⟩
    have hf6w := hfd.trans' hf6
    have hNV : NV v' := by
      rcases own_heap ho6 with ⟨e, -⟩ | ⟨g, cap, e, -⟩
      · exact .inl e
      · exact .inr ⟨_, _, _, e⟩
    have hB6 := ho6.bs2
    obtain ⟨a8, c8, hv8, -⟩ := own_len ho6
    subst hv8
    refine hK _ _ (fun _ => hf6w) ?_
    clear hK K
    try simp only [Act.put, List.setIfInBounds_toArray, List.set_cons_zero, List.set_cons_succ]
    (refine wpO_take ?_ rfl (by kernel_rfl) ?_ ?_; rotate_left; (· intro w' hS; go_simp; try with_reducible rfl); try simp only [Act.put, List.setIfInBounds_toArray, List.set_cons_zero, List.set_cons_succ])
    have hfa := (Fr.refl (fun _ => False) w6).alloc (.cells #[.int .i64 f.id, .slice a8 f.by_.length c8, .int .i64 f.sy] 78)
    have hfile : FileAt (w6.alloc (.cells #[.int .i64 f.id, .slice a8 f.by_.length c8, .int .i64 f.sy] 78)) w6.heap.size f := ⟨_, heap_alloc_new w6 _, hB6.keep0 hfa, hNV⟩
    have hf7 := hf6w.trans' hfa
    have hge : w.heap.size ≤ w6.heap.size := hf6w.size
    have hm7 := HM.out.frame hf7 not_false fun _ _ => not_false
    obtain ⟨w8, hrun, hm8, hf8, hs8⟩ := hm7.push (HK.out.frame hf7 not_false) HLO.out w6.heap.size
    unfold fP at hrun
    have hmb : ¬ w6.heap.size = mb := by have := HM.out.lt; omega
    have HF7 := hid hf7; have HM8 := hid hm8; have HF8 := hid hf8; have HFI := hid hfile; have HGE := hid hge; have HMB := hid hmb
    clear hfd hf6 hf6w ho6 hNV hB6 hfile hf7 hge hm7 hm8 hf8 hs8 hmb hfa
    refine wpO_run rfl (by kernel_rfl) (fun K hK => ?_)
    go_simp
    refine hK _ _ (fun _ => HF7.out) ?_
    clear hK K
    try simp only [Act.put, List.setIfInBounds_toArray, List.set_cons_zero, List.set_cons_succ]
    refine wpO_run rfl (by kernel_rfl) (fun K hK => ?_)
    go_simp
    refine hK _ _ (last_skip (by kernel_rfl)) ?_
    clear hK K
    try simp only [Act.put, List.setIfInBounds_toArray, List.set_cons_zero, List.set_cons_succ]
    refine wpO_end ?_
    have hco8 : w8.cell? ⟨ob, 0, none⟩ = some (.map (some mb)) := HF8.out.cell (HF7.out.cell HCO.out not_false) (fun e => by
      obtain ⟨⟨es, cl, h1, -⟩, -⟩ := HM.out
      rw [← (show ob = mb from e), HO.out] at h1
      cases h1)
    have hk8 : FBk w8 k := (HK.out.frame HF7.out not_false).frame HF8.out fun e => by
      obtain ⟨⟨es, cl, h1, -⟩, -⟩ := HM.out
      obtain ⟨cs, h2⟩ := HK.out
      rw [(show k = mb from e), h1] at h2
      cases h2
    have hlk8 := HM8.out.look hk8
    rw [lkp_snoc HLO.out, if_pos rfl] at hlk8
    unfold pV fP at hlk8
    go_wp2_with fail
    go_ret
    refine ⟨w6.heap.size, rfl, M ++ [(k, w6.heap.size)], HM8.out, (HF7.out.mono fun _ _ h => h.elim).trans' HF8.out, rfl, HGE.out, HFI.out.frame HF8.out (fun e => HMB.out e) fun j hj e => ?_⟩
    obtain ⟨cs, fz, h2⟩ := hj
    obtain ⟨⟨es, cl, h1, -⟩, -⟩ := HM.out
    rw [(show j = mb from e), HF7.out.heap h1 not_false] at h2
    cases h2
end Go.Proofs.YtlhbgobjhddhlaaGreatDoor
