/- TreeValid: the law's walk. -/
import Derived.Test.YteihmagldhmjgaaDoorDocG
import Derived.Test.YteihmagldhmjgaaDoorWNodes
import Derived.Test.YteihmagldhmjgaaDoorNodRef
import Derived.Test.YteihmagldhmjgaaDoorNodSame
import Derived.Test.YteihmagldhmjgaaDoorTreeFirst
namespace Go.Proofs.YteihmagldhmjgaaDoor
open Go.RowKit

theorem same_flt {w : World} {pa : Nat → Addr} (h : Sent17 w pa) {f : Flt} {v : Value} (hv : ErrIs pa w f v) : Calls Tryd.prog 12 #[v, faultF f] w fun e w' => e = .returned (.bool true) ∧ Fr (fun _ => False) w w' := by
  have := same_err h hv f.c f.p f.l
  simpa [faultF] using this
set_option maxRecDepth 100000 in
set_option maxHeartbeats 1600000 in
theorem treeValid_any (pa : Nat → Addr) (v : Value) (l : List Nd) (x : Nd) (u : Array Value) (w : World) (h : NL (fun _ => True) w l v) (hx : NIn (fun _ => True) w x u) (hl : szL l ≤ 1048576) (hxs : x.sz ≤ 1048576) (hE : Sent17 w pa) (hg : 7 ≤ w.heap.size) :
    Calls Tryd.prog 4 #[v, .agg u] w fun e w' => e = .returned (.bool true) ∧ Fr (fun _ => False) w w' := by
  obtain ⟨va', la', rfl, ⟨va, vc, us1, rfl, -⟩, ⟨la, lc, us, rfl, -⟩⟩ := hx.open
  have hf0 := (Fr.refl (fun _ => False) w).alloc (.cells #[.int .i64 x.op, .int .i64 x.ln, .string x.s, .int .i64 x.v.k, .int .i64 x.v.n, .string x.v.s, .slice va x.v.l.length vc, .slice la x.l.length lc] 29)
  have HG0 := hid (heap_alloc_new w (.cells #[.int .i64 x.op, .int .i64 x.ln, .string x.s, .int .i64 x.v.k, .int .i64 x.v.n, .string x.v.s, .slice va x.v.l.length vc, .slice la x.l.length lc] 29))
  have HF0 := hid hf0
  have HFI := hid (tfirst_any pa _ (hE.frame hf0) (Nat.le_trans hg hf0.size))
  have HE := hid (fun (w2 : World) (hf : Fr (fun _ => False) w w2) => hE.frame hf)
  have HG := hid (fun (w2 : World) (hf : Fr (fun _ => False) w w2) => Nat.le_trans hg hf.size)
  have HL := hid (fun (w2 : World) (hf : Fr (fun _ => False) w w2) => h.frame hf fun _ _ => not_false)
  have HX := hid (fun (w2 : World) (hf : Fr (fun _ => False) w w2) => hx.frame hf fun _ _ => not_false)
  have HLS := hid hl; have HXS := hid hxs
  obtain ⟨a, cap, us2, rfl, -⟩ := h
  clear hE hg hx hf0 hl hxs
  go_enter Tryd.func4, Tryd.ntmps4
  go_upto_region 1 with fail
  generalize hW0 : w.alloc (.cells #[.int .i64 x.op, .int .i64 x.ln, .string x.s, .int .i64 x.v.k, .int .i64 x.v.n, .string x.v.s, .slice va x.v.l.length vc, .slice la x.l.length lc] 29) = W0 at *
  clear hW0
  go_wp2_with fail
  refine HFI.out.mono ?_
  rintro e w1 ⟨rfl, hf1⟩
  have HF1 := hid (HF0.out.trans' hf1)
  have HG1 := hid (hf1.heap HG0.out not_false)
  clear hf1
  have d0 : w1.cell? ⟨w.heap.size, 0, none⟩ = some (.int .i64 x.op) := by rw [cell_of_row _ _ 0 _ _ _ HG1.out]; rfl
  have d1 : w1.cell? ⟨w.heap.size, 1, none⟩ = some (.int .i64 x.ln) := by rw [cell_of_row _ _ 1 _ _ _ HG1.out]; rfl
  have d2 : w1.cell? ⟨w.heap.size, 2, none⟩ = some (.string x.s) := by rw [cell_of_row _ _ 2 _ _ _ HG1.out]; rfl
  have d3 : w1.cell? ⟨w.heap.size, 3, none⟩ = some (.int .i64 x.v.k) := by rw [cell_of_row _ _ 3 _ _ _ HG1.out]; rfl
  have d4 : w1.cell? ⟨w.heap.size, 4, none⟩ = some (.int .i64 x.v.n) := by rw [cell_of_row _ _ 4 _ _ _ HG1.out]; rfl
  have d5 : w1.cell? ⟨w.heap.size, 5, none⟩ = some (.string x.v.s) := by rw [cell_of_row _ _ 5 _ _ _ HG1.out]; rfl
  have d6 : w1.cell? ⟨w.heap.size, 6, none⟩ = some (.slice va x.v.l.length vc) := by rw [cell_of_row _ _ 6 _ _ _ HG1.out]; rfl
  have d7 : w1.cell? ⟨w.heap.size, 7, none⟩ = some (.slice la x.l.length lc) := by rw [cell_of_row _ _ 7 _ _ _ HG1.out]; rfl
  have HN1 := hid (wNodes_any l (by have := HLS.out; omega) 5000 (by decide) _ w1 _ (HL.out w1 HF1.out))
  go_wp2_with fail
  refine HN1.out.mono ?_
  rintro e w2 ⟨⟨b1, rfl⟩, hf2⟩
  have HF2 := hid (HF1.out.trans' hf2)
  replace d0 := hf2.cell d0 not_false
  replace d1 := hf2.cell d1 not_false
  replace d2 := hf2.cell d2 not_false
  replace d3 := hf2.cell d3 not_false
  replace d4 := hf2.cell d4 not_false
  replace d5 := hf2.cell d5 not_false
  replace d6 := hf2.cell d6 not_false
  replace d7 := hf2.cell d7 not_false
  clear hf2
  cases b1
  · go_wp2_with fail
    go_ret
    exact ⟨rfl, HF2.out⟩
  have hfa := (Fr.refl (fun _ => False) w2).alloc (.cells #[.int .i64 x.op, .int .i64 x.ln, .string x.s, .int .i64 x.v.k, .int .i64 x.v.n, .string x.v.s, .slice va x.v.l.length vc, .slice la x.l.length lc] 29)
  have hn1 := NL.lit1 (D := fun _ => True) (heap_alloc_new w2 (.cells #[.int .i64 x.op, .int .i64 x.ln, .string x.s, .int .i64 x.v.k, .int .i64 x.v.n, .string x.v.s, .slice va x.v.l.length vc, .slice la x.l.length lc] 29)) trivial (HX.out _ (HF2.out.trans' hfa))
  have HN2 := hid (wNodes_any [x] (by have := HXS.out; simp only [szL]; omega) 5000 (by decide) _ _ _ hn1)
  have HFA := hid hfa
  clear hfa hn1
  go_wp2_with fail
  refine HN2.out.mono ?_
  rintro e w3 ⟨⟨b2, rfl⟩, hf3⟩
  have hf23 := HFA.out.trans' hf3
  have HF3 := hid (HF2.out.trans' hf23)
  replace d0 := hf23.cell d0 not_false
  replace d1 := hf23.cell d1 not_false
  replace d2 := hf23.cell d2 not_false
  replace d3 := hf23.cell d3 not_false
  replace d4 := hf23.cell d4 not_false
  replace d5 := hf23.cell d5 not_false
  replace d6 := hf23.cell d6 not_false
  replace d7 := hf23.cell d7 not_false
  clear hf3 hf23
  cases b2
  · go_wp2_with fail
    go_ret
    exact ⟨rfl, HF3.out⟩
  have HNC := hid (nnodes_any l (by have := HLS.out; omega) _ w3 _ (HL.out w3 HF3.out))
  go_wp2_with fail
  refine HNC.out.mono ?_
  rintro e w4 ⟨v4, rfl, hf4, hn4⟩
  have HF4 := hid (HF3.out.trans' hf4)
  replace d0 := hf4.cell d0 not_false
  replace d1 := hf4.cell d1 not_false
  replace d2 := hf4.cell d2 not_false
  replace d3 := hf4.cell d3 not_false
  replace d4 := hf4.cell d4 not_false
  replace d5 := hf4.cell d5 not_false
  replace d6 := hf4.cell d6 not_false
  replace d7 := hf4.cell d7 not_false
  have HN4 := hid hn4
  obtain ⟨a4, c4, us4, rfl, -⟩ := hn4
  clear hf4
  go_upto_region 7 with fail
  refine wp_region_ord [(0, 0), (2, 0), (1, 1), (3, 1), (4, 1), (5, 0), (6, 0), (8, 0), (7, 1), (9, 1), (10, 1), (11, 0), (12, 0), (13, 0), (14, 0), (15, 1), (16, 0), (17, 0)] (fun w' => w'.cell? ⟨w.heap.size, 0, none⟩ = some (.int .i64 x.op) ∧ w'.cell? ⟨w.heap.size, 1, none⟩ = some (.int .i64 x.ln) ∧ w'.cell? ⟨w.heap.size, 2, none⟩ = some (.string x.s) ∧ w'.cell? ⟨w.heap.size, 3, none⟩ = some (.int .i64 x.v.k) ∧ w'.cell? ⟨w.heap.size, 4, none⟩ = some (.int .i64 x.v.n) ∧ w'.cell? ⟨w.heap.size, 5, none⟩ = some (.string x.v.s) ∧ w'.cell? ⟨w.heap.size, 6, none⟩ = some (.slice va x.v.l.length vc) ∧ w'.cell? ⟨w.heap.size, 7, none⟩ = some (.slice la x.l.length lc)) (by kernel_rfl) (by kernel_rfl) (by kernel_rfl) rfl (fun _ _ d _ _ h => by cases d <;> exact h) ⟨d0, d1, d2, d3, d4, d5, d6, d7⟩ ?_
  iterate 2 (refine wpO_take ?_ rfl (by kernel_rfl) ?_ ?_; rotate_left; (· intro w' hS; go_simp; try with_reducible rfl); try simp only [Act.put, List.setIfInBounds_toArray, List.set_cons_zero, List.set_cons_succ])
  refine wpO_run rfl (by kernel_rfl) (fun K hK => ?_); go_simp
  refine (tvalid_any pa l (by have := HLS.out; omega) _ w4.drew _ (HL.out _ HF4.out.drew) (HE.out _ HF4.out.drew) (HG.out _ HF4.out.drew)).mono ?_
  rintro e w5 ⟨v5, rfl, hf5, hv5⟩
  have k0 : w5.cell? ⟨w.heap.size, 0, none⟩ = some (.int .i64 x.op) := hf5.cell (show w4.drew.cell? _ = _ from d0) not_false
  have k1 : w5.cell? ⟨w.heap.size, 1, none⟩ = some (.int .i64 x.ln) := hf5.cell (show w4.drew.cell? _ = _ from d1) not_false
  have k2 : w5.cell? ⟨w.heap.size, 2, none⟩ = some (.string x.s) := hf5.cell (show w4.drew.cell? _ = _ from d2) not_false
  have k3 : w5.cell? ⟨w.heap.size, 3, none⟩ = some (.int .i64 x.v.k) := hf5.cell (show w4.drew.cell? _ = _ from d3) not_false
  have k4 : w5.cell? ⟨w.heap.size, 4, none⟩ = some (.int .i64 x.v.n) := hf5.cell (show w4.drew.cell? _ = _ from d4) not_false
  have k5 : w5.cell? ⟨w.heap.size, 5, none⟩ = some (.string x.v.s) := hf5.cell (show w4.drew.cell? _ = _ from d5) not_false
  have k6 : w5.cell? ⟨w.heap.size, 6, none⟩ = some (.slice va x.v.l.length vc) := hf5.cell (show w4.drew.cell? _ = _ from d6) not_false
  have k7 : w5.cell? ⟨w.heap.size, 7, none⟩ = some (.slice la x.l.length lc) := hf5.cell (show w4.drew.cell? _ = _ from d7) not_false
  have HF5 := hid (HF4.out.drew.trans' hf5); have HFF5 := hid hf5
  have HV5 := hid hv5
  clear hf5 hv5 d0 d1 d2 d3 d4 d5 d6 d7
  refine hK _ _ (fun _ => ⟨k0, k1, k2, k3, k4, k5, k6, k7⟩) ?_
  clear hK K
  try simp only [Act.put, List.setIfInBounds_toArray, List.set_cons_zero, List.set_cons_succ]
  refine wpO_run rfl (by kernel_rfl) (fun K hK => ?_); go_simp
  refine (dvalid_any l (by have := HLS.out; omega) _ w5 _ (HL.out _ HF5.out)).mono ?_
  rintro e w6 ⟨rfl, hf6⟩
  have m0 : w6.cell? ⟨w.heap.size, 0, none⟩ = some (.int .i64 x.op) := hf6.cell k0 not_false
  have m1 : w6.cell? ⟨w.heap.size, 1, none⟩ = some (.int .i64 x.ln) := hf6.cell k1 not_false
  have m2 : w6.cell? ⟨w.heap.size, 2, none⟩ = some (.string x.s) := hf6.cell k2 not_false
  have m3 : w6.cell? ⟨w.heap.size, 3, none⟩ = some (.int .i64 x.v.k) := hf6.cell k3 not_false
  have m4 : w6.cell? ⟨w.heap.size, 4, none⟩ = some (.int .i64 x.v.n) := hf6.cell k4 not_false
  have m5 : w6.cell? ⟨w.heap.size, 5, none⟩ = some (.string x.v.s) := hf6.cell k5 not_false
  have m6 : w6.cell? ⟨w.heap.size, 6, none⟩ = some (.slice va x.v.l.length vc) := hf6.cell k6 not_false
  have m7 : w6.cell? ⟨w.heap.size, 7, none⟩ = some (.slice la x.l.length lc) := hf6.cell k7 not_false
  have HF6 := hid (HF5.out.trans' hf6); have HFF6 := hid (HFF5.out.trans' hf6)
  have HV6 := hid (HV5.out.frame hf6)
  clear hf6 HV5 k0 k1 k2 k3 k4 k5 k6 k7
  refine hK _ _ (fun _ => ⟨m0, m1, m2, m3, m4, m5, m6, m7⟩) ?_
  clear hK K
  try simp only [Act.put, List.setIfInBounds_toArray, List.set_cons_zero, List.set_cons_succ]
  refine wpO_run rfl (by kernel_rfl) (fun K hK => ?_); go_simp
  refine (same_flt (HE.out _ HF6.out) HV6.out).mono ?_
  rintro e w7 ⟨rfl, hf7⟩
  have n0 : w7.cell? ⟨w.heap.size, 0, none⟩ = some (.int .i64 x.op) := hf7.cell m0 not_false
  have n1 : w7.cell? ⟨w.heap.size, 1, none⟩ = some (.int .i64 x.ln) := hf7.cell m1 not_false
  have n2 : w7.cell? ⟨w.heap.size, 2, none⟩ = some (.string x.s) := hf7.cell m2 not_false
  have n3 : w7.cell? ⟨w.heap.size, 3, none⟩ = some (.int .i64 x.v.k) := hf7.cell m3 not_false
  have n4 : w7.cell? ⟨w.heap.size, 4, none⟩ = some (.int .i64 x.v.n) := hf7.cell m4 not_false
  have n5 : w7.cell? ⟨w.heap.size, 5, none⟩ = some (.string x.v.s) := hf7.cell m5 not_false
  have n6 : w7.cell? ⟨w.heap.size, 6, none⟩ = some (.slice va x.v.l.length vc) := hf7.cell m6 not_false
  have n7 : w7.cell? ⟨w.heap.size, 7, none⟩ = some (.slice la x.l.length lc) := hf7.cell m7 not_false
  have HF7 := hid (HF6.out.trans' hf7); have HFF7 := hid (HFF6.out.trans' hf7)
  clear hf7 HV6 m0 m1 m2 m3 m4 m5 m6 m7
  refine hK _ _ (fun _ => ⟨n0, n1, n2, n3, n4, n5, n6, n7⟩) ?_
  clear hK K
  try simp only [Act.put, List.setIfInBounds_toArray, List.set_cons_zero, List.set_cons_succ]
  iterate 3 (refine wpO_take ?_ rfl (by kernel_rfl) ?_ ?_; rotate_left; (· intro w' hS; go_simp; try with_reducible rfl); try simp only [Act.put, List.setIfInBounds_toArray, List.set_cons_zero, List.set_cons_succ])
  refine wpO_run rfl (by kernel_rfl) (fun K hK => ?_); go_simp
  refine (texpr_any pa x (by have := HXS.out; omega) _ w7 _ (HX.out _ HF7.out) (HE.out _ HF7.out) (HG.out _ HF7.out)).mono ?_
  rintro e w8 ⟨v8, rfl, hf8, hv8⟩
  have p0 : w8.cell? ⟨w.heap.size, 0, none⟩ = some (.int .i64 x.op) := hf8.cell n0 not_false
  have p1 : w8.cell? ⟨w.heap.size, 1, none⟩ = some (.int .i64 x.ln) := hf8.cell n1 not_false
  have p2 : w8.cell? ⟨w.heap.size, 2, none⟩ = some (.string x.s) := hf8.cell n2 not_false
  have p3 : w8.cell? ⟨w.heap.size, 3, none⟩ = some (.int .i64 x.v.k) := hf8.cell n3 not_false
  have p4 : w8.cell? ⟨w.heap.size, 4, none⟩ = some (.int .i64 x.v.n) := hf8.cell n4 not_false
  have p5 : w8.cell? ⟨w.heap.size, 5, none⟩ = some (.string x.v.s) := hf8.cell n5 not_false
  have p6 : w8.cell? ⟨w.heap.size, 6, none⟩ = some (.slice va x.v.l.length vc) := hf8.cell n6 not_false
  have p7 : w8.cell? ⟨w.heap.size, 7, none⟩ = some (.slice la x.l.length lc) := hf8.cell n7 not_false
  have HF8 := hid (HF7.out.trans' hf8); have HFF8 := hid (HFF7.out.trans' hf8)
  have HV8 := hid hv8
  clear hf8 hv8 n0 n1 n2 n3 n4 n5 n6 n7
  refine hK _ _ (fun _ => ⟨p0, p1, p2, p3, p4, p5, p6, p7⟩) ?_
  clear hK K
  try simp only [Act.put, List.setIfInBounds_toArray, List.set_cons_zero, List.set_cons_succ]
  refine wpO_run rfl (by kernel_rfl) (fun K hK => ?_); go_simp
  refine (dvalidexpr_any x (by have := HXS.out; omega) _ w8 _ (HX.out _ HF8.out)).mono ?_
  rintro e w9 ⟨rfl, hf9⟩
  have q0 : w9.cell? ⟨w.heap.size, 0, none⟩ = some (.int .i64 x.op) := hf9.cell p0 not_false
  have q1 : w9.cell? ⟨w.heap.size, 1, none⟩ = some (.int .i64 x.ln) := hf9.cell p1 not_false
  have q2 : w9.cell? ⟨w.heap.size, 2, none⟩ = some (.string x.s) := hf9.cell p2 not_false
  have q3 : w9.cell? ⟨w.heap.size, 3, none⟩ = some (.int .i64 x.v.k) := hf9.cell p3 not_false
  have q4 : w9.cell? ⟨w.heap.size, 4, none⟩ = some (.int .i64 x.v.n) := hf9.cell p4 not_false
  have q5 : w9.cell? ⟨w.heap.size, 5, none⟩ = some (.string x.v.s) := hf9.cell p5 not_false
  have q6 : w9.cell? ⟨w.heap.size, 6, none⟩ = some (.slice va x.v.l.length vc) := hf9.cell p6 not_false
  have q7 : w9.cell? ⟨w.heap.size, 7, none⟩ = some (.slice la x.l.length lc) := hf9.cell p7 not_false
  have HF9 := hid (HF8.out.trans' hf9); have HFF9 := hid (HFF8.out.trans' hf9)
  have HV9 := hid (HV8.out.frame hf9)
  clear hf9 HV8 p0 p1 p2 p3 p4 p5 p6 p7
  refine hK _ _ (fun _ => ⟨q0, q1, q2, q3, q4, q5, q6, q7⟩) ?_
  clear hK K
  try simp only [Act.put, List.setIfInBounds_toArray, List.set_cons_zero, List.set_cons_succ]
  refine wpO_run rfl (by kernel_rfl) (fun K hK => ?_); go_simp
  refine (same_flt (HE.out _ HF9.out) HV9.out).mono ?_
  rintro e wa ⟨rfl, hfa⟩
  have r0 : wa.cell? ⟨w.heap.size, 0, none⟩ = some (.int .i64 x.op) := hfa.cell q0 not_false
  have r1 : wa.cell? ⟨w.heap.size, 1, none⟩ = some (.int .i64 x.ln) := hfa.cell q1 not_false
  have r2 : wa.cell? ⟨w.heap.size, 2, none⟩ = some (.string x.s) := hfa.cell q2 not_false
  have r3 : wa.cell? ⟨w.heap.size, 3, none⟩ = some (.int .i64 x.v.k) := hfa.cell q3 not_false
  have r4 : wa.cell? ⟨w.heap.size, 4, none⟩ = some (.int .i64 x.v.n) := hfa.cell q4 not_false
  have r5 : wa.cell? ⟨w.heap.size, 5, none⟩ = some (.string x.v.s) := hfa.cell q5 not_false
  have r6 : wa.cell? ⟨w.heap.size, 6, none⟩ = some (.slice va x.v.l.length vc) := hfa.cell q6 not_false
  have r7 : wa.cell? ⟨w.heap.size, 7, none⟩ = some (.slice la x.l.length lc) := hfa.cell q7 not_false
  have HFa := hid (HF9.out.trans' hfa); have HFFa := hid (HFF9.out.trans' hfa)
  clear hfa HV9 q0 q1 q2 q3 q4 q5 q6 q7
  refine hK _ _ (fun _ => ⟨r0, r1, r2, r3, r4, r5, r6, r7⟩) ?_
  clear hK K
  try simp only [Act.put, List.setIfInBounds_toArray, List.set_cons_zero, List.set_cons_succ]
  iterate 4 (refine wpO_take ?_ rfl (by kernel_rfl) ?_ ?_; rotate_left; (· intro w' hS; go_simp; try with_reducible rfl); try simp only [Act.put, List.setIfInBounds_toArray, List.set_cons_zero, List.set_cons_succ])
  refine wpO_run rfl (by kernel_rfl) (fun K hK => ?_); go_simp
  refine (nsames_refl l _ _ wa _ _ (HL.out _ HFa.out) (HN4.out.frame (show Fr (fun _ => False) w4 wa from (Fr.refl (fun _ => False) w4).drew.trans' HFFa.out) fun _ _ => not_false)).mono ?_
  rintro e wb ⟨rfl, hfb⟩
  have s0 : wb.cell? ⟨w.heap.size, 0, none⟩ = some (.int .i64 x.op) := hfb.cell r0 not_false
  have s1 : wb.cell? ⟨w.heap.size, 1, none⟩ = some (.int .i64 x.ln) := hfb.cell r1 not_false
  have s2 : wb.cell? ⟨w.heap.size, 2, none⟩ = some (.string x.s) := hfb.cell r2 not_false
  have s3 : wb.cell? ⟨w.heap.size, 3, none⟩ = some (.int .i64 x.v.k) := hfb.cell r3 not_false
  have s4 : wb.cell? ⟨w.heap.size, 4, none⟩ = some (.int .i64 x.v.n) := hfb.cell r4 not_false
  have s5 : wb.cell? ⟨w.heap.size, 5, none⟩ = some (.string x.v.s) := hfb.cell r5 not_false
  have s6 : wb.cell? ⟨w.heap.size, 6, none⟩ = some (.slice va x.v.l.length vc) := hfb.cell r6 not_false
  have s7 : wb.cell? ⟨w.heap.size, 7, none⟩ = some (.slice la x.l.length lc) := hfb.cell r7 not_false
  have HFb := hid (HFa.out.trans' hfb)
  clear hfb
  refine hK _ _ (fun _ => ⟨s0, s1, s2, s3, s4, s5, s6, s7⟩) ?_
  clear hK K
  try simp only [Act.put, List.setIfInBounds_toArray, List.set_cons_zero, List.set_cons_succ]
  iterate 2 (refine wpO_take ?_ rfl (by kernel_rfl) ?_ ?_; rotate_left; (· intro w' hS; go_simp; try with_reducible rfl); try simp only [Act.put, List.setIfInBounds_toArray, List.set_cons_zero, List.set_cons_succ])
  refine wpO_end ?_
  go_wp2_with fail
  go_ret
  exact ⟨rfl, HFb.out⟩
end Go.Proofs.YteihmagldhmjgaaDoor
